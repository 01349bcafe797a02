/- Parts of the proof, joined and shortened by a program: the plain machine, the functions as it prints them, and the mathematics over them. -/
import Derived.Calls
import Derived.Still
import Derived.Orders
import Derived.Laws.Sem
import Derived.Test.YtkichehglnecnaaGreatDoorProg
import Derived.WalkKit
import Derived.WalkSmall
import Derived.Below
import Derived.Laws.AppendOwn
import Derived.Lib.LaidTab
import Derived.Lib.ItoaNum
import Derived.KernelRfl
import Derived.Laws.StructEq
import Derived.Laws.Slices
import Derived.Laws.Cells
import Derived.Laws.Strings
import Derived.Laws.MakeOwn
import Derived.Laws.BytesString
import Derived.Maps.AppendAt
import Derived.Lib.AppendStr
import Derived.Lib.UnsafeStr
import Derived.MapKept
import Derived.TacticsIn
import Derived.RangeFuncIn
import Derived.RangeFuncLeaves
import Derived.Sort.QuietThIn
set_option linter.unusedVariables false
set_option linter.unusedSimpArgs false
set_option maxRecDepth 100000
set_option maxHeartbeats 4000000
namespace Go.Proofs.YtkichehglnecnaaGreatDoor
section
open Option renaming some → a6, none → a7
theorem aa.{u} {d:Sort u} (a b:d):cond true a b=a:=rfl
theorem ac.{u} {d:Sort u} (a b:d):cond false a b=b:=rfl
theorem am.{u} {c:Prop} {h:Decidable c} (d:c) {f:Sort u} {t e:f}:ite c t e=t:=if_pos d
theorem aq.{u} {c:Prop} {h:Decidable c} (d:¬c) {f:Sort u} {t e:f}:ite c t e=e:=if_neg d
inductive Ty where
 |unit
 |bool
 |int (k:IntKind)
 |str
 |list (t:Ty)
 |pair (a b:Ty)
 deriving DecidableEq
@[reducible] def Ty.den:Ty->Type
 |.unit=>Unit
 |.bool=>Bool
 |.int _=>Int
 |.str=>List UInt8
 |.list t=>List t.den
 |.pair a b=>a.den×b.den
def Ty.dflt:(t:Ty)->t.den
 |.unit=>()
 |.bool=>false
 |.int _=>0
 |.str=>[]
 |.list _=>[]
 |.pair a b=>(a.dflt,b.dflt)
def Ty.size:Ty->Nat
 |.unit=>0
 |.pair a b=>a.size+b.size
 |_=>1
def Ty.isAgg:Ty->Bool
 |.unit=>true
 |.pair _ _=>true
 |_=>false
def ku {t':Ty} (t:Ty) (x:t'.den):Option t.den:=if h:t'=t then a6 (cast (congrArg Ty.den h) x)else a7
def Ty.same:(t:Ty)->t.den->t.den->Bool
 |.unit,_,_=>true
 |.bool,x,y=>x==y
 |.int _,x,y=>x==y
 |.str,x,y=>x==y
 |.list _,_,_=>false
 |.pair a b,x,y=>a.same x.1 y.1&&b.same x.2 y.2
def Ty.comparable:Ty->Bool
 |.list _=>false
 |.pair a b=>a.comparable&&b.comparable
 |_=>true
def sub {d:Type} (l:List d) (lo hi:Int):List d:=(l.take hi.toNat).drop lo.toNat
inductive bK where
 |undef
 |val (t:Ty) (x:t.den)
 |nils
 |nilp
 |nilfn
 |tup (l:List bK)
 |agg (l:List bK)
 |cellp (t:Ty) (x:t.den)
 |ptr (id off:Nat)
 |slc (id ver:Nat) (view:Option (Int×Int))
 |ep (id ver:Nat) (i:Nat) (off:Nat)
 |fn (f:FuncId) (caps:List bK)
 |mfn (f:FuncId) (fst:List bK)
 |mpv (id:Nat)
 |yld (id:Nat)
 |emp
 |lst (t:Ty) (x:List t.den) (nil:Bool)
 |slf (id:Nat)
 |sd (id ver:Nat)
inductive Ex where
 |normal
 |exit (id:Nat)
 |goto (l:Nat)
 |ret
inductive dJ where
 |box (t:TypeId) (cells:List bK)
 |arr (t:Ty) (ver:Nat) (xs:List t.den)
 |lp (f:FuncId) (fr:List bK) (ps:List Nat) (jk bd:Code) (key:Option Nat) (state:Nat) (pend:Option Ex)
 |dead
 |mp (kk vk:IntKind) (es:List (Int×Int))
abbrev gG:=List (Nat×dJ)
def dM:gG->Nat->Option dJ
 |[],_=>a7
 |(k,o)::h,i=>bif k==i then a6 o else dM h i
def iT:gG->Nat->dJ->gG
 |[],_,_=>[]
 |(k,o)::h,i,d=>bif k==i then(k,d)::h else(k,o)::iT h i d
structure St where
 fr:List bK
 stk:List (List bK)
 hp:gG
 nxt:Nat
inductive TK where
 |bool|str|other
 |int (k:IntKind)
 |slice (e:TypeId)
 |struct (fs:List (Nat×TypeId))
 |fn
 |ptr (e:TypeId)
 |map (k e:TypeId)
structure TI where
 known:Bool
 k:TK
 size:Nat
 bytes:Nat
 ty:Option Ty
 zero:List bK
 eq:Bool
 bld:Bool:=false
 keep:Bool:=false
instance:Inhabited TI:=⟨⟨false,.other,0,0,a7,[],false,false,false⟩⟩
inductive TT where
 |nil
 |node (k:Nat) (i:TI) (l r:TT)
def TT.at:TT->TypeId->TI
 |.nil,_=>default
 |.node k i l r,t=>bif Nat.beq k t then i else bif Nat.blt t k then l.at t else r.at t
def TI.isAgg (i:TI):Bool:=match i.k with|.struct _=>true|_=>false
def flat:(t:Ty)->t.den->List bK
 |.unit,_=>[]
 |.pair a b,x=>flat a x.1++flat b x.2
 |.bool,x=>[.val .bool x]
 |.int k,x=>[.val (.int k) x]
 |.str,x=>[.val .str x]
 |.list t,x=>[.val (.list t) x]
def bK.cells:bK->Option (List bK)
 |.val t x=>a6 (flat t x)
 |.agg l=>a6 l
 |.undef=>a7
 |.tup _=>a7
 |v=>a6 [v]
def leaf (t:Ty):bK->Option t.den
 |.val t' x=>ku t x
 |.nils=>match t with|.list _=>a6 []|_=>a7
 |_=>a7
def mk:(t:Ty)->List bK->Option (t.den×List bK)
 |.unit,l=>a6 ((),l)
 |.pair a b,l=>
  match mk a l with
  |some (x,d)=>match mk b d with
   |some (y,e)=>a6 ((x,y),e)
   |none=>a7
  |none=>a7
 |.bool,c::l=>match leaf .bool c with|some x=>a6 (x,l)|none=>a7
 |.int k,c::l=>match leaf (.int k) c with|some x=>a6 (x,l)|none=>a7
 |.str,c::l=>match leaf .str c with|some x=>a6 (x,l)|none=>a7
 |.list t,c::l=>match leaf (.list t) c with|some x=>a6 (x,l)|none=>a7
 |_,[]=>a7
def Hf (t:Ty) (l:List bK):Option t.den:=
 match mk t l with
 |some (x,[])=>a6 x
 |_=>a7
def bK.isNils:bK->Bool
 |.nils=>true
 |_=>false
def norm (i:TI) (l:List bK):bK:=
 match i.k with
 |.struct _=>match i.ty with
  |some t=>match Hf t l with
   |some x=>bif i.keep&&l.any bK.isNils then .agg l else .val t x
   |none=>.agg l
  |none=>.agg l
 |_=>match l with
  |[v]=>v
  |_=>.undef
def abR {d:Type} (xs:List d):Option (Int×Int)->List d
 |none=>xs
 |some (lo,e)=>sub xs lo e
def BI (hp:gG) (t:Ty) (id d:Nat) (e:Option (Int×Int)):Option (List t.den):=
 match dM hp id with
 |some (.arr t' v f)=>bif v==d then(match ku (.list t) (t':=.list t') f with|some ys=>a6 (abR ys e)|none=>a7)else a7
 |_=>a7
def bK.as (hp:gG) (t:Ty):bK->Option t.den
 |.val t' x=>ku t x
 |.nils=>match t with|.list _=>a6 []|_=>a7
 |.emp=>match t with|.list _=>a6 []|_=>a7
 |.lst e xs _=>ku (t':=.list e) t xs
 |.slc id ver d=>match t with|.list e=>BI hp e id ver d|_=>a7
 |.agg l=>bif t.isAgg then Hf t l else a7
 |_=>a7
def Yc:(t:Ty)->t.den->Nat->bK
 |.pair a _,x,0=>.val a x.1
 |.pair _ b,x,n+1=>Yc b x.2 n
 |_,_,_=>.undef
def Rz:(t:Ty)->t.den->Nat->bK
 |.pair a _,x,0=>.cellp a x.1
 |.pair _ b,x,n+1=>Rz b x.2 n
 |_,_,_=>.undef
def xh:Value->bK
 |.bool b=>.val .bool b
 |.int k n=>.val (.int k) n
 |.string s=>.val .str s.data.toList
 |.slice a7 0 0=>.nils
 |.pointer a7=>.nilp
 |.nilFunc=>.nilfn
 |_=>.undef
def XX:Value->bK
 |.agg cs=>bif cs.toList.all Value.oneCell' then .agg (cs.toList.map xh)else .undef
 |.tuple _=>.undef
 |v=>xh v
def gV (fr:List bK):Operand->bK
 |.tmp t=>fr.getD t .undef
 |.const v=>XX v
 |.global _=>.undef
 |.func f=>.fn f []
def jO:Nat:=140737488355328
def bZ (k:IntKind) (a b:Int):Int:=k.wrap (a+b)
def eF (k:IntKind) (a b:Int):Int:=k.wrap (a-b)
def am6 (k:IntKind) (a b:Int):Int:=k.wrap (a*b)
def Ro (k:IntKind) (a b:Int):Int:=k.wrap (a.tdiv b)
def aoR (d:BinOp) (k:IntKind) (a b:Int):Int:=
 let x:=BitVec.ofInt k.bits a
 let y:=BitVec.ofInt k.bits b
 match d with
 |.and=>k.wrap (x&&& y).toNat
 |.or=>k.wrap (x|||y).toNat
 |.xor=>k.wrap (x^^^y).toNat
 |_=>k.wrap (x&&& ~~~y).toNat
def ayN (k:IntKind) (a b:Int):Int:=k.wrap (a*2^(min b.toNat k.bits))
def ayO (k:IntKind) (a b:Int):Int:=a.fdiv (2^(min b.toNat k.bits))
def iq (a b:Int):Bool:=decide (a<b)
def leI (a b:Int):Bool:=decide (a<=b)
def bT (a b:Int):Bool:=a==b
def bG {d:Type} (l:List d):Int:=(l.length:Int)
def O1 (a b:Nat):Bool:=decide (a<b)
def eqN (a b:Nat):Bool:=Nat.beq a b
def leN (a b:Nat):Bool:=decide (a<=b)
def IC (a b:Int):Int:=if b<a then b else a
def su (a b:Int):Int:=if b>a then b else a
def bY (s:List UInt8) (i:Int):Int:=((s.getD i.toNat 0).toNat:Int)
def eX {e:Type} (l:List e) (d:e) (i:Int):e:=l.getD i.toNat d
def gI (a b:List UInt8):Bool:=a==b
def ltS (a b:List UInt8):Bool:=Op.bytesLess a b
def dn (l:List UInt8):List Int:=l.map fun b=>(b.toNat:Int)
def ofBytes (l:List Int):List UInt8:=l.map fun n=>UInt8.ofNat n.toNat
def aIZ (l:List UInt8):Bool:=decide (l.length<=jO)
def dV {d:Type} (l:List d) (e:Nat):Bool:=decide (l.length*e<=jO)
def gm {d:Type} (l:List d) (i:Int):Bool:=decide (0<=i)&&decide (i<(l.length:Int))
def eU (n lo hi:Int):Bool:=decide (0<=lo)&&(decide (lo<=hi)&&decide (hi<=n))
def ik {d:Type} (l:List d) (i:Nat) (x:d):List d:=l.set i x
def zq (d:BinOp) (k:IntKind) (a b:Int):bK:=
 match d with
 |.add=>.val (.int k) (bZ k a b)
 |.sub=>.val (.int k) (eF k a b)
 |.mul=>.val (.int k) (am6 k a b)
 |.eql=>.val .bool (bT a b)
 |.neq=>.val .bool (!bT a b)
 |.lss=>.val .bool (iq a b)
 |.leq=>.val .bool (leI a b)
 |.gtr=>.val .bool (iq b a)
 |.geq=>.val .bool (leI b a)
 |_=>.undef
def XK (d:BinOp) (a b:List UInt8):bK:=
 match d with
 |.eql=>.val .bool (gI a b)
 |.neq=>.val .bool (!gI a b)
 |.lss=>.val .bool (ltS a b)
 |.leq=>.val .bool (ltS a b||gI a b)
 |.gtr=>.val .bool (!(ltS a b||gI a b))
 |.geq=>.val .bool (!ltS a b)
 |_=>.undef
def TT.eqOk (T:TT):Nat->TypeId->Bool
 |0,_=>false
 |n+1,t=>(T.at t).known&&(match(T.at t).k with
  |.bool|.int _|.str=>true
  |.struct d=>(T.at t).eq&&d.all fun f=>T.eqOk n f.2
  |_=>false)
section
variable {R:Type}
def lZ (b:Bool) (k:Option R):Option R:=cond b k a7
def acn (T:TT) (d:BinOp) (t:TypeId) (x y:bK) (K:bK->Option R):Option R:=
 match x,y with
 |.val (.int k) a,.val (.int f) b=>
  if k=f then
   match d with
   |.quo=>lZ (!bT b 0) (K (.val (.int k) (Ro k a b)))
   |.rem=>lZ (!bT b 0) (K (.val (.int k) (a.tmod b)))
   |.add|.sub|.mul|.eql|.neq|.lss|.leq|.gtr|.geq=>K (zq d k a b)
   |.and|.or|.xor|.andNot=>K (.val (.int k) (aoR d k a b))
   |.shl=>lZ (leI 0 b) (K (.val (.int k) (ayN k a b)))
   |.shr=>lZ (leI 0 b) (K (.val (.int k) (ayO k a b)))
  else
   match d with
   |.shl=>lZ (leI 0 b) (K (.val (.int k) (ayN k a b)))
   |.shr=>lZ (leI 0 b) (K (.val (.int k) (ayO k a b)))
   |_=>a7
 |.val .bool a,.val .bool b=>
  bif(T.at t).known then
   match(T.at t).k,d with
   |.bool,.eql=>K (.val .bool (a==b))
   |.bool,.neq=>K (.val .bool (!(a==b)))
   |_,_=>a7
  else a7
 |.val .str a,.val .str b=>
  match d with
  |.add=>lZ (decide (a.length+b.length<=jO)) (K (.val .str (a++b)))
  |.eql|.neq|.lss|.leq|.gtr|.geq=>K (XK d a b)
  |_=>a7
 |.lst _ _ b,.nils=>bif(T.at t).known then(match(T.at t).k,d with
  |.slice _,.eql=>K (.val .bool b)
  |.slice _,.neq=>K (.val .bool (!b))
  |_,_=>a7)else a7
 |x,y=>
  bif !T.eqOk 6 t then a7 else
  match(T.at t).k,(T.at t).ty with
  |.struct _,a6 e=>
   match x.as [] e,y.as [] e,d with
   |some a,a6 b,.eql=>K (.val .bool (e.same a b))
   |some a,a6 b,.neq=>K (.val .bool (!e.same a b))
   |_,_,_=>a7
  |_,_=>a7
def Eg:List (Int×Int)->Int->Option Int
 |[],_=>a7
 |(k,v)::l,a=>bif bT a k then a6 v else Eg l a
def qH (l:List (Int×Int)) (a:Int):Int:=match Eg l a with
 |some v=>v
 |none=>0
def asL (l:List (Int×Int)) (a:Int):Bool:=match Eg l a with
 |some _=>true
 |none=>false
def vz:List (Int×Int)->Int->Int->List (Int×Int)
 |[],a,b=>[(a,b)]
 |(k,v)::l,a,b=>bif bT a k then(k,b)::l else(k,v)::vz l a b
def TT.mapOf (T:TT) (t:TypeId):Option (IntKind×IntKind):=bif(T.at t).known then(match(T.at t).k with
 |.map k e=>bif(T.at k).known&&(T.at e).known then(match(T.at k).k,(T.at e).k with
  |.int a,.int b=>a6 (a,b)
  |_,_=>a7)else a7
 |_=>a7)else a7
def auk (hp:gG) (x y:bK):Bool:=match x with
 |.slc id ver _=>(match y with
  |.nils=>(match dM hp id with
   |some (.arr _ v d)=>v==ver&&O1 0 d.length
   |_=>false)
  |_=>false)
 |_=>false
def ato (hp:gG) (x y:bK):Bool:=match x with
 |.ptr id _=>(match y with
  |.nilp=>(match dM hp id with
   |some (.box _ _)=>true
   |_=>false)
  |_=>false)
 |_=>false
def Rx (T:TT) (hp:gG) (d:BinOp) (t:TypeId) (x y:bK) (K:bK->Option R):Option R:=
 bif auk hp x y then(bif(T.at t).known then(match(T.at t).k,d with
  |.slice _,.eql=>K (.val .bool false)
  |.slice _,.neq=>K (.val .bool true)
  |_,_=>a7)else a7)else bif ato hp x y then(bif(T.at t).known then(match(T.at t).k,d with
  |.ptr _,.eql=>K (.val .bool false)
  |.ptr _,.neq=>K (.val .bool true)
  |_,_=>a7)else a7)else acn T d t x y K
def aqv (d:UnOp) (x:bK) (K:bK->Option R):Option R:=
 match d,x with
 |.not,.val .bool b=>K (.val .bool (!b))
 |.neg,.val (.int k) a=>K (.val (.int k) (eF k 0 a))
 |_,_=>a7
def Eh (cl:Bool) (st:St) (dst:Option Nat):Nat:=cond cl st.nxt<|1000000*st.stk.length+dst.getD 0
def alloc (cl:Bool) (dst:Option Nat) (o:dJ) (st:St) (K:Nat->St->Option R):Option R:=
 match dM st.hp (Eh cl st dst)with
 |some _=>a7
 |none=>bif st.nxt.ble (Eh cl st dst)then K (Eh cl st dst) {st with hp:=(Eh cl st dst,o)::st.hp,nxt:=bif cl then Eh cl st dst+1 else st.nxt}else a7
def Ji (cs:List bK) (off k:Nat):Option (List bK):=cond ((off+k).ble cs.length) (a6 ((cs.drop off).take k)) a7
def putCells (cs:List bK) (off:Nat) (vs:List bK):Option (List bK):=cond ((off+vs.length).ble cs.length) (a6 (cs.take off++vs++cs.drop (off+vs.length))) a7
def L6 (T:TT) (hp:gG) (t:TypeId) (a:bK) (K:bK->Option R):Option R:=
 bif !(T.at t).known then a7 else
 match a with
 |.cellp u x=>match(T.at t).ty with
  |some e=>match ku e x with
   |some y=>K (.val e y)
   |none=>a7
  |none=>a7
 |.ptr id d=>match dM hp id with
  |some (.box _ cs)=>match Ji cs d (T.at t).size with
   |some l=>K (norm (T.at t) l)
   |none=>a7
  |_=>a7
 |.ep id ver i d=>match dM hp id with
  |some (.arr u v f)=>bif v==ver then
    (bif O1 i f.length then
     (match Ji (flat u (f.getD i u.dflt)) d (T.at t).size with
     |some l=>K (norm (T.at t) l)
     |none=>a7)else a7)else a7
  |_=>a7
 |_=>a7
def Jw (T:TT) (st:St) (t:TypeId) (a v:bK) (K:St->Option R):Option R:=
 match v.cells with
 |none=>a7
 |some d=>
  bif(T.at t).known&&d.length==(T.at t).size then
   match a with
   |.ptr id e=>match dM st.hp id with
    |some (.box bt cs)=>match putCells cs e d with
     |some g=>K {st with hp:=iT st.hp id (.box bt g)}
     |none=>a7
    |_=>a7
   |.ep id ver i e=>match dM st.hp id with
    |some (.arr u w f)=>bif w==ver then
      (bif O1 i f.length then
       (match putCells (flat u (f.getD i u.dflt)) e d with
       |some cs=>match Hf u cs with
        |some x=>K {st with hp:=iT st.hp id (.arr u w (ik f i x))}
        |none=>a7
       |none=>a7)else a7)else a7
    |_=>a7
   |_=>a7
  else a7
def aco (f:gG) (st:St) (a v:bK) (K:St->Option R):Option R:=
 match a,v with
 |.ptr id d,.slc i _ (a6 _)=>match dM f id with
  |some (.box _ g)=>match g.getD d .undef with
   |.slc i0 _ a7=>bif Nat.beq i0 i&& !Nat.beq i id then
     (match dM st.hp id,dM st.hp i with
     |some (.box bt cs),a6 (.arr e w h)=>match cs.getD d .undef with
      |.slc i1 w1 (a6 (lo,j))=>bif Nat.beq i1 i&&(w1==w&&lo==0)then
        K {st with hp:=iT (iT st.hp i (.arr e (w+1) (h.take j.toNat))) id (.box bt (cs.set d (.slc i (w+1) a7)))}else K st
      |_=>K st
     |_,_=>K st)else K st
   |_=>K st
  |_=>K st
 |_,_=>K st
def Js (T:TT) (d:List (Nat×TypeId)) (cs:List bK):List (Nat×bK)->Option (List bK)
 |[]=>a6 cs
 |(i,v)::g=>match d[i]?,v.cells with
  |some (h,e),a6 f=>bif(T.at e).known&&f.length==(T.at e).size then
    (match putCells cs h f with
    |some j=>Js T d j g
    |none=>a7)else a7
  |_,_=>a7
def Ju (e:Ty) (xs:List e.den):List (Nat×bK)->Option (List e.den)
 |[]=>a6 xs
 |(i,v)::d=>match v.as [] e with
  |some x=>bif O1 i xs.length then Ju e (xs.set i x) d else a7
  |none=>a7
def intOf:bK->Option Int
 |.val (.int _) n=>a6 n
 |_=>a7
def bound (d:Int):Option bK->Option Int
 |none=>a6 d
 |some v=>intOf v
def TT.rowOf (T:TT) (t:TypeId) (size:Nat):Bool:=
 match(T.at t).k with
 |.slice e=>(T.at t).known&&((T.at e).known&&((T.at e).size==size&&(O1 0 size&&O1 0 (T.at e).bytes)))
 |_=>false
def TT.isPtr (T:TT) (t:TypeId):Bool:=
 match(T.at t).k with
 |.ptr _=>(T.at t).known
 |_=>false
def TT.isBytes (T:TT) (t:TypeId):Bool:=
 match(T.at t).k with
 |.ptr e=>(T.at t).known&&((T.at e).known&&(match(T.at e).ty with|some (.int .u8)=>Nat.beq (T.at e).size 1|_=>false))
 |_=>false
def TT.isStr (T:TT) (t:TypeId):Bool:=
 match(T.at t).k with
 |.str=>(T.at t).known
 |_=>false
def Jv (T:TT) (hp:gG) (t:TypeId) (x:bK) (lo hi f:Option bK) (K:bK->Option R):Option R:=
 match x,f with
 |.val .str s,a7=>match bound 0 lo,bound (bG s) hi with
  |some l,a6 h=>lZ (T.isStr t&&eU (bG s) l h) (K (.val .str (sub s l h)))
  |_,_=>a7
 |.val (.list e) d,a7=>match bound 0 lo,bound (bG d) hi with
  |some l,a6 h=>lZ (T.rowOf t e.size&&eU (bG d) l h) (K (.val (.list e) (sub d l h)))
  |_,_=>a7
 |.val (.list e) d,a6 m=>match bound 0 lo,hi.bind intOf,intOf m with
  |some l,a6 h,a6 k=>lZ (T.rowOf t e.size&&(l==0&&(h==0&&k==0))) (K .emp)
  |_,_,_=>a7
 |.nils,a7=>match bound 0 lo,bound 0 hi with
  |some l,a6 h=>lZ (T.rowOf t (T.at (match(T.at t).k with|.slice e=>e|_=>0)).size&&(bT l 0&&bT h 0)) (K .nils)
  |_,_=>a7
 |.slc id ver a7,a7=>match dM hp id with
  |some (.arr e v d)=>bif v==ver then
    (match bound 0 lo,bound (bG d) hi with
    |some l,a6 h=>lZ (T.rowOf t e.size&&eU (bG d) l h) (K (.slc id ver (a6 (l,h))))
    |_,_=>a7)else a7
  |_=>a7
 |_,_=>a7
def TT.fieldAt (T:TT) (t:TypeId) (f:Nat):Option (Nat×TypeId):=
 match(T.at t).k with
 |.struct e=>bif(T.at t).known then
   (match e[f]? with
   |some (g,d)=>bif(T.at d).known&&O1 0 (T.at d).size then a6 (g,d)else a7
   |none=>a7)else a7
 |_=>a7
def uw (T:TT) (hp:gG) (t:TypeId) (x:bK) (f:Nat) (K:bK->Option R):Option R:=
 match T.fieldAt t f with
 |some (d,_)=>match x with
  |.cellp u x=>match(T.at t).ty with
   |some e=>match ku e x with
    |some y=>K (Rz e y f)
    |none=>a7
   |none=>a7
  |.ptr id o=>match dM hp id with
   |some (.box _ _)=>K (.ptr id (o+d))
   |_=>a7
  |.ep id ver i o=>match dM hp id with
   |some (.arr _ v _)=>bif v==ver then K (.ep id ver i (o+d))else a7
   |_=>a7
  |_=>a7
 |none=>a7
def Jt (T:TT) (t:TypeId) (x:bK) (f:Nat) (K:bK->Option R):Option R:=
 match T.fieldAt t f with
 |some (g,d)=>match x with
  |.val u x=>match(T.at t).ty with
   |some e=>match ku e x with
    |some y=>K (Yc e y f)
    |none=>a7
   |none=>a7
  |.agg l=>match Ji l g (T.at d).size with
   |some cs=>K (norm (T.at d) cs)
   |none=>a7
  |_=>a7
 |none=>a7
def uy (T:TT) (hp:gG) (t:TypeId) (x i:bK) (K:bK->Option R):Option R:=
 match intOf i with
 |none=>a7
 |some i=>match x with
  |.val (.list e) d=>lZ (T.rowOf t e.size&&gm d i) (K (.cellp e (eX d e.dflt i)))
  |.slc id ver f=>match dM hp id with
   |some (.arr e v d)=>bif v==ver then
     (match f with
     |none=>lZ (T.rowOf t e.size&&gm d i) (K (.ep id ver i.toNat 0))
     |some (lo,g)=>lZ (T.rowOf t e.size&&(decide (0<=i)&&iq (lo+i) g)) (K (.ep id ver (lo+i).toNat 0)))else a7
   |_=>a7
  |_=>a7
def acp (T:TT) (hp:gG) (t:TypeId) (x:bK) (K:bK->Option R):Option R:=
 match x with
 |.val .str s=>lZ (T.isStr t) (K (.val (.int .i64) (bG s)))
 |.val (.list e) d=>lZ (T.rowOf t e.size) (K (.val (.int .i64) (bG d)))
 |.nils=>lZ (T.rowOf t (T.at (match(T.at t).k with|.slice e=>e|_=>0)).size) (K (.val (.int .i64) 0))
 |.slc id ver f=>match dM hp id with
  |some (.arr e v d)=>bif v==ver then
    lZ (T.rowOf t e.size) (match f with
    |none=>K (.val (.int .i64) (bG d))
    |some (lo,g)=>K (.val (.int .i64) (g-lo)))else a7
  |_=>a7
 |_=>a7
def Jr (T:TT) (cl:Bool) (dst:Option Nat) (t:TypeId) (s x:bK) (st:St) (K:bK->St->Option R):Option R:=
 match(T.at t).k with
 |.slice g=>match(T.at g).ty with
  |some e=>match x.as st.hp (.list e)with
   |none=>a7
   |some d=>match s with
    |.nils=>lZ (T.rowOf t e.size&&dV d (T.at g).bytes) (alloc cl dst (.arr e 0 d) st fun id st=>K (.slc id 0 a7) st)
    |.emp=>lZ (T.rowOf t e.size&&dV d (T.at g).bytes) (bif O1 0 d.length then alloc cl dst (.arr e 0 d) st fun id st=>K (.slc id 0 a7) st else K .emp st)
    |.slc id ver i=>match dM st.hp id with
     |some (.arr e' v f)=>bif v==ver then
       (match ku (t':=.list e') (.list e) f with
       |some f=>match i with
        |none=>lZ (T.rowOf t e.size&&dV (f++d) (T.at g).bytes) (K (.slc id (ver+1) a7) {st with hp:=iT st.hp id (.arr e (ver+1) (f++d))})
        |some (lo,h)=>lZ (T.rowOf t e.size&&(bT lo 0&&dV (f.take h.toNat++d) (T.at g).bytes))
          (K (.slc id (ver+1) a7) {st with hp:=iT st.hp id (.arr e (ver+1) (f.take h.toNat++d))})
       |none=>a7)else a7
     |_=>a7
    |_=>a7
  |none=>a7
 |_=>a7
def Ap (T:TT) (cl:Bool) (dst:Option Nat) (t t':TypeId) (s x:bK) (st:St) (K:bK->St->Option R):Option R:=
 match(T.at t).k,x with
 |.slice d,.val .str y=>match(T.at d).ty with
  |some (.int .u8)=>bif T.isStr t'&&T.rowOf t 1&&Nat.beq (T.at d).bytes 1 then
    (match s with
    |.nils=>lZ (aIZ y) (alloc cl dst (.arr (.int .u8) 0 (dn y)) st fun id st=>K (.slc id 0 a7) st)
    |.slc id ver f=>match dM st.hp id with
     |some (.arr (.int .u8) v e)=>bif v==ver then
       (match f with
       |none=>lZ (dV (e++dn y) 1) (K (.slc id (ver+1) a7) {st with hp:=iT st.hp id (.arr (.int .u8) (ver+1) (e++dn y))})
       |some _=>a7)else a7
     |_=>a7
    |_=>a7)else a7
  |_=>a7
 |_,_=>a7
def Aq (T:TT) (s d:TypeId) (x:bK) (hp:gG) (K:bK->Option R):Option R:=
 bif !((T.at s).known&&(T.at d).known)then a7 else
 match(T.at s).k,(T.at d).k,x with
 |.int _,.int k,.val (.int _) n=>K (.val (.int k) (k.wrap n))
 |.str,.str,.val .str s=>K (.val .str s)
 |.slice e,.str,x=>match(T.at e).k with
  |.int .u8=>match x.as hp (.list (.int .u8))with
   |some f=>lZ (T.at e).known (K (.val .str (ofBytes f)))
   |none=>a7
  |_=>a7
 |_,_,_=>a7
abbrev gy (R:Type):=bK->List bK->Option Nat->St->(bK->St->Option R)->Option R
def BD (k:IntKind):List bK->Option (List Int)
 |[]=>a6 []
 |.val (.int d) a::l=>if k=d then match BD k l with
   |some l=>a6 (a::l)
   |none=>a7
  else a7
 |_=>a7
def jY (T:TT) (cl:Bool) (o:Oper) (b:Builtin) (d:List TypeId) (args:List bK) (st:St) (K:bK->St->Option R):Option R:=
 match b,args with
 |.len,[x]=>match d with
  |[t]=>acp T st.hp t x fun v=>K v st
  |_=>a7
 |.min,.val (.int k) a::l=>match BD k l with
  |some l=>K (.val (.int k) (l.foldl IC a)) st
  |none=>a7
 |.max,.val (.int k) a::l=>match BD k l with
  |some l=>K (.val (.int k) (l.foldl su a)) st
  |none=>a7
 |.append,[s,x]=>match d with
  |[t,g]=>bif t==g then Jr T cl o.dst t s x st K else Ap T cl o.dst t g s x st K
  |_=>a7
 |.unsafeSliceData,[.slc id f a7]=>match d with
  |[t]=>match dM st.hp id with
   |some (.arr e v _)=>bif v==f&&(T.rowOf t e.size&&T.isPtr o.type)then K (.sd id f) st else a7
   |_=>a7
  |_=>a7
 |.unsafeString,[.sd id f,.val (.int .i64) n]=>match d with
  |[i,_]=>match dM st.hp id with
   |some (.arr (.int .u8) v h)=>bif v==f&&T.isBytes i then lZ (bT n (bG h)) (K (.val .str (ofBytes h)) {st with hp:=iT st.hp id .dead})else a7
   |_=>a7
  |_=>a7
 |_,_=>a7
def dZ (T:TT) (cl:Bool) (call:gy R) (o:Oper) (st:St) (K:bK->St->Option R):Option R:=
 match o.op with
 |.move x|.assign x=>K (gV st.fr x) st
 |.pick c a b=>match gV st.fr c with
  |.val .bool t=>bif t then K (gV st.fr a) st else K (gV st.fr b) st
  |_=>a7
 |.alloc t=>bif(T.at t).known then
   (match(T.at t).k,(T.at t).zero with
   |.slice h,[.nils]=>match(T.at h).ty with
    |some e=>bif O1 0 e.size then alloc cl (a6 (o.dst.getD 0+500000)) (.arr e 0 []) st fun i st=>alloc cl o.dst (.box t [.slc i 0 a7]) st fun id st=>K (.ptr id 0) st
     else a7
    |none=>alloc cl o.dst (.box t (T.at t).zero) st fun id st=>K (.ptr id 0) st
   |.struct _,[.nilp,.nils]=>bif(T.at t).bld then
     alloc cl (a6 (o.dst.getD 0+500000)) (.arr (.int .u8) 0 []) st fun i st=>alloc cl o.dst (.box t [.slf (Eh cl st o.dst),.slc i 0 a7]) st fun id st=>K (.ptr id 0) st
    else alloc cl o.dst (.box t (T.at t).zero) st fun id st=>K (.ptr id 0) st
   |_,z=>alloc cl o.dst (.box t z) st fun id st=>K (.ptr id 0) st)else a7
 |.box t x=>match(gV st.fr x).cells with
  |some D=>bif(T.at t).known&&D.length==(T.at t).size then alloc cl o.dst (.box t D) st fun id st=>K (.ptr id 0) st else a7
  |none=>a7
 |.build t u=>bif !(T.at t).known then a7 else
  match(T.at t).k with
  |.struct G=>match Js T G (T.at t).zero (u.toList.map fun p=>(p.1,gV st.fr p.2))with
   |some cs=>K (norm (T.at t) cs) st
   |none=>a7
  |_=>a7
 |.buildSlice t n u=>match(T.at t).k with
  |.slice h=>match(T.at h).ty with
   |some e=>match Hf e (T.at h).zero with
    |some d=>bif T.rowOf t e.size&&leN (n*e.size) 1000000 then
      (match Ju e (List.replicate n d) (u.toList.map fun p=>(p.1,gV st.fr p.2))with
      |some I=>alloc cl o.dst (.arr e 0 I) st fun id st=>K (.slc id 0 a7) st
      |none=>a7)else a7
    |none=>a7
   |none=>a7
  |_=>a7
 |.load t a=>L6 T st.hp t (gV st.fr a) fun v=>K v st
 |.store t a v=>Jw T st t (gV st.fr a) (gV st.fr v) fun J=>aco st.hp J (gV st.fr a) (gV st.fr v) fun st=>K .undef st
 |.nilCheck x=>match gV st.fr x with
  |.ptr id A=>match dM st.hp id with
   |some (.box _ _)=>K (.ptr id A) st
   |_=>a7
  |.cellp t x=>K (.cellp t x) st
  |.ep id ver i A=>match dM st.hp id with
   |some (.arr _ v _)=>bif v==ver then K (.ep id ver i A) st else a7
   |_=>a7
  |_=>a7
 |.binOp op t x y _=>Rx T st.hp op t (gV st.fr x) (gV st.fr y) fun v=>K v st
 |.unOp op _ x=>aqv op (gV st.fr x) fun v=>K v st
 |.makeMap t r=>match r,T.mapOf t with
  |none,a6 (j,g)=>alloc cl o.dst (.mp j g []) st fun id st=>K (.mpv id) st
  |_,_=>a7
 |.mapUpdate t m k x=>match T.mapOf t,gV st.fr m with
  |some (j,g),.mpv id=>match dM st.hp id,gV st.fr k,gV st.fr x with
   |some (.mp kk' vk' q),.val (.int B) a,.val (.int L) b=>
    bif decide (kk'=j)&&(decide (B=j)&&(decide (vk'=g)&&decide (L=g)))then K .undef {st with hp:=iT st.hp id (.mp j g (vz q a b))}else a7
   |_,_,_=>a7
  |_,_=>a7
 |.lookup t m k ok=>match T.mapOf t,gV st.fr m with
  |some (j,g),.mpv id=>match dM st.hp id,gV st.fr k with
   |some (.mp kk' vk' q),.val (.int B) a=>
    bif decide (kk'=j)&&(decide (B=j)&&decide (vk'=g))then
     K (bif ok then .tup [.val (.int g) (qH q a),.val .bool (asL q a)]else .val (.int g) (qH q a)) st else a7
   |_,_=>a7
  |_,_=>a7
 |.convert s d x=>Aq T s d (gV st.fr x) st.hp fun v=>K v st
 |.makeFunc f first E=>match f,first.toList with
  |.func f,[]=>K (.fn f (E.toList.map (gV st.fr))) st
  |.func f,l=>bif E.toList.isEmpty then K (.mfn f (l.map (gV st.fr))) st else a7
  |_,_=>a7
 |.makeSlice t l c=>match(T.at t).k with
  |.slice h=>match(T.at h).ty,intOf (gV st.fr l),intOf (gV st.fr c)with
   |some e,a6 l,a6 c=>match Hf e (T.at h).zero with
    |some d=>lZ (T.rowOf t e.size&&(decide (0<=l)&&(decide (l<=c)&&decide (c.toNat*(T.at h).bytes<=jO))))
      (alloc cl o.dst (.arr e 0 (List.replicate l.toNat d)) st fun id st=>K (.slc id 0 a7) st)
    |none=>a7
   |_,_,_=>a7
  |_=>a7
 |.slice t x lo hi M=>Jv T st.hp t (gV st.fr x) (lo.map (gV st.fr)) (hi.map (gV st.fr)) (M.map (gV st.fr)) fun v=>K v st
 |.fieldAddr t x f=>uw T st.hp t (gV st.fr x) f fun v=>K v st
 |.field t x f=>Jt T t (gV st.fr x) f fun v=>K v st
 |.indexAddr t x i=>uy T st.hp t (gV st.fr x) (gV st.fr i) fun v=>K v st
 |.index t x i=>match gV st.fr x,intOf (gV st.fr i)with
  |.val .str s,a6 i=>lZ (T.isStr t&&gm s i) (K (.val (.int .u8) (bY s i)) st)
  |_,_=>a7
 |.extract x n=>match gV st.fr x with
  |.tup l=>match l[n]? with
   |some v=>K v st
   |none=>a7
  |_=>a7
 |.call c=>match c.callee with
  |.builtin b=>jY T cl o b c.argTypes.toList (c.args.toList.map (gV st.fr)) st K
  |.value f=>call (gV st.fr f) (c.args.toList.map (gV st.fr)) o.dst st K
  |_=>a7
 |_=>a7
def St.put (st:St) (dst:Option Nat) (v:bK):St:=
 match dst with
 |some d=>{st with fr:=st.fr.set d v}
 |none=>st
def ig (T:TT) (cl:Bool) (call:gy R) (ops:Array Oper) (K:St->Option R):List Oper->St->Option R
 |[],st=>K st
 |o::e,st=>
  match o.guard with
  |none=>dZ T cl call o st fun v st=>ig T cl call ops K e (st.put o.dst v)
  |some (j,f)=>match(ops[j]?).bind (·.dst)with
   |none=>a7
   |some d=>match st.fr.getD d .undef with
    |.val .bool b=>
     bif b then
      (bif f then dZ T cl call o (st.put (a6 d) (.val .bool true)) fun v st=>ig T cl call ops K e (st.put o.dst v)
      else ig T cl call ops K e ((st.put (a6 d) (.val .bool true)).put o.dst (.tup [])))
     else
      (bif f then ig T cl call ops K e ((st.put (a6 d) (.val .bool false)).put o.dst (.tup []))
      else dZ T cl call o (st.put (a6 d) (.val .bool false)) fun v st=>ig T cl call ops K e (st.put o.dst v))
    |.tup []=>ig T cl call ops K e (st.put o.dst (.tup []))
    |_=>a7
mutual
def refs:bK->List Nat
 |.ptr id _=>[id]
 |.slc id _ _=>[id]
 |.ep id _ _ _=>[id]
 |.slf id=>[id]
 |.sd id _=>[id]
 |.yld id=>[id]
 |.tup l=>lF l
 |.agg l=>lF l
 |.fn _ l=>lF l
 |.mfn _ l=>lF l
 |.mpv id=>[id]
 |_=>[]
def lF:List bK->List Nat
 |[]=>[]
 |v::l=>refs v++lF l
end
def sH:List (List bK)->List Nat
 |[]=>[]
 |l::d=>lF l++sH d
def dJ.refs:dJ->List Nat
 |.box _ cs=>lF cs
 |.lp _ fr _ _ _ _ _ _=>lF fr
 |_=>[]
def xK:gG->List Nat
 |[]=>[]
 |(_,o)::h=>o.refs++xK h
def YP (l:List Nat) (i:Nat):Bool:=l.any (Nat.beq i)
def att (h:gG):Nat->List Nat->List Nat
 |0,l=>l
 |n+1,l=>att h n (l++xK (h.filter fun e=>YP l e.1))
def Ej (d l:List Nat):Bool:=l.all fun i=> !YP d i
def gc (d:Nat) (v:bK) (st:St):Option St:=
 let h:=st.hp.filter fun e=>Nat.blt e.1 d
 let new:=st.hp.filter fun e=> !Nat.blt e.1 d
 let f:=att new 3 (refs v++lF st.fr++sH st.stk++xK h)
 let g:=st.hp.filter fun e=>Nat.blt e.1 d||YP f e.1
 let i:=((st.hp.filter fun e=> !(Nat.blt e.1 d||YP f e.1)).map (·.1))
 bif Ej i (refs v++lF st.fr++sH st.stk++xK g)then a6 {st with hp:=g}else a7
def aAK (h:gG) (id:Nat):Option Nat:=
 match dM h id with
 |some (.arr _ v _)=>a6 v
 |_=>a7
def RV (h:gG) (id d:Nat):Bool:=match aAK h id with
 |some v=>v==d
 |none=>false
mutual
def anew (h:gG):bK->bK
 |.slc id d e=>bif RV h id d then .slc id 0 e else .undef
 |.ep id d i g=>bif RV h id d then .ep id 0 i g else .undef
 |.sd id d=>bif RV h id d then .sd id 0 else .undef
 |.tup l=>.tup (Af h l)
 |.agg l=>.agg (Af h l)
 |.fn f l=>.fn f (Af h l)
 |.mfn f l=>.mfn f (Af h l)
 |v=>v
def Af (h:gG):List bK->List bK
 |[]=>[]
 |v::l=>anew h v::Af h l
end
def dJ.anew (h:gG):dJ->dJ
 |.box t cs=>.box t (Af h cs)
 |.lp f fr ps a b k n p=>.lp f (Af h fr) ps a b k n p
 |.arr t _ d=>.arr t 0 d
 |o=>o
def XE (st:St):St:=
 {st with fr:=Af st.hp st.fr,stk:=st.stk.map (Af st.hp),hp:=st.hp.map fun e=>(e.1,e.2.anew st.hp)}
structure eG where
 slots:List Nat
 owns:List (Nat×Ty)
 after:List Nat
 aowns:List (Nat×Ty)
 rets:List Nat
 give:List (Nat×Ty)
def Ha (l:List Nat):Nat->List bK->List bK
 |_,[]=>[]
 |i,v::r=>(bif YP l i then v else .undef)::Ha l (i+1) r
def yO (s:Nat) (t:Ty) (st:St):Option St:=
 match st.fr.getD s .undef with
 |.nils=>match dM st.hp (1000000*st.stk.length+800000+s)with
  |some _=>a7
  |none=>bif st.nxt.ble (1000000*st.stk.length+800000+s)&&Nat.blt 0 t.size then
    a6 {st with fr:=st.fr.set s (.slc (1000000*st.stk.length+800000+s) 0 a7),hp:=(1000000*st.stk.length+800000+s,.arr t 0 [])::st.hp}else a7
 |.slc id ver d=>match dM st.hp id with
  |some (.arr u w e)=>bif w==ver then
    (match d with
    |none=>a6 st
    |some (lo,f)=>bif lo==0 then
      a6 {st with fr:=st.fr.set s (.slc id (ver+1) a7),hp:=iT st.hp id (.arr u (ver+1) (e.take f.toNat))}else a7)else a7
  |_=>a7
 |_=>a7
def arf (k:Nat) (o:dJ):gG->gG
 |[]=>[(k,o)]
 |(j,p)::h=>bif Nat.ble j k then(k,o)::(j,p)::h else(j,p)::arf k o h
def lG:gG->gG
 |[]=>[]
 |(k,o)::h=>arf k o (lG h)
def TD (id off:Nat) (t:Ty) (st:St):Option St:=
 match dM st.hp id with
 |some (.box bt cs)=>match cs.getD off .undef with
  |.nils=>match t with
   |.pair .unit d=>a6 {st with hp:=iT st.hp id (.box bt (cs.set off (.val (.list d) [])))}
   |t=>match dM st.hp (id+500000+2000*off)with
    |some _=>a7
    |none=>bif st.nxt.ble (id+500000+2000*off)&&Nat.blt 0 t.size then
      a6 {st with hp:=iT ((id+500000+2000*off,.arr t 0 [])::st.hp) id (.box bt (cs.set off (.slc (id+500000+2000*off) 0 a7)))}else a7
  |_=>a6 st
 |_=>a6 st
def Py (id off:Nat) (t:Ty) (st:St):Option St:=
 match TD id off t st with
 |some st=>a6 {st with hp:=lG st.hp}
 |none=>a7
def DZ (s:Nat) (t:Ty) (st:St):Option St:=
 match st.fr.getD s .undef with
 |.nils=>a6 {st with fr:=st.fr.set s (.val (.list t) [])}
 |.emp=>a6 {st with fr:=st.fr.set s (.val (.list t) [])}
 |.slc id ver a7=>match dM st.hp id with
  |some (.arr u w d)=>bif w==ver&&Ej ((st.hp.filter fun e=> !(!Nat.beq e.1 id)).map (·.1)) (lF (st.fr.set s .undef)++sH st.stk++xK (st.hp.filter fun e=> !Nat.beq e.1 id))then
    a6 {st with fr:=st.fr.set s (.val (.list u) d),hp:=st.hp.filter fun e=> !Nat.beq e.1 id}else a7
  |_=>a7
 |.slc _ _ (a6 _)=>a7
 |_=>a6 st
def PY (s:Nat) (t:Ty) (st:St):Option St:=
 match st.fr.getD s .undef with
 |.slc id ver a7=>bif Nat.beq id (1000000*st.stk.length+800000+s)then a6 {st with hp:=lG st.hp}else
  match dM st.hp id with
  |some (.arr u w d)=>bif st.nxt.ble (1000000*st.stk.length+800000+s)&&Ej [id,1000000*st.stk.length+800000+s] (lF (st.fr.set s .undef)++sH st.stk++xK (st.hp.filter fun e=> !(Nat.beq e.1 id||Nat.beq e.1 (1000000*st.stk.length+800000+s))))then
    a6 {st with fr:=st.fr.set s (.slc (1000000*st.stk.length+800000+s) ver a7),hp:=lG ((1000000*st.stk.length+800000+s,.arr u w d)::st.hp.filter fun e=> !(Nat.beq e.1 id||Nat.beq e.1 (1000000*st.stk.length+800000+s)))}else a7
  |_=>a7
 |.ptr id 0=>bif Nat.beq id (1000000*st.stk.length+800000+s)then a6 {st with hp:=lG st.hp}else
  match dM st.hp id with
  |some (.box u d)=>bif st.nxt.ble (1000000*st.stk.length+800000+s)&&Ej [id,1000000*st.stk.length+800000+s] (lF (st.fr.set s .undef)++sH st.stk++(lF d++xK (st.hp.filter fun e=> !(Nat.beq e.1 id||Nat.beq e.1 (1000000*st.stk.length+800000+s)))))then
    a6 {st with fr:=st.fr.set s (.ptr (1000000*st.stk.length+800000+s) 0),hp:=lG ((1000000*st.stk.length+800000+s,.box u d)::st.hp.filter fun e=> !(Nat.beq e.1 id||Nat.beq e.1 (1000000*st.stk.length+800000+s)))}else a7
  |_=>a7
 |_=>match yO s t st with
  |some st=>a6 {st with hp:=lG st.hp}
  |none=>a7
def Fh:List (Nat×Ty)->St->Option St
 |[],st=>a6 st
 |(s,t)::l,st=>match DZ s t st with
  |some st=>Fh l st
  |none=>a7
def jC:List (Nat×Ty)->St->Option St
 |[],st=>a6 st
 |(s,.pair .unit t)::l,st=>match DZ s t st with
  |some st=>jC l st
  |none=>a7
 |(s,.pair (.list .unit) t)::l,st=>match Py (s/100) (s %100) t st with
  |some st=>jC l st
  |none=>a7
 |(s,.pair (.list .bool) t)::l,st=>match PY s t st with
  |some st=>jC l st
  |none=>a7
 |(s,t)::l,st=>match yO s t st with
  |some st=>jC l st
  |none=>a7
def LG (d:List Nat) (e:List (Nat×Ty)) (st:St):Option St:=
 match(match e with
  |[]=>a6 {st with fr:=Ha d 0 st.fr}
  |_=>gc (1000000*st.stk.length) .undef {st with fr:=Ha d 0 st.fr})with
 |some st=>match jC e st with
  |some st=>match gc (1000000*st.stk.length) .undef st with
   |some st=>a6 (XE st)
   |none=>a7
  |none=>a7
 |none=>a7
def avx (k:eG) (st:St):Option St:=
 match Fh k.give {st with fr:=Ha k.rets 0 st.fr}with
 |some st=>match gc (1000000*st.stk.length) .undef st with
  |some st=>a6 (XE st)
  |none=>a7
 |none=>a7
def iter (kp:Option eG) (F:St->(Ex->St->Option R)->Option R):Nat->St->(Ex->St->Option R)->Option R
 |0,_,_=>a7
 |n+1,st,K=>F st fun d st=>match d with
  |.normal=>match kp with
   |none=>iter kp F n st K
   |some k=>match LG k.slots k.owns st with
    |some st=>iter kp F n st K
    |none=>a7
  |.ret=>match kp with
   |none=>K .ret st
   |some k=>match avx k st with
    |some st=>K .ret st
    |none=>a7
  |d=>match kp with
   |none=>K d st
   |some k=>match LG k.after k.aowns st with
    |some st=>K d st
    |none=>a7
def dC:Code->Nat
 |.region id _ _=>id
 |.seq a _=>dC a
 |.block _ c=>dC c
 |.loop c=>dC c
 |.scope c=>dC c
 |.cond _ a _=>dC a
 |_=>0
def bJ:Nat:=10000000000000000000000000000000000000000
def Ty.rigid:Ty->Bool
 |.list _=>false
 |.pair a b=>a.rigid&&b.rigid
 |_=>true
structure Sum where
 ps:List Ty
 rs:List (Ty×Bool)
 f:(ps.foldr Ty.pair Ty.unit).den->Option ((rs.map (·.1)).foldr Ty.pair Ty.unit).den
def Ag (hp:gG):(ps:List Ty)->List bK->Option (ps.foldr Ty.pair Ty.unit).den
 |[],[]=>a6 ()
 |t::d,v::e=>match v.as hp t with
  |some x=>match Ag hp d e with
   |some y=>a6 (x,y)
   |none=>a7
  |none=>a7
 |_,_=>a7
def Ty.elem:Ty->Ty
 |.list t=>t
 |t=>t
def ou (id:Nat):(rs:List (Ty×Bool))->((rs.map (·.1)).foldr Ty.pair Ty.unit).den->List bK
 |[],_=>[]
 |(t,false)::rs,y=>.val t y.1::ou id rs y.2
 |(_,true)::rs,y=>.slc id 0 a7::ou id rs y.2
def yM:(rs:List (Ty×Bool))->((rs.map (·.1)).foldr Ty.pair Ty.unit).den->Option (Σ e:Ty,List e.den)
 |[],_=>a7
 |(_,false)::rs,y=>yM rs y.2
 |(.list e,true)::_,y=>a6 ⟨e,y.1⟩
 |(_,true)::_,_=>a7
def mQ:bK->Bool
 |.slc _ _ _=>true
 |.agg _=>true
 |_=>false
def MZ:List bK->bK
 |[v]=>v
 |vs=>.tup vs
def news:List (Ty×Bool)->Nat
 |[]=>0
 |(_,false)::d=>news d
 |(_,true)::d=>news d+1
def bF {d e:Type} (o:Option d) (k:d->Option e):Option e:=
 match o with
 |some x=>k x
 |none=>a7
def Sum.call (s:Sum) (cl:Bool) (args:List bK) (dst:Option Nat) (st:St) (K:bK->St->Option R):Option R:=
 bif s.rs.all (fun r=>r.1.rigid||(r.2&&r.1.elem.rigid))|| !args.any mQ then
  match Ag st.hp s.ps args with
  |some x=>bF (s.f x) fun y=>match yM s.rs y with
   |none=>bif Nat.beq (news s.rs) 0 then K (MZ (ou 0 s.rs y)) st else a7
   |some ⟨e,d⟩=>bif Nat.beq (news s.rs) 1 then alloc cl (a6 (dst.getD 0+100000)) (.arr e 0 d) st fun id st=>K (MZ (ou id s.rs y)) st else a7
  |none=>a7
 else a7
structure fF where
 bt:TypeId
 cs:List (Ty×Bool)
 ps:List Ty
 rs:List Ty
 f:((cs.map (·.1)).foldr Ty.pair Ty.unit).den->(ps.foldr Ty.pair Ty.unit).den->Option (((cs.map (·.1)).foldr Ty.pair Ty.unit).den×(rs.foldr Ty.pair Ty.unit).den)
def Jq:(d:List Ty)->(d.foldr Ty.pair Ty.unit).den->List bK
 |[],_=>[]
 |t::d,x=>.val t x.1::Jq d x.2
def oN:List (Ty×Bool)->List bK->List (Nat×Nat)
 |(_,true)::cs,.slc id ver _::d=>(id,ver)::oN cs d
 |_::cs,_::d=>oN cs d
 |_,_=>[]
def ut:List (Ty×Bool)->List bK->List Nat
 |(_,false)::cs,v::d=>refs v++ut cs d
 |_::cs,_::d=>ut cs d
 |_,_=>[]
def jJ (hp:gG) (d:Bool):(cs:List (Ty×Bool))->List bK->Option ((cs.map (·.1)).foldr Ty.pair Ty.unit).den
 |[],[]=>a6 ()
 |(t,false)::cs,v::f=>bif d&&(mQ v&& !t.rigid)then a7 else match v.as hp t with
  |some x=>match jJ hp d cs f with
   |some y=>a6 (x,y)
   |none=>a7
  |none=>a7
 |(.list e,true)::cs,.slc id ver a7::f=>match dM hp id with
  |some (.arr t v g)=>bif v==ver then(match ku (.list e) (t':=.list t) g with
   |some x=>match jJ hp d cs f with
    |some y=>a6 (x,y)
    |none=>a7
   |none=>a7)else a7
  |_=>a7
 |_,_=>a7
def GM:(cs:List (Ty×Bool))->List (Nat×Nat)->((cs.map (·.1)).foldr Ty.pair Ty.unit).den->List bK
 |[],_,_=>[]
 |(t,false)::cs,l,y=>.val t y.1::GM cs l y.2
 |(_,true)::cs,(i,v)::l,y=>.slc i v a7::GM cs l y.2
 |(_,true)::cs,[],y=>.undef::GM cs [] y.2
def ul:(cs:List (Ty×Bool))->List (Nat×Nat)->((cs.map (·.1)).foldr Ty.pair Ty.unit).den->gG
 |[],_,_=>[]
 |(_,false)::cs,l,y=>ul cs l y.2
 |(.list e,true)::cs,(i,v)::l,y=>(i,.arr e v y.1)::ul cs l y.2
 |(_,true)::cs,l,y=>ul cs l y.2
def Ob:gG->gG->gG
 |[],h=>h
 |(i,o)::l,h=>Ob l (iT h i o)
def jb:List (Ty×Bool)->Nat->List (Nat×Nat)
 |[],_=>[]
 |(_,true)::cs,n=>(n,0)::jb cs (n+1)
 |(_,false)::cs,n=>jb cs n
def Tu:List Nat->Bool
 |[]=>true
 |i::l=> !YP l i&&Tu l
def fF.rigid (s:fF):Bool:=s.cs.all (fun c=>c.1.rigid||(c.2&&c.1.elem.rigid))&&s.rs.all Ty.rigid
def sV (cl:Bool):Nat->List (Ty×Bool)->List bK->St->(List bK->St->Option R)->Option R
 |n,(.list e,true)::cs,.nils::d,st,K=>bif O1 0 e.size then alloc cl (a6 n) (.arr e 0 []) st fun id st=>sV cl (n+1) cs d st fun l st=>K (.slc id 0 a7::l) st else a7
 |n,_::cs,v::d,st,K=>sV cl (n+1) cs d st fun l st=>K (v::l) st
 |_,_,l,st,K=>K l st
def fF.go (s:fF) (id:Nat) (d:List bK) (st:St) (K:bK->St->Option R):Option R:=
 match dM st.hp id with
 |some (.box t cells)=>
  bif Nat.beq t s.bt&&((Tu ((oN s.cs cells).map (·.1))&&Ej (id::(oN s.cs cells).map (·.1)) (lF d++ut s.cs cells))&&(s.rigid|| !d.any mQ))then
   match jJ st.hp (!s.rigid) s.cs cells with
   |some x=>match Ag st.hp s.ps d with
    |some y=>bF (s.f x y) fun z=>K (MZ (Jq s.rs z.2))
      {st with hp:=iT (Ob (ul s.cs ((oN s.cs cells).map fun p=>(p.1,p.2+1)) z.1) st.hp) id (.box t (GM s.cs ((oN s.cs cells).map fun p=>(p.1,p.2+1)) z.1))}
    |none=>a7
   |none=>a7
  else a7
 |_=>a7
def fF.call (s:fF) (cl:Bool) (args:List bK) (st:St) (K:bK->St->Option R):Option R:=
 match args with
 |.ptr id 0::d=>match dM st.hp id with
  |some (.box t cells)=>bif cells.any (fun v=>match v with|.nils=>true|_=>false)then
    sV cl (200000+20*(id %5000)) s.cs cells st fun cells st=>s.go id d {st with hp:=iT st.hp id (.box t cells)} K
   else s.go id d st K
  |_=>a7
 |_=>a7
inductive Job where
 |call (f:FuncId) (args:List bK)
 |yield (id:Nat) (args:List bK)
structure dA where
 V:Type
 A:V->Type
 B:V->Type
 get:St->Option V
 spec:(v:V)->Option (A v⊕B v)
 exA:V->Ex
 stA:St->(v:V)->A v->St
 stB:St->(v:V)->B v->St
 dep:Nat:=0
 exB:V->Ex:=fun _=>.ret
def dL {e h d:Type} (o:e⊕h) (f:e->d) (g:h->d):d:=
 match o with
 |.inl a=>f a
 |.inr b=>g b
structure Env where
 P:Program
 T:TT
 cl:Bool
 kp:FuncId->Nat->Option eG
 sg:FuncId->Option Sum
 lp:FuncId->Nat->Option dA
 rf:FuncId->Nat->Bool:=fun _ _=>false
 bf:FuncId->Bool:=fun _=>false
 em:TypeId->Nat->Nat->Bool:=fun _ _ _=>false
 np:FuncId->Bool:=fun _=>false
 dp:Nat:=0
 sb:FuncId->Option fF:=fun _=>a7
def Env.at (E:Env) (n:Nat):Env:={E with dp:=n}
def QZ (em:TypeId->Nat->Nat->Bool) (T:TT) (args:List bK) (st:St) (K:bK->St->Option R):Option R:=
 match args with
 |[.ptr id d]=>match dM st.hp id with
  |some (.box t (.slf i:: .slc _ _ _::[]))=>bif Nat.beq d 0&&(Nat.beq i id&&((T.at t).known&&(T.at t).bld))then K (.tup []) st else a7
  |some (.box t cs)=>bif em t d cs.length then(match cs.getD d .undef with
    |.nilp=>K (.tup []) {st with hp:=iT st.hp id (.box t (cs.take d++[.ptr id d]++cs.drop (d+1)))}
    |.ptr i o=>bif Nat.beq i id&&Nat.beq o d then K (.tup []) st else a7
    |_=>a7)else a7
  |_=>a7
 |_=>a7
abbrev nD (R:Type):=Job->St->(bK->St->Option R)->Option R
structure XD where
 q:Job->St->Option bK
 s:nD St
 u:nD Unit
def xg (E:Env) (f:nD R):gy R:=fun i d j st K=>
 match i with
 |.fn g e=>match E.sg g with
  |some s=>s.call E.cl (d++e) j st K
  |none=>match E.sb g with
   |some s=>s.call E.cl (d++e) st K
   |none=>bif E.bf g then QZ E.em E.T (d++e) st K else f (.call g (d++e)) st K
 |.mfn g h=>match E.sb g with
  |some s=>s.call E.cl (h++d) st K
  |none=>f (.call g (h++d)) st K
 |.yld id=>f (.yield id d) st K
 |_=>a7
def bK.rigid:bK->Bool
 |.val t _=>t.rigid
 |_=>false
def bK.calm:bK->Bool
 |.val _ _=>true
 |_=>false
def bK.rigidR:bK->Bool
 |.tup l=>l.all bK.rigid
 |v=>v.rigid
def VE (hp:gG):bK->Option bK
 |.val t x=>a6 (.val t x)
 |.nils=>a6 .nils
 |.slc id ver d=>match dM hp id with
  |some (.arr t v e)=>bif v==ver then a6 (.val (.list t) (abR e d))else a7
  |_=>a7
 |_=>a7
def QP (hp:gG):List bK->Option (List bK)
 |[]=>a6 []
 |v::l=>match VE hp v with
  |some v=>match QP hp l with
   |some l=>a6 (v::l)
   |none=>a7
  |none=>a7
def Rf (E:Env) (e:Job->St->Option bK):gy R:=fun f d h st K=>
 match f with
 |.fn g []=>match E.sg g with
  |some s=>bif s.rs.all (fun r=> !r.2&&r.1.rigid)then s.call E.cl d h st K else a7
  |none=>match QP st.hp d with
   |some d=>match e (.call g d) ⟨[],[],[],st.nxt⟩with
    |some v=>bif v.rigidR then K v st else a7
    |none=>a7
   |none=>a7
 |_=>a7
def jI:Op->Bool
 |.move _|.assign _|.pick _ _ _|.load _ _|.nilCheck _|.binOp _ _ _ _ _|.unOp _ _ _|.slice _ _ _ _ _|.fieldAddr _ _ _|.field _ _ _|.indexAddr _ _ _|.index _ _ _|.extract _ _|.build _ _|.convert _ _ _=>true
 |.call c=>match c.callee with
  |.builtin .len=>true
  |.builtin .min=>true
  |.builtin .max=>true
  |.value _=>true
  |_=>false
 |_=>false
def iw:Op->Bool
 |.call c=>match c.callee with
  |.builtin .len=>true
  |.builtin .min=>true
  |.builtin .max=>true
  |_=>false
 |o=>jI o
def IP:Op->Bool
 |.move _|.assign _|.pick _ _ _|.nilCheck _|.binOp _ _ _ _ _|.unOp _ _ _|.slice _ _ _ _ _|.fieldAddr _ _ _|.field _ _ _|.indexAddr _ _ _|.index _ _ _|.extract _ _=>true
 |.call c=>match c.callee with
  |.builtin .len=>true
  |.builtin .min=>true
  |.builtin .max=>true
  |_=>false
 |_=>false
def Po:Op->Bool
 |.move _|.assign _|.pick _ _ _|.load _ _|.index _ _ _|.extract _ _|.alloc _|.box _ _=>true
 |.call c=>match c.callee with
  |.builtin .len=>true
  |.builtin .unsafeSliceData=>true
  |_=>false
 |_=>false
def mP (ops:Array Oper):Bool:=ops.toList.all fun o=>match o.op with|.defer _=>false|.select _ _=>false|_=>true
def WC (l:List Nat) (i:Nat):Bool:=l.any (Nat.beq i)
def EW (ops:Array Oper) (j:Nat) (D:List Nat):Bool:=match ops[j]? with
 |some d=>d.after.any fun e=>Region.binds .any e&&WC D e.on
 |none=>false
def aGM (ops:Array Oper) (d:Array Bool) (n:Nat) (D:List Nat):List Nat:=(List.range n).foldl (fun D j=>cond (!d.getD j true&&(!WC D j&&EW ops j D)) (j::D) D) D
def UH (ops:Array Oper) (d:Array Bool) (i:Nat) (pure:Bool):Bool:=match ops[i]? with
 |some f=>let D:=aGM ops d ops.size [i]
  WC D i&&(D.all (fun j=> !d.getD j true&&(Nat.beq j i||EW ops j D))&&(List.range ops.size).all fun j=>d.getD j true||(WC D j||(match ops[j]? with
   |some e=>f.apart ops e&&(pure||Po e.op)
   |none=>true)))
 |none=>false
def agd (ops:Array Oper) (f:Op->Bool) (i:Nat):Bool:=match ops[i]? with
 |some o=>f o.op
 |none=>false
def xk {d:Type} (f:d->d->Bool):List d->List d->Bool
 |[],[]=>true
 |x::l,y::m=>f x y&&xk f l m
 |_,_=>false
def X8:(t:Ty)->t.den->t.den->Bool
 |.unit,_,_=>true
 |.bool,x,y=>x==y
 |.int _,x,y=>bT x y
 |.str,x,y=>gI x y
 |.list t,x,y=>xk (X8 t) x y
 |.pair a b,x,y=>X8 a x.1 y.1&&X8 b x.2 y.2
def afr:Option (Int×Int)->Option (Int×Int)->Bool
 |none,a7=>true
 |some a,a6 b=>bT a.1 b.1&&bT a.2 b.2
 |_,_=>false
mutual
def UY (a b:bK):Bool:=
 match a with
 |.undef=>match b with|.undef=>true|_=>false
 |.val t x=>match b with
  |.val u y=>(match ku t y with|some y=>X8 t x y|none=>false)
  |_=>false
 |.nils=>match b with|.nils=>true|_=>false
 |.nilp=>match b with|.nilp=>true|_=>false
 |.nilfn=>match b with|.nilfn=>true|_=>false
 |.emp=>match b with|.emp=>true|_=>false
 |.tup l=>match b with|.tup m=>Il l m|_=>false
 |.agg l=>match b with|.agg m=>Il l m|_=>false
 |.cellp t x=>match b with
  |.cellp u y=>(match ku t y with|some y=>X8 t x y|none=>false)
  |_=>false
 |.lst t x n=>match b with
  |.lst u y m=>n==m&&(match ku (.list t) (t':=.list u) y with|some y=>X8 (.list t) x y|none=>false)
  |_=>false
 |.ptr i o=>match b with|.ptr j p=>Nat.beq i j&&Nat.beq o p|_=>false
 |.slc i v w=>match b with|.slc j u x=>Nat.beq i j&&(Nat.beq v u&&afr w x)|_=>false
 |.ep i v n o=>match b with|.ep j u m p=>Nat.beq i j&&(Nat.beq v u&&(eqN n m&&Nat.beq o p))|_=>false
 |.fn f l=>match b with|.fn g m=>Nat.beq f g&&Il l m|_=>false
 |.mfn f l=>match b with|.mfn g m=>Nat.beq f g&&Il l m|_=>false
 |.mpv i=>match b with|.mpv j=>Nat.beq i j|_=>false
 |.yld i=>match b with|.yld j=>Nat.beq i j|_=>false
 |.slf i=>match b with|.slf j=>Nat.beq i j|_=>false
 |.sd i v=>match b with|.sd j u=>Nat.beq i j&&Nat.beq v u|_=>false
def Il:List bK->List bK->Bool
 |[],m=>match m with|[]=>true|_=>false
 |a::l,m=>match m with|b::m=>UY a b&&Il l m|_=>false
end
def aBt (a b:Ex):Bool:=match a with
 |.normal=>match b with|.normal=>true|_=>false
 |.exit i=>match b with|.exit j=>Nat.beq i j|_=>false
 |.goto i=>match b with|.goto j=>Nat.beq i j|_=>false
 |.ret=>match b with|.ret=>true|_=>false
def aqp:Option Ex->Option Ex->Bool
 |none,a7=>true
 |some a,a6 b=>aBt a b
 |_,_=>false
def eqO (a b:dJ):Bool:=
 match a with
 |.box t l=>match b with|.box u m=>Nat.beq t u&&Il l m|_=>false
 |.arr t v x=>match b with
  |.arr u w y=>Nat.beq v w&&(match ku (.list t) (t':=.list u) y with|some y=>X8 (.list t) x y|none=>false)
  |_=>false
 |.lp f fr ps _ _ k n p=>match b with
  |.lp g fs qs _ _ h m q=>Nat.beq f g&&(Il fr fs&&(xk Nat.beq ps qs&&((match k,h with|some k,a6 h=>Nat.beq k h|_,_=>false)&&(Nat.beq n m&&aqp p q))))
  |_=>false
 |.dead=>match b with|.dead=>true|_=>false
 |.mp k v l=>match b with
  |.mp k' v' m=>decide (k=k')&&(decide (v=v')&&decide (l=m))
  |_=>false
def eqH:gG->gG->Bool
 |[],h=>match h with|[]=>true|_=>false
 |(i,a)::h,g=>match g with
  |(j,b)::g=>Nat.beq i j&&(eqO a b&&eqH h g)
  |[]=>false
def aqs (a b:St):Bool:=Il a.fr b.fr&&(xk Il a.stk b.stk&&(eqH a.hp b.hp&&Nat.beq a.nxt b.nxt))
def UM (d:gG) (i:Nat) (a:dJ):Option dJ:=match a with
 |.lp f fr ps _ _ (a6 k) n p=>match dM d i with
  |some (.lp g _ _ jk bd (a6 h) _ _)=>bif Nat.beq f g&&Nat.beq k h then a6 (.lp f fr ps jk bd (a6 k) n p)else a7
  |_=>a7
 |.lp _ _ _ _ _ a7 _ _=>a7
 |a=>a6 a
def UJ (d:gG):gG->Option gG
 |[]=>a6 []
 |(i,a)::h=>match UM d i a with
  |some a=>match UJ d h with
   |some h=>a6 ((i,a)::h)
   |none=>a7
  |none=>a7
def tu:gG->Bool
 |[]=>true
 |(k,_)::h=> !h.any (fun e=>Nat.beq e.1 k)&&tu h
def Ti (d:gG):List (Option St)->Option St
 |some a::l=>bif(a6 a::l).all (fun b=>match b with|some b=>aqs a b&&tu b.hp|none=>false)then
   (match UJ d a.hp with|some h=>a6 {a with hp:=h}|none=>a7)else a7
 |_=>a7
def tidy (cl:Bool) (st:St):St:=cond cl st {st with hp:=lG st.hp}
def uf (ops:Array Oper) (i k:Nat):Bool:=match ops[i]? with
 |some d=>d.after.any fun e=>Region.binds .any e&&Nat.beq e.on k
 |none=>false
def Fq (ops:Array Oper) (x y:Oper):Bool:=match y.dst with
 |some d=> !(x.looksAt ops).contains d&&x.dst !=a6 d
 |none=>true
def MS (ops:Array Oper) (log:List Nat) (i:Nat):Bool:=match ops[i]? with
 |some d=>Fq ops {d with dst:=a7} d&&log.all fun k=>match ops[k]? with
  |some ok=>Fq ops ok d&&(uf ops i k||ok.apart ops d)
  |none=>false
 |none=>false
def as3 (ops:Array Oper) (log:List Nat) (i:Nat):Bool:=match ops[i]? with
 |some d=>log.all fun k=>match ops[k]? with
  |some ok=>uf ops i k||ok.apart ops d
  |none=>false
 |none=>false
def oU (ops:Array Oper):List Nat->List bK->List bK
 |[],e=>e
 |i::l,e=>match(ops[i]?).bind (·.dst)with
  |some d=>(oU ops l e).set d .undef
  |none=>oU ops l e
def sameAt (dst:Option Nat) (z:bK) (st:St):Bool:=match dst with
 |some d=>UY z (st.fr.getD d .undef)
 |none=>true
def KP (s:Sum):Bool:=s.rs.all fun r=> !r.2&&r.1.rigid
def GU (sg:FuncId->Option Sum) (cl:Bool):gy R:=fun e d f st K=>match e with
 |.fn g []=>match sg g with
  |some s=>bif KP s&&d.all bK.calm then s.call cl d f st K else a7
  |none=>a7
 |_=>a7
def wF (sg:FuncId->Option Sum) (o:Op):Bool:=match o with
 |.call c=>match c.callee with
  |.builtin _=>true
  |.value (.func g)=>match sg g with
   |some s=>KP s
   |none=>false
  |_=>false
 |_=>true
def QJ:List (Option Unit)->Option R->Option R
 |[],k=>k
 |o::l,k=>bF o fun _=>QJ l k
def settle (d:gG) (a:St):Option St:=match UJ d a.hp with
 |some h=>a6 {a with hp:=h}
 |none=>a7
def jB (o:Oper) (fr:List bK):List bK:=match o.op with
 |.call c=>match c.callee with
  |.value v=>gV fr v::c.args.toList.map (gV fr)
  |_=>[]
 |_=>[]
def Yy (sg:FuncId->Option Sum) (ops:Array Oper) (fr:List bK) (i:Nat):Bool:=match ops[i]? with
 |some o=>match jB o fr with
  |.fn g []::e=>match sg g with
   |some s=>(KP s&&e.all bK.calm)&&(match o.dst with|some d=>O1 d fr.length|none=>true)
   |none=>false
  |_=>false
 |none=>false
def Aa (dst:Option Nat) (fr:List bK):List bK:=match dst with
 |some d=>[fr.getD d .undef]
 |none=>[]
def yS (T:TT) (cl:Bool) (call:gy R) (ops:Array Oper) (e:List bK):List Nat->St->(St->Option R)->Option R
 |[],st,K=>K st
 |i::l,st,K=>match ops[i]? with
  |some d=>bif iw d.op then(dZ T cl call d st fun z _=>bif sameAt d.dst z st then yS T cl call ops e l st K else a7)
   else bif Il (jB d e) (jB d st.fr)&&Il (Aa d.dst e) (Aa d.dst st.fr)then yS T cl call ops e l st K else a7
  |none=>a7
def uB (T:TT) (cl:Bool) (call:gy R) (ops:Array Oper) (j:Nat) (log:List Nat) (st:St) (K:St->Option R):Option R:=
 match ops[j]? with
 |some d=>bif d.guard.isNone&&as3 ops log j then
   dZ T cl call d {st with fr:=oU ops (log.filter fun i=> !uf ops j i) st.fr,stk:=st.fr::st.stk} fun z g=>match g.stk with
    |e::f=>yS T cl call ops st.fr (log.filter fun i=> !uf ops j i).reverse ({g with fr:=e,stk:=f}.put d.dst z) K
    |[]=>a7
  else a7
 |none=>a7
def mD (T:TT) (cl:Bool) (sg:FuncId->Option Sum) (d:gy St) (e:gy Unit) (ops:Array Oper):Nat->{R:Type}->gy R->Array Bool->List Nat->St->(St->Option R)->Option R
  |0,_,_,_,_,_,_=>a7
  |n+1,_,call,f,log,st,K=>match Region.ready .any ops f with
    |[]=>K st
    |k::rs=>match(k::rs).find? fun i=>agd ops iw i&&MS ops log i with
      |some i=>match ops[i]? with
        |some g=>bif g.guard.isNone&&MS ops log i then
            dZ T cl call g st fun z st=>mD T cl sg d e ops n call (f.setIfInBounds i true) (i::log) (st.put g.dst z) K else a7
        |none=>a7
      |none=>match(k::rs).find? fun i=>Yy sg ops st.fr i with
       |some i=>match ops[i]? with
        |some g=>bif g.guard.isNone&&MS ops log i then
            dZ T cl (GU sg cl) g st fun z st=>mD T cl sg d e ops n call (f.setIfInBounds i true) (i::log) (st.put g.dst z) K else a7
        |none=>a7
       |none=>match rs with
        |[]=>uB T cl call ops k log st fun st=>mD T cl sg d e ops n call (f.setIfInBounds k true) log st K
        |_=>bif cl|| !ops.toList.all (fun o=>wF sg o.op)then(match Ti st.hp ((k::rs).map fun j=>uB T cl d ops j log st fun st=>mD T cl sg d e ops n d (f.setIfInBounds j true) log st fun st=>a6 (tidy cl st))with
          |some st=>K st
          |none=>a7)else
          uB T cl call ops k log st fun h=>mD T cl sg d e ops n call (f.setIfInBounds k true) log h fun st1=>
            bif tu (tidy cl st1).hp then(match settle st.hp (tidy cl st1)with
              |some m=>QJ (rs.map fun j=>uB T cl e ops j log st fun h=>mD T cl sg d e ops n e (f.setIfInBounds j true) log h fun b=>
                  bif aqs (tidy cl st1) (tidy cl b)&&tu (tidy cl b).hp then a6 ()else a7) (K m)
              |none=>a7)else a7
def uG (ops:Array Oper):Nat->Array Bool->Option (List Nat)
 |0,d=>bif(Region.ready .any ops d).isEmpty then a6 []else a7
 |n+1,d=>match Region.ready .any ops d with
  |[]=>a6 []
  |k::e=>match(k::e).find? fun i=>agd ops IP i&&UH ops d i true with
   |some i=>match uG ops n (d.setIfInBounds i true)with
    |some l=>a6 (i::l)
    |none=>a7
   |none=>match(k::e).find? fun i=>agd ops iw i&&UH ops d i false with
    |some i=>match uG ops n (d.setIfInBounds i true)with
     |some l=>a6 (i::l)
     |none=>a7
    |none=>match e with
     |[]=>match uG ops n (d.setIfInBounds k true)with
      |some l=>a6 (k::l)
      |none=>a7
     |_=>a7
def agW (ops:Array Oper):Option (List Oper):=bif mP ops then(match uG ops ops.size (Array.replicate ops.size false)with
 |some l=>a6 (l.filterMap fun i=>ops[i]?)
 |none=>a7)else a7
def aDq (sb:FuncId->Option fF) (np:FuncId->Bool) (o:Op):Bool:=match o with
 |.call c=>match c.callee with
  |.value (.func g)=>(sb g).isNone&& !np g
  |.value _=>false
  |_=>true
 |_=>true
def KN (ops:Array Oper):Bool:=ops.toList.all (fun o=>jI o.op)&&Region.lexB .any ops
def aGV (d:St->(Ex->St->Option R)->Option R) (K:Ex->St->Option R):Ex->St->Option R:=fun e st=>match e with
 |.normal=>d st K
 |e=>K e st
def uV (id:Nat) (K:Ex->St->Option R):Ex->St->Option R:=fun e st=>match e with
 |.exit i=>bif i==id then K .normal st else K (.exit i) st
 |e=>K e st
def DL (F:St->(Ex->St->Option R)->Option R):St->(Ex->St->Option R)->Option R:=fun st K=>F st fun e st=>match e with
 |.normal=>K (.exit 999999) st
 |.exit i=>bif Nat.beq i 999999 then a7 else K (.exit i) st
 |e=>K e st
def cutAt (E:Env) (f:FuncId) (k:Nat) (F:St->(Ex->St->Option R)->Option R) (st:St) (K:Ex->St->Option R):Option R:=
 match E.lp f k with
 |some L=>bif L.dep.ble E.dp then(match L.get st with
  |some v=>bF (L.spec v) fun o=>dL o (fun a=>uV 999999 K (L.exA v) (L.stA st v a)) fun b=>uV 999999 K (L.exB v) (L.stB st v b)
  |none=>a7)else a7
 |none=>match E.kp f k with
  |none=>F st K
  |some d=>match LG d.slots d.owns st with
   |some st=>iter (a6 d) (DL F) bJ st (uV 999999 K)
   |none=>a7
def arX (K:Ex->St->Option R):Ex->St->Option R:=fun e st=>match e with
 |.goto _=>a7
 |e=>K e st
def Gg (k:Option eG) (st:St):St:=match k with
 |some k=>{st with fr:=Ha k.slots 0 st.fr}
 |none=>st
def run (E:Env) (d:nD R) (h:XD) (f:FuncId):Code->St->(Ex->St->Option R)->Option R
 |.skip,st,K=>K .normal st
 |.label _,st,K=>K .normal st
 |.region id ops m,st,K=>
  let st:=Gg (E.kp f (600000+id)) st
  bif m then(bif KN ops&&ops.toList.all (fun o=>iw o.op)then ig E.T E.cl (Rf E h.q) ops (K .normal) ops.toList st else match agW ops with
   |some l=>ig E.T E.cl (xg E d) ops (K .normal) l st
   |none=>bif KN ops&&ops.toList.all (fun o=>aDq E.sb E.np o.op)then ig E.T E.cl (Rf E h.q) ops (K .normal) ops.toList st else bif mP ops then mD E.T E.cl E.sg (xg E h.s) (xg E h.u) ops (ops.size+1) (xg E d) (Array.replicate ops.size false) [] st (K .normal)else a7)
  else ig E.T E.cl (xg E d) ops (K .normal) ops.toList st
 |.seq a b,st,K=>run E d h f a st (aGV (cutAt E f (800000+dC b) (run E d h f b)) K)
 |.cond c x y,st,K=>match gV st.fr c with
  |.val .bool b=>bif b then run E d h f x st K else run E d h f y st K
  |_=>a7
 |.block id c,st,K=>run E d h f c st (uV id K)
 |.loop c,st,K=>match E.lp f (dC c)with
  |some L=>bif L.dep.ble E.dp then(match L.get st with
   |some v=>bF (L.spec v) fun o=>dL o (fun a=>K (L.exA v) (L.stA st v a)) fun b=>K (L.exB v) (L.stB st v b)
   |none=>a7)else a7
  |none=>match E.kp f (dC c)with
   |none=>iter a7 (run E d h f c) bJ st K
   |some k=>match LG k.slots k.owns st with
    |some st=>iter (a6 k) (run E d h f c) bJ st K
    |none=>a7
 |.exit id,st,K=>K (.exit id) st
 |.goto l,st,K=>K (.goto l) st
 |.ret,st,K=>K .ret st
 |.scope c,st,K=>run E d h f c st (arX K)
 |.rangeFunc fv ps jk j,st,K=>match gV st.fr fv with
  |.fn g p=>
   let st:=Gg (E.kp f (500000+dC j)) st
   alloc E.cl (a6 (700000+ps.toList.headD 0)) (.lp f st.fr ps.toList jk j (bif E.rf f (dC j)then a6 (dC j)else a7) 0 a7) st fun id st=>
    d (.call g (.yld id::p)) {st with stk:=[.yld id]::st.stk} fun _ st=>match st.stk with
     |[.yld id]::i=>match dM st.hp id with
      |some (.lp _ _ _ _ _ _ 0 a7)=>K .normal {st with stk:=i,hp:=iT st.hp id .dead}
      |some (.lp _ _ _ _ _ _ 1 (a6 e))=>K e {st with stk:=i,hp:=iT st.hp id .dead}
      |_=>a7
     |_=>a7
  |_=>a7
 |.refuse _,_,_=>a7
def sJ (T:TT) (st:St):List ResultVar->(List bK->Option R)->Option R
 |[],K=>K []
 |.tmp t::l,K=>sJ T st l fun d=>K (st.fr.getD t .undef::d)
 |.cell a t::l,K=>L6 T st.hp t (st.fr.getD a .undef) fun v=>sJ T st l fun d=>K (v::d)
def wP (fr:List bK):List Nat->List bK->List bK
 |p::d,v::e=>wP (fr.set p v) d e
 |_,_=>fr
def pop (st:St) (K:St->Option R):Option R:=
 match st.stk with
 |d::e=>K {st with fr:=d,stk:=e}
 |[]=>a7
def Env.keyed (E:Env):Option Nat->Env
 |some _=>E
 |none=>{E with lp:=fun _ _=>a7,rf:=fun _ _=>false}
def kK (E:Env):Nat->{R:Type}->nD R
 |0,_,_,_,_=>a7
 |n+1,R,.call f h,st,K=>match E.P.funcs[f]? with
  |none=>a7
  |some fn=>match fn.body with
   |none=>a7
   |some c=>bif h.length.ble fn.ntmps then
     (run (E.at n) (kK E n) ⟨fun j st=>kK E n (R:=bK) j st fun v _=>a6 v,kK E n,kK E n⟩ f c {fr:=h++List.replicate (fn.ntmps-h.length) (.tup []),stk:=st.fr::st.stk,hp:=st.hp,nxt:=st.nxt} fun e d=>
      match e with
      |.normal|.ret=>sJ E.T d fn.results.toList fun l=>
       let v:=match l with
        |[v]=>v
        |l=>.tup l
       match gc (bif E.cl then st.nxt else 1000000*d.stk.length) v {d with fr:=[]}with
       |some g=>pop g (K v)
       |none=>a7
      |_=>a7)else a7
 |n+1,R,.yield id h,st,K=>match dM st.hp id with
  |some (.lp f fr0 ps jk bd m 0 a7)=>bif h.length==ps.length then
    (run ((E.at n).keyed m) (kK E n) ⟨fun j st=>kK E n (R:=bK) j st fun v _=>a6 v,kK E n,kK E n⟩ f jk {fr:=wP fr0 ps h,stk:=[.yld id]::st.fr::st.stk,hp:=st.hp,nxt:=st.nxt} fun e d=>match e,d.stk with
     |.normal,[.yld id]::_=>match dM d.hp id with
      |some (.lp f1 fr1 ps1 asg1 bd1 p 0 a7)=>run ((E.at n).keyed m) (kK E n) ⟨fun j st=>kK E n (R:=bK) j st fun v _=>a6 v,kK E n,kK E n⟩ f bd {d with hp:=iT d.hp id (.lp f1 fr1 ps1 asg1 bd1 p 2 a7)} fun e g=>match g.stk with
       |[.yld id]::i=>match dM g.hp id with
        |some (.lp f2 fr2 ps2 asg2 bd2 o 2 a7)=>
         match gc (bif E.cl then st.nxt else 1000000*g.stk.length) .undef {g with fr:=[],stk:=i,hp:=iT g.hp id (match e with|.normal=>.lp f2 fr2 ps2 asg2 bd2 o 0 a7|e=>.lp f2 fr2 ps2 asg2 bd2 o 1 (a6 e))}with
         |some q=>pop q (K (.val .bool (match e with|.normal=>true|_=>false)))
         |none=>a7
        |_=>a7
       |_=>a7
      |_=>a7
     |_,_=>a7)else a7
  |_=>a7
end
end
section
open Option renaming some → a6, none → a7
open List renaming append_assoc → ag, length_append → ai, nil_append → aA, length_cons → aH, drop_of_length_le → aK, eq_nil_of_length_eq_zero → bz
open Nat renaming le_refl → ae, lt_or_ge → az
open Tryz
open Go.RowKit
def oV:TypeId:=5
def VH:TypeId:=51
def IU:Code->Nat->Option (Code×Code)
 |.rangeFunc _ _ jk d,k=>if dC d=k then a6 (jk,d)else match IU jk k with
  |some x=>a6 x
  |none=>IU d k
 |.seq a b,k=>match IU a k with
  |some x=>a6 x
  |none=>IU b k
 |.cond _ a b,k=>match IU a k with
  |some x=>a6 x
  |none=>IU b k
 |.block _ c,k=>IU c k
 |.loop c,k=>IU c k
 |.scope c,k=>IU c k
 |_,_=>a7
def aD4 (P:Program) (f:FuncId) (k:Nat):Option (Code×Code):=
 match P.funcs[f]? with
 |some fn=>match fn.body with
  |some c=>IU c k
  |none=>a7
 |none=>a7
noncomputable def uI (f:FuncId) (k:Nat):Option (Code×Code):=aD4 prog f k
def gX (w:World) (b o:Nat) (d:List Value):Prop:= ∀j (h:j<d.length),w.cell? ⟨b,o+j,a7⟩=a6 d[j]
theorem gX.of_block {w w':World} {b o:Nat} {d:List Value} (h:gX w b o d) (hb:w'.heap[b]? =w.heap[b]?):gX w' b o d:=
 fun j e=>(World.cell?_of_block (w:=w) (a:=⟨b,o+j,a7⟩) hb).trans (h j e)
theorem gX.append {w:World} {b o:Nat} {xs e:List Value}:gX w b o (xs++e)↔gX w b o xs/\gX w b (o+xs.length) e:=by
 constructor
 .intro h;refine⟨fun j d=> ?_,fun j d=> ?_⟩
  .have:=h j (by simp;omega);simp_all
  .have:=h (xs.length+j) (by simp;omega)
   grind
 .rintro ⟨f,g⟩ j d;rcases az j xs.length with h|h
  .rw[List.getElem_append_left h];exact f j h
  .rw[List.getElem_append_right h];have:=g (j-xs.length) (by simp at d;omega)
   grind
def gp {e:Type} (R:e->List Value->Prop) (size:Nat):List e->List Value->Prop
 |[],d=>d=[]
 |x::g,d=> ∃c f,d=c++f/\c.length=size/\R x c/\gp R size g f
theorem gp.mono {d:Type} {R e:d->List Value->Prop} {size:Nat} (h: ∀x c,R x c->e x c): ∀(xs:List d) (f:List Value),gp R size xs f->gp e size xs f
 |[],_,i=>i
 |_::xs,_,⟨c,g,j,l,m,o⟩=>⟨c,g,j,l,h _ _ m,gp.mono h xs g o⟩
theorem gp.length {d:Type} {R:d->List Value->Prop} {size:Nat}: ∀(xs:List d) (e:List Value),gp R size xs e->e.length=xs.length*size
 |[],_,f=>by cases f;simp
 |_::xs,_,⟨c,g,h,i,l,j⟩=>by
  subst h;simp only[ai,aH,i,gp.length xs g j,Nat.add_mul,Nat.one_mul];omega
theorem gp.append {e:Type} {R:e->List Value->Prop} {size:Nat}: ∀(xs:List e) (f:List Value) (d:List e) (us:List Value),gp R size xs f->gp R size d us->gp R size (xs++d) (f++us)
 |[],_,d,us,i,h=>by cases i;exact h
 |x::xs,_,d,us,⟨c,g,j,l,m,o⟩,h=>by
  subst j;exact⟨c,g++us,by simp,l,m,gp.append xs g d us o h⟩
theorem gp.take {d:Type} {R:d->List Value->Prop} {size:Nat}: ∀(k:Nat) (xs:List d) (e:List Value),gp R size xs e->gp R size (xs.take k) (e.take (k*size))
 |0,_,_,_=>by simp[gp]
 |k+1,[],_,g=>by cases g;simp[gp]
 |k+1,x::xs,_,⟨c,f,h,i,j,l⟩=>by
  subst h;refine⟨c,f.take (k*size), ?_,i,j,gp.take k xs f l⟩;simp_all [List.take_append,List.take_of_length_le,Nat.add_mul]
theorem gp.drop {e:Type} {R:e->List Value->Prop} {size:Nat}: ∀(k:Nat) (xs:List e) (f:List Value),gp R size xs f->gp R size (xs.drop k) (f.drop (k*size))
 |0,_,_,h=>by simpa using h
 |k+1,[],_,i=>by cases i;simp[gp]
 |k+1,x::xs,_,⟨c,d,j,g,m,l⟩=>by
  subst j;have:(c++d).drop ((k+1)*size)=d.drop (k*size):=by
   rw[List.drop_append,aK (by rw[g,Nat.add_mul];omega),aA,g,Nat.add_mul];congr 1;omega
  rw[this,List.drop_succ_cons];exact gp.drop k xs d l
theorem gp.at_ {f:Type} {R:f->List Value->Prop} {size:Nat}: ∀(i:Nat) (xs:List f) (g:List Value) (hi:i<xs.length),gp R size xs g->
  ∃c,c.length=size/\R xs[i] c/\ ∃d h,g=d++c++h/\d.length=i*size
 |i,[],_,hi,_=>by simp at hi
 |0,x::xs,_,_,⟨c,e,j,l,m,o⟩=>⟨c,l,m,[],e,by simp[j],by simp⟩
 |i+1,x::xs,_,hi,⟨c,e,j,l,m,o⟩=>by
  obtain⟨p,q,s,d,h,u,v⟩:=gp.at_ i xs e (by simpa using hi) o
  grind
theorem gp.set {h:Type} {R:h->List Value->Prop} {size:Nat} (y:h) (d:List Value) (hd:d.length=size) (o:R y d): ∀(i:Nat) (xs:List h) (e c f:List Value),
  i<xs.length->gp R size xs (e++c++f)->e.length=i*size->c.length=size->gp R size (xs.set i y) (e++d++f)
 |i,[],_,_,_,j,_,_,_=>by simp at j
 |0,x::xs,e,c,f,_,⟨p,z,g,l,q,s⟩,u,m=>by
  have:e=[]:=bz (by simpa using u);subst this;simp only[aA]at g ⊢;obtain⟨A,v⟩:=List.append_inj g (by rw[m,l]);subst v;exact⟨d,f,rfl,hd,o,s⟩
 |i+1,x::xs,e,c,f,j,⟨p,z,g,l,q,s⟩,u,m=>by
  have D:size<=e.length:=by grind
  have B:e=e.take size++e.drop size:=(List.take_append_drop size e).symm;rw[B,ag,ag]at g;obtain⟨A,v⟩:=List.append_inj g (by grind);have:=gp.set y d hd o i xs (e.drop size) c f (by simpa using j) (by grind) (by grind) m;refine⟨p,e.drop size++d++f, ?_,l,q,this⟩
  grind
def fB (w:World) (fr:Nat->Prop):(t:Ty)->t.den->List Value->Prop
 |.unit,_,cs=>cs=[]
 |.bool,x,cs=>cs=[.bool x]
 |.int k,x,cs=>cs=[.int k x]
 |.str,x,cs=>cs=[.string ⟨x.toArray⟩]
 |.list t,d,cs=> ∃a c e,cs=[.slice a d.length c]/\d.length<=c/\gp (fB w fr t) t.size d e/\(e=[]\/ ∃b f,a=a6 ⟨b,f,a7⟩/\fr b/\gX w b f e)
 |.pair a b,x,cs=> ∃g h,cs=g++h/\fB w fr a x.1 g/\fB w fr b x.2 h
theorem fB.mono {w w':World} {fr i:Nat->Prop} (h: ∀b,fr b->i b/\w'.heap[b]? =w.heap[b]?): ∀(t:Ty) (x:t.den) (cs:List Value),fB w fr t x cs->fB w' i t x cs
 |.unit,_,_,d=>d
 |.bool,_,_,d=>d
 |.int _,_,_,d=>d
 |.str,_,_,d=>d
 |.list t,p,_,⟨a,c,j,e,f,g,q⟩=>⟨a,c,j,e,f,gp.mono (fB.mono h t) p j g,q.imp id fun⟨b,s,u,l,v⟩=>⟨b,s,u,(h b l).1,v.of_block (h b l).2⟩⟩
 |.pair a b,x,_,⟨m,o,e,f,g⟩=>⟨m,o,e,fB.mono h a x.1 m f,fB.mono h b x.2 o g⟩
theorem fB.length {w:World} {fr:Nat->Prop}: ∀(t:Ty) (x:t.den) (cs:List Value),fB w fr t x cs->cs.length=t.size
 |.unit,_,_,d=>by cases d;rfl
 |.bool,_,_,d=>by cases d;rfl
 |.int _,_,_,d=>by cases d;rfl
 |.str,_,_,d=>by cases d;rfl
 |.list t,j,_,⟨a,c,l,e,_⟩=>by subst e;rfl
 |.pair a b,x,_,⟨f,g,e,h,i⟩=>by subst e;simp[Ty.size,fB.length a x.1 f h,fB.length b x.2 g i]
theorem fB.one {w:World} {fr:Nat->Prop}: ∀(t:Ty) (x:t.den) (cs:List Value),fB w fr t x cs-> ∀v∈cs,v.oneCell'=true
 |.unit,_,_,d=>by cases d;simp
 |.bool,_,_,d=>by cases d;simp[Value.oneCell']
 |.int _,_,_,d=>by cases d;simp[Value.oneCell']
 |.str,_,_,d=>by cases d;simp[Value.oneCell']
 |.list t,l,_,⟨a,c,m,f,_⟩=>by subst f;simp[Value.oneCell']
 |.pair a b,x,_,⟨g,h,f,i,j⟩=>by
  subst f;intro v e;rcases List.mem_append.1 e with e|e
  .exact fB.one a x.1 g i v e
  .exact fB.one b x.2 h j v e
structure Loc where
 blk:Nat
 v:Value
structure Cx where
 mu:Nat->Loc
 hp:gG
 nxt:Nat
 w:World
 mks:List Nat
 bar:Nat->Prop
def dJ.blk:dJ->Loc->Option Nat
 |.box _ _,l=>a6 l.blk
 |.arr _ _ _,l=>l.v.ownBlock
 |.lp _ _ _ _ _ _ _ _,l=>a6 l.blk
 |.dead,_=>a7
 |.mp _ _ _,l=>a6 l.blk
def Cx.own (c:Cx) (b:Nat):Prop:= ∃id o,dM c.hp id=a6 o/\o.blk (c.mu id)=a6 b
def Cx.free (c:Cx) (b:Nat):Prop:=b<c.w.heap.size/\ ¬c.own b/\b∉c.mks/\ ¬c.bar b
def Cx.out (c:Cx) (b:Nat):Prop:=b<c.w.heap.size/\ ¬c.own b/\b∉c.mks
def Cx.known (c:Cx) (id:Nat):Prop:=(∃o,dM c.hp id=a6 o)\/id<c.nxt
def VD (c:Cx) (t:Ty) (x:t.den) (v:Value):Prop:=
 (t.isAgg=true-> ∃cs,v=.agg cs/\fB c.w c.free t x cs.toList)/\(t.isAgg=false->fB c.w c.free t x [v])
def ja (size:Nat) (s:Value):Option (Int×Int)->Value->Prop
 |none,v=>v=s
 |some (lo,d),v=> ∃a n c,s=.slice a n c/\0<=lo/\lo<=d/\d<=n/\v=.slice (if c=lo.toNat then a else a.map (·.add (lo.toNat*size))) (d.toNat-lo.toNat) (c-lo.toNat)
mutual
def bP (c:Cx):bK->Value->Prop
 |.undef,_=>True
 |.val t x,v=>VD c t x v
 |.nils,v=>v=.slice a7 0 0
 |.emp,v=> ∃a,v=.slice a 0 0
 |.lst e j b,v=>VD c (.list e) j v/\ ∃a n m,v=.slice a n m/\b=a.isNone
 |.nilp,v=>v=.pointer a7
 |.nilfn,v=>v=.nilFunc
 |.tup l,v=> ∃d,v=.tuple d/\bH c l d.toList
 |.agg l,v=> ∃d,v=.agg d/\bH c l d.toList/\ ∀u∈d.toList,u.oneCell'=true
 |.cellp t x,v=> ∃b o s,v=.pointer (a6 ⟨b,o,a7⟩)/\c.free b/\gX c.w b o s/\fB c.w c.free t x s
 |.ptr id q,v=>v.oneCell'=true/\c.known id/\ ∀t cs,dM c.hp id=a6 (.box t cs)->v=.pointer (a6 ⟨(c.mu id).blk,q,a7⟩)
 |.slf id,v=>v.oneCell'=true/\c.known id/\ ∀t cs,dM c.hp id=a6 (.box t cs)->v=.pointer a7\/v=.pointer (a6 ⟨(c.mu id).blk,0,a7⟩)
 |.sd id h,v=>v.oneCell'=true/\c.known id/\ ∀t u j,dM c.hp id=a6 (.arr t u j)->h<=u/\(u=h->(∃p,v=.pointer p)/\ ∀a n cp,(c.mu id).v=.slice a n cp->n≠0->v=.pointer a)
 |.slc id h y,v=>v.oneCell'=true/\c.known id/\ ∀t u j,dM c.hp id=a6 (.arr t u j)->h<=u/\(u=h->ja t.size (c.mu id).v y v)
 |.ep id h i q,v=>v.oneCell'=true/\c.known id/\ ∀t u j,dM c.hp id=a6 (.arr t u j)->h<=u/\(u=h-> ∃g n cp,(c.mu id).v=.slice (a6 ⟨g,0,a7⟩) n cp/\v=.pointer (a6 ⟨g,i*t.size+q,a7⟩))
 |.fn f l,v=> ∃d,v=.func (.func f) #[] d/\bH c l d.toList
 |.mfn f l,v=> ∃d,v=.func (.func f) d #[]/\bH c l d.toList
 |.mpv id,v=>v.oneCell'=true/\c.known id/\ ∀z A B,dM c.hp id=a6 (.mp z A B)->v=.map (a6 (c.mu id).blk)
 |.yld id,v=>v.oneCell'=true/\c.known id/\ ∀f D E jk G I n p,dM c.hp id=a6 (.lp f D E jk G I n p)->v=.func (.yield (c.mu id).blk) #[] #[]
def bH (c:Cx):List bK->List Value->Prop
 |[],[]=>True
 |v::l,x::d=>bP c v x/\bH c l d
 |_,_=>False
end
def dJ.like:dJ->Loc->dJ->Loc->Prop
 |.box _ _,l,.box _ _,d=>d.blk=l.blk
 |.lp _ _ _ _ _ _ _ _,l,.lp _ _ _ _ _ _ _ _,d=>d.blk=l.blk
 |.mp _ _ _,l,.mp _ _ _,d=>d.blk=l.blk
 |_,_,.dead,_=>True
 |.arr t v _,l,.arr t' v' _,d=>v<=v'/\(v=v'->t=t'/\d.v=l.v)
 |_,_,_,_=>False
structure Cx.Le0 (c c':Cx):Prop where
 out: ∀b,c.out b->c'.out b/\c'.w.heap[b]? =c.w.heap[b]?
 ref: ∀id,c.known id->c'.known id
 obj: ∀id o',c.known id->dM c'.hp id=a6 o'-> ∃o,dM c.hp id=a6 o/\o.like (c.mu id) o' (c'.mu id)
 bar:c'.bar=c.bar
structure Cx.Le (c c':Cx):Prop where
 out: ∀b,c.out b->c'.out b/\c'.w.heap[b]? =c.w.heap[b]?
 ref: ∀id,c.known id->c'.known id
 obj: ∀id o',c.known id->dM c'.hp id=a6 o'-> ∃o,dM c.hp id=a6 o/\o.like (c.mu id) o' (c'.mu id)
 mks: ∀r,r∈c.mks->r∈c'.mks
 lp: ∀(b:Nat) (L:Loop),c.w.heap[b]? =a6 (Obj.loop L)-> ∃L':Loop,c'.w.heap[b]? =a6 (Obj.loop L')
 size:c.w.heap.size<=c'.w.heap.size
 bar:c'.bar=c.bar
theorem Cx.Le0.free {c c':Cx} (h:c.Le0 c') (b:Nat) (hb:c.free b):c'.free b/\c'.w.heap[b]? =c.w.heap[b]? :=
 let⟨⟨d,e,f⟩,g⟩:=h.out b ⟨hb.1,hb.2.1,hb.2.2.1⟩
 ⟨⟨d,e,f,by rw[h.bar];exact hb.2.2.2⟩,g⟩
theorem Cx.Le.free {c c':Cx} (h:c.Le c') (b:Nat) (hb:c.free b):c'.free b/\c'.w.heap[b]? =c.w.heap[b]? :=
 let⟨⟨d,e,f⟩,g⟩:=h.out b ⟨hb.1,hb.2.1,hb.2.2.1⟩
 ⟨⟨d,e,f,by rw[h.bar];exact hb.2.2.2⟩,g⟩
theorem dJ.like_refl (o:dJ) (l:Loc):o.like l o l:=by cases o<;>simp[dJ.like]
theorem dJ.like_trans {a b d:dJ} {l m n:Loc} (h:a.like l b m) (k:b.like m d n):a.like l d n:=by
 cases d with
 |dead=>cases a<;>simp[dJ.like]
 |arr t'' v'' e=>
  cases b with
  |arr t' v' f=>
   cases a with
   |arr t v g=>
    grind [dJ.like]
   |_=>simp[dJ.like]at h
  |_=>simp[dJ.like]at k
 |box _ _=>cases b<;>cases a<;>simp_all [dJ.like]
 |lp _ _ _ _ _ _ _ _=>cases b<;>cases a<;>simp_all [dJ.like]
 |mp _ _ _=>cases b<;>cases a<;>simp_all [dJ.like]
theorem Cx.Le.refl (c:Cx):c.Le c:=⟨fun _ h=>⟨h,rfl⟩,fun _ h=>h,fun id o h d=>⟨o,d,o.like_refl _⟩,fun _ h=>h,fun b L h=>⟨L,h⟩,ae _,rfl⟩
theorem VD.le0 {c c':Cx} (h:c.Le0 c') {t:Ty} {x:t.den} {v:Value} (d:VD c t x v):VD c' t x v:=
 ⟨fun e=>let⟨cs,f,g⟩:=d.1 e;⟨cs,f,fB.mono h.free t x _ g⟩,fun e=>fB.mono h.free t x _ (d.2 e)⟩
mutual
theorem bP.le0 {c c':Cx} (h:c.Le0 c'): ∀(v:bK) (x:Value),bP c v x->bP c' v x
 |.undef,_,_=>by simp[bP]
 |.val t x,v,d=>by simp only[bP]at d ⊢;exact d.le0 h
 |.nils,_,d=>by assumption
 |.emp,_,d=>by assumption
 |.lst e y b,v,d=>by simp only[bP]at d ⊢;exact⟨d.1.le0 h,d.2⟩
 |.nilp,_,d=>by assumption
 |.nilfn,_,d=>by assumption
 |.tup l,v,d=>by simp only[bP]at d ⊢;obtain⟨s,j,g⟩:=d;exact⟨s,j,bH.le0 h l _ g⟩
 |.agg l,v,d=>by simp only[bP]at d ⊢;obtain⟨s,j,g,z⟩:=d;exact⟨s,j,bH.le0 h l _ g,z⟩
 |.cellp t x,v,d=>by
  simp only[bP]at d ⊢;obtain⟨b,o,D,j,g,z,E⟩:=d;exact⟨b,o,D,j,(h.free b g).1,z.of_block (h.free b g).2,fB.mono h.free t x _ E⟩
 |.ptr id G,v,d=>by
  simp only[bP]at d ⊢;obtain⟨m,d⟩:=d;refine⟨m,h.ref id d.1,fun t cs q=> ?_⟩;obtain⟨o,j,g⟩:=h.obj id _ d.1 q;cases o<;>simp only[dJ.like]at g;simp_all
 |.slf id,v,d=>by
  simp only[bP]at d ⊢;obtain⟨m,d⟩:=d;refine⟨m,h.ref id d.1,fun t cs q=> ?_⟩;obtain⟨o,j,g⟩:=h.obj id _ d.1 q;cases o<;>simp only[dJ.like]at g;simp_all
 |.sd id A,v,d=>by
  simp only[bP]at d ⊢;obtain⟨m,d⟩:=d;refine⟨m,h.ref id d.1,fun t u y q=> ?_⟩;obtain⟨o,j,g⟩:=h.obj id _ d.1 q;cases o with
  |arr t' v' B=>
   grind [dJ.like]
  |box _ _=>simp[dJ.like]at g
  |lp _ _ _ _ _ _ _ _=>simp[dJ.like]at g
  |dead=>simp[dJ.like]at g
  |mp _ _ _=>simp[dJ.like]at g
 |.slc id A I,v,d=>by
  simp only[bP]at d ⊢;obtain⟨m,d⟩:=d;refine⟨m,h.ref id d.1,fun t u y q=> ?_⟩;obtain⟨o,j,g⟩:=h.obj id _ d.1 q;cases o with
  |arr t' v' B=>
   grind [dJ.like]
  |box _ _=>simp[dJ.like]at g
  |lp _ _ _ _ _ _ _ _=>simp[dJ.like]at g
  |dead=>simp[dJ.like]at g
  |mp _ _ _=>simp[dJ.like]at g
 |.ep id A i G,v,d=>by
  simp only[bP]at d ⊢;obtain⟨m,d⟩:=d;refine⟨m,h.ref id d.1,fun t u y q=> ?_⟩;obtain⟨o,j,g⟩:=h.obj id _ d.1 q;cases o with
  |arr t' v' B=>
   grind [dJ.like]
  |box _ _=>simp[dJ.like]at g
  |lp _ _ _ _ _ _ _ _=>simp[dJ.like]at g
  |dead=>simp[dJ.like]at g
  |mp _ _ _=>simp[dJ.like]at g
 |.fn f l,v,d=>by simp only[bP]at d ⊢;obtain⟨s,j,g⟩:=d;exact⟨s,j,bH.le0 h l _ g⟩
 |.mfn f l,v,d=>by simp only[bP]at d ⊢;obtain⟨s,j,g⟩:=d;exact⟨s,j,bH.le0 h l _ g⟩
 |.mpv id,v,d=>by
  simp only[bP]at d ⊢;obtain⟨m,d⟩:=d;refine⟨m,h.ref id d.1,fun J K L q=> ?_⟩;obtain⟨o,j,g⟩:=h.obj id _ d.1 q;cases o<;>simp only[dJ.like]at g;simp_all
 |.yld id,v,d=>by
  simp only[bP]at d ⊢;obtain⟨m,d⟩:=d;refine⟨m,h.ref id d.1,fun f M N jk O S n p q=> ?_⟩;obtain⟨o,j,g⟩:=h.obj id _ d.1 q;cases o<;>simp only[dJ.like]at g;simp_all
theorem bH.le0 {c c':Cx} (h:c.Le0 c'): ∀(l:List bK) (xs:List Value),bH c l xs->bH c' l xs
 |[],[],_=>by simp[bH]
 |v::l,x::xs,d=>by simp only[bH]at d ⊢;exact⟨bP.le0 h v x d.1,bH.le0 h l xs d.2⟩
 |[],_::_,d=>by simp[bH]at d
 |_::_,[],d=>by simp[bH]at d
end
theorem Cx.Le.le0 {c c':Cx} (h:c.Le c'):c.Le0 c':=⟨h.out,h.ref,h.obj,h.bar⟩
theorem VD.le {c c':Cx} (h:c.Le c') {t:Ty} {x:t.den} {v:Value} (d:VD c t x v):VD c' t x v:=d.le0 h.le0
theorem bP.le {c c':Cx} (h:c.Le c') (v:bK) (x:Value) (d:bP c v x):bP c' v x:=bP.le0 h.le0 v x d
theorem bH.le {c c':Cx} (h:c.Le c') (l:List bK) (xs:List Value) (d:bH c l xs):bH c' l xs:=bH.le0 h.le0 l xs d
end
section
open Nat renaming lt_or_ge → az
open Tryz
open Go.RowKit
def alr (w:World):Prop:=Lib.TabIs prog w "internal/strconv.uint64pow10" .u64 Lib.pow10Tab
theorem ajR:prog.globalNamed "internal/strconv.uint64pow10" =some 0:=by kernel_rfl
theorem alr.below {w w':World} (hb:Below w.heap.size w w') (h:alr w):alr w':=by
 unfold alr Lib.TabIs World.var? at h ⊢;rw[ajR]at h ⊢;simp only[Option.bind_some]at h ⊢;have e:0<w.heap.size:=by
  rcases az 0 w.heap.size with d|d
  .exact d
  .rw[Array.getElem?_eq_none d]at h;cases h
 rw[hb.block _ e];exact h
def aoH (w:World):Prop:= ∃m,w.cell? ⟨3,0,none⟩=some (.int .i64 m)
theorem aoH.below {w w':World} (hb:Below w.heap.size w w') (h:aoH w):aoH w':=by
 obtain⟨m,d⟩:=h;exact⟨m,(hb.cell (World.block_lt_of_cell? w _ d)).trans d⟩
def Phi (w:World):Prop:=alr w/\aoH w
theorem Phi.below {w w':World} (hb:Below w.heap.size w w') (h:Phi w):Phi w':=⟨h.1.below hb,h.2.below hb⟩
end
section
open Option renaming some → a6, none → a7
open List renaming cons_append → aW
open Nat renaming le_trans → aG, lt_of_lt_of_le → aZ
open Go.RowKit
theorem Cx.Le.trans {a b c:Cx} (h:a.Le b) (k:b.Le c):a.Le c:=
 ⟨fun x e=>⟨(k.out x (h.out x e).1).1,(k.out x (h.out x e).1).2.trans (h.out x e).2⟩,fun i d=>k.ref i (h.ref i d),fun i o d g=>by
  obtain⟨p,f,s⟩:=k.obj i o (h.ref i d) g;obtain⟨q,u,v⟩:=h.obj i p d f
  grind [dJ.like_trans],fun r j=>k.mks r (h.mks r j),fun b L l=>let⟨m,f⟩:=h.lp b L l;k.lp b m f,aG h.size k.size,k.bar.trans h.bar⟩
theorem dY (k:Nat) (o:dJ) (h:gG) (i:Nat):dM ((k,o)::h) i=if k=i then a6 o else dM h i:=by
 simp_all [dM]
theorem jf: ∀(h:gG) (i:Nat) (o:dJ) (j:Nat),dM (iT h i o) j=if i=j then(dM h i).map fun _=>o else dM h j
 |[],i,o,j=>by simp[iT,dM]
 |(k,p)::h,i,o,j=>by
  simp only[iT];by_cases e:k=i
  .simp_all [dY]
  .have d:(k==i)=false:=by simpa using e
   simp only[d,ac,dY,jf h i o j]
   grind
theorem RZ {h:gG} {i:Nat} {o p:dJ} (hi:dM h i=a6 p):dM (iT h i o) i=a6 o:=by rw[jf];simp[hi]
theorem awC {h:gG} {i j:Nat} {o:dJ} (hi:i≠j):dM (iT h i o) j=dM h j:=by rw[jf];simp[hi]
def upd (mu:Nat->Loc) (id:Nat) (l:Loc):Nat->Loc:=fun j=>if j=id then l else mu j
theorem upd_same (mu:Nat->Loc) (id:Nat) (l:Loc):upd mu id l id=l:=by simp[upd]
theorem upd_ne (mu:Nat->Loc) {id j:Nat} (l:Loc) (h:j≠id):upd mu id l j=mu j:=by simp[upd,h]
def Ex.code:Ex->Option Code
 |.normal=>a7
 |.exit id=>a6 (.exit id)
 |.goto l=>a6 (.goto l)
 |.ret=>a6 .ret
def aoF:Nat->Option Ex->Loop->Prop
 |0,a7,L=>L.state=.ready/\L.pending=a7
 |1,a6 e,L=>L.state=.done/\L.pending=e.code/\e.code≠a7
 |2,a7,L=>L.state=.busy
 |_,_,_=>False
def Cx.ORel (B:Nat) (c:Cx) (id:Nat):dJ->Prop
 |.box e cs=>B<=(c.mu id).blk/\ ∃d,c.w.heap[(c.mu id).blk]? =a6 (.cells d e (0,0))/\bH c cs d.toList/\ ∀u∈d.toList,u.oneCell'=true
 |.arr t ver g=>0<t.size/\ ∃e h,c.w.ownsRow B e t.size (c.mu id).v g.length h/\gp (fB c.w c.free t) t.size g h/\(t=.int .u8->e=oV)
 |.lp f fr ps jk bd ky n p=>(∀k,ky=a6 k->uI f k=a6 (jk,bd))/\B<=(c.mu id).blk/\ ∃L:Loop,c.w.heap[(c.mu id).blk]? =a6 (Obj.loop L)/\bH c fr L.tmps.toList/\L.params.toList=ps/\L.assign=jk/\L.body=bd/\aoF n p L
 |.dead=>True
 |.mp kk vk j=>B<=(c.mu id).blk/\ ∃i l,c.w.heap[(c.mu id).blk]? =a6 (.map i l)/\i.toList.map (fun e=>(e.key,e.val))=j.map fun p=>(Value.int kk p.1,Value.int vk p.2)
structure Cx.Ok (W0:World) (c:Cx):Prop where
 bel:Below W0.heap.size W0 c.w
 obj: ∀id o,dM c.hp id=a6 o->c.ORel W0.heap.size id o
 inj: ∀i j o p b,dM c.hp i=a6 o->dM c.hp j=a6 p->o.blk (c.mu i)=a6 b->p.blk (c.mu j)=a6 b->i=j
 mks: ∀r,r∈c.mks->W0.heap.size<=r/\c.w.heap[r]? =a6 (.deferred (a6 []))
 bar: ∀b,c.bar b->c.out b
 phi:Phi W0
theorem Cx.Ok.phiw {W0:World} {c:Cx} (h:c.Ok W0):Phi c.w:=Phi.below h.bel h.phi
theorem Cx.ORel.lt {B:Nat} {c:Cx} {id:Nat} {o:dJ} (h:c.ORel B id o) {b:Nat} (hb:o.blk (c.mu id)=a6 b):B<=b/\b<c.w.heap.size:=by
 cases o with
 |box e cs=>
  simp only[dJ.blk,Option.some.injEq]at hb;subst hb;obtain⟨d,g,f,_⟩:=h
  grind
 |arr t ver i=>
  simp only[dJ.blk]at hb;obtain⟨_,e,j,d,_⟩:=h;exact World.ownsRow.lt d b hb
 |lp _ _ _ _ _ _ _ _=>
  simp only[dJ.blk,Option.some.injEq]at hb;subst hb;obtain⟨_,d,L,f,_⟩:=h
  grind
 |dead=>cases hb
 |mp _ _ _=>
  simp only[dJ.blk,Option.some.injEq]at hb;subst hb;obtain⟨d,l,cl,f,_⟩:=h
  grind
theorem Cx.ORel.no_mark {B:Nat} {c:Cx} {id:Nat} {o:dJ} (h:c.ORel B id o) {b:Nat} (hb:o.blk (c.mu id)=a6 b) {d:Option (List Deferred)}:c.w.heap[b]? ≠a6 (.deferred d):=by
 intro hd;cases o with
 |box e cs=>
  simp only[dJ.blk,Option.some.injEq]at hb;subst hb;obtain⟨f,l,j,_⟩:=h;simp_all
 |arr t ver m=>
  simp only[dJ.blk]at hb;obtain⟨_,e,p,f,_⟩:=h;rcases f.2 with ⟨i,_⟩|⟨g,q,s,i,_,u,_⟩
  .rw[i]at hb;cases hb
  .rw[i]at hb;cases hb;simp_all
 |lp _ _ _ _ _ _ _ _=>
  simp only[dJ.blk,Option.some.injEq]at hb;subst hb;obtain⟨_,f,L,j,_⟩:=h;simp_all
 |dead=>cases hb
 |mp _ _ _=>
  simp only[dJ.blk,Option.some.injEq]at hb;subst hb;obtain⟨f,v,cl,j,_⟩:=h;simp_all
theorem Cx.ORel.no_loop {B:Nat} {c:Cx} {id:Nat} {o:dJ} (h:c.ORel B id o) (s: ∀f fr j jk l m n p,o≠ .lp f fr j jk l m n p) {b:Nat} (hb:o.blk (c.mu id)=a6 b) {L:Loop}:c.w.heap[b]? ≠a6 (Obj.loop L):=by
 intro hd;cases o with
 |box e cs=>
  simp only[dJ.blk,Option.some.injEq]at hb;subst hb;obtain⟨d,u,q,_⟩:=h;simp_all
 |arr t ver v=>
  simp only[dJ.blk]at hb;obtain⟨_,e,x,d,_⟩:=h;rcases d.2 with ⟨i,_⟩|⟨g,y,z,i,_,A,_⟩
  .rw[i]at hb;cases hb
  .rw[i]at hb;cases hb;simp_all
 |lp _ _ _ _ _ _ _ _=>grind
 |dead=>cases hb
 |mp _ _ _=>
  simp only[dJ.blk,Option.some.injEq]at hb;subst hb;obtain⟨d,D,cl,q,_⟩:=h;simp_all
theorem Cx.Ok.mark_lt {W0:World} {c:Cx} (h:c.Ok W0) {r:Nat} (d:r∈c.mks):r<c.w.heap.size:=(Array.getElem?_eq_some_iff.1 (h.mks r d).2).1
theorem Cx.Ok.mark_own {W0:World} {c:Cx} (h:c.Ok W0) {r:Nat} (d:r∈c.mks): ¬c.own r:=by
 rintro ⟨id,o,e,f⟩;exact(h.obj id o e).no_mark f (h.mks r d).2
theorem Cx.Ok.own_lt {W0:World} {c:Cx} (h:c.Ok W0) {b:Nat} (hb:c.own b):W0.heap.size<=b/\b<c.w.heap.size:=by
 obtain⟨id,o,d,e⟩:=hb;exact(h.obj id o d).lt e
theorem Cx.Ok.size {W0:World} {c:Cx} (h:c.Ok W0):W0.heap.size<=c.w.heap.size:=h.bel.size
theorem Cx.Ok.free_old {W0:World} {c:Cx} (h:c.Ok W0) {b:Nat} (hb:b<W0.heap.size) (d: ¬c.bar b):c.free b:=
 ⟨aZ hb h.size,fun e=>by have:=(h.own_lt e).1;omega,fun f=>by have:=(h.mks b f).1;omega,d⟩
theorem A7 {w w':World} {B:Nat} {e:TypeId} {size n:Nat} {v:Value} {xs:List Value} (h:w.ownsRow B e size v n xs) (hb: ∀b,v.ownBlock=a6 b->w'.heap[b]? =w.heap[b]?):w'.ownsRow B e size v n xs:=by
 refine⟨h.1, ?_⟩;rcases h.2 with d|⟨g,i,j,f,d,l,m⟩
 .exact .inl d
 .refine .inr ⟨g,i,j,f,d, ?_,m⟩;rw[hb g (by rw[f];rfl)];exact l
theorem Cx.ORel.le {B:Nat} {c c':Cx} {id:Nat} {o:dJ} (h:c.ORel B id o) (hl:c.Le c') (d:c'.mu id=c.mu id) (hb: ∀b,o.blk (c.mu id)=a6 b->c'.w.heap[b]? =c.w.heap[b]?):c'.ORel B id o:=by
 cases o with
 |box e cs=>
  obtain⟨g,q,i,j,l⟩:=h;refine⟨by rw[d];exact g,q,by rw[d,hb _ rfl];exact i,bH.le hl _ _ j,l⟩
 |arr t ver x=>
  obtain⟨m,e,s,g,i,j⟩:=h;refine⟨m,e,s, ?_,gp.mono (fB.mono hl.free t) _ _ i,j⟩;rw[d];exact A7 g fun b u=>hb b u
 |lp f fr ps jk bd ky n p=>
  obtain⟨m,g,L,i,j,l⟩:=h;exact⟨m,by rw[d];exact g,L,by rw[d,hb _ rfl];exact i,bH.le hl _ _ j,l⟩
 |dead=>trivial
 |mp kk vk y=>
  obtain⟨g,v,cl,i,j⟩:=h;exact⟨by rw[d];exact g,v,cl,by rw[d,hb _ rfl];exact i,j⟩
def Cx.at_ (c:Cx) (w:World):Cx:={c with w:=w}
theorem Cx.Le.ext {c:Cx} {w:World} (h:Below c.w.heap.size c.w w):c.Le (c.at_ w):=
 ⟨fun b d=>⟨⟨aZ d.1 h.size,d.2⟩,h.block b d.1⟩,fun _ h=>h,fun id o _ f=>⟨o,f,o.like_refl _⟩,fun _ h=>h,
  fun b L e=>⟨L,(h.block b (Array.getElem?_eq_some_iff.1 e).1).trans e⟩,h.size,rfl⟩
theorem Cx.Ok.ext {W0:World} {c:Cx} {w:World} (d:c.Ok W0) (h:Below c.w.heap.size c.w w):(c.at_ w).Ok W0:=
 ⟨d.bel.trans (h.mono d.size),fun id o g=>(d.obj id o g).le (Cx.Le.ext h) rfl fun b e=>h.block b ((d.obj id o g).lt e).2,d.inj,
  fun r f=>⟨(d.mks r f).1,(h.block r (d.mark_lt f)).trans (d.mks r f).2⟩,fun b e=>((Cx.Le.ext h).out b (d.bar b e)).1,d.phi⟩
def Cx.push (c:Cx) (id:Nat) (o:dJ) (l:Loc) (nxt:Nat) (w:World):Cx:=⟨upd c.mu id l,(id,o)::c.hp,nxt,w,c.mks,c.bar⟩
theorem Cx.Le.push {c:Cx} {id:Nat} {o:dJ} {l:Loc} {nxt:Nat} {w:World} (v: ¬c.known id) (x:c.nxt<=nxt) (q:c.w.heap.size<=w.heap.size)
  (hb: ∀b,b<c.w.heap.size->w.heap[b]? =c.w.heap[b]?) (hl: ∀b,o.blk l=a6 b->c.w.heap.size<=b):c.Le (c.push id o l nxt w):=by
 have hk: ∀j,c.known j->j≠id:=fun j d e=>v (e▸d);refine⟨fun b f=>⟨⟨aZ f.1 q, ?_,f.2.2⟩,hb b f.1⟩,fun j d=> ?_,fun j p d m=> ?_,fun _ h=>h,fun b L s=>⟨L,(hb b (Array.getElem?_eq_some_iff.1 s).1).trans s⟩,q,rfl⟩
 .rintro ⟨j,p,i,g⟩;simp only[Cx.push,dY]at i g;split at i
  .rename_i e
   subst e;cases i;rw[upd_same]at g;have:=hl b g;have:=f.1;omega
  .rename_i e
   rw[upd_ne _ _ (Ne.symm e)]at g;exact f.2.1 ⟨j,p,i,g⟩
 .rcases d with ⟨p,m⟩|d
  .left;simp only[Cx.push,dY]
   grind
  .right;exact aZ d x
 .have u:=hk j d;simp only[Cx.push,dY,aq (Ne.symm u)]at m ⊢;exact⟨p,m,by rw[upd_ne _ _ u];exact p.like_refl _⟩
theorem Cx.Ok.push {W0:World} {c:Cx} {id:Nat} {o:dJ} {l:Loc} {nxt:Nat} {w:World} (d:c.Ok W0) (y: ¬c.known id) (E:c.nxt<=nxt) (h:Below c.w.heap.size c.w w)
  (hl: ∀b,o.blk l=a6 b->c.w.heap.size<=b) (J:(c.push id o l nxt w).ORel W0.heap.size id o):(c.push id o l nxt w).Ok W0:=by
 have z:=Cx.Le.push (o:=o) y E h.size h.block hl;have hk: ∀j p,dM c.hp j=a6 p->j≠id:=fun j p G e=>y (e▸ .inl ⟨p,G⟩);refine⟨d.bel.trans (h.mono d.size),fun j p I=> ?_,fun i j p q b A B f g=> ?_,fun r m=>⟨(d.mks r m).1,(h.block r (d.mark_lt m)).trans (d.mks r m).2⟩,fun b s=>(z.out b (d.bar b s)).1,d.phi⟩
 .by_cases e:j=id
  .simp_all [Cx.push,dY]
  .have D:dM c.hp j=a6 p:=by simpa [Cx.push,dY,Ne.symm e] using I
   exact(d.obj j p D).le z (upd_ne _ _ e) fun b s=>h.block b ((d.obj j p D).lt s).2
 .by_cases e1:i=id<;>by_cases e2:j=id
  .rw[e1,e2]
  .subst e1;have u:p=o:=by grind [Cx.push,dY]
   have v:dM c.hp j=a6 q:=by simpa [Cx.push,dY,Ne.symm e2] using B
   subst u;simp only[Cx.push,upd_same,upd_ne _ _ e2]at f g;have:=hl b f;have:=((d.obj j q v).lt g).2;omega
  .subst e2;have u:q=o:=by grind [Cx.push,dY]
   have x:dM c.hp i=a6 p:=by simpa [Cx.push,dY,Ne.symm e1] using A
   subst u;simp only[Cx.push,upd_same,upd_ne _ _ e1]at f g;have:=hl b g;have:=((d.obj i p x).lt f).2;omega
  .have x:dM c.hp i=a6 p:=by simpa [Cx.push,dY,Ne.symm e1] using A
   have v:dM c.hp j=a6 q:=by simpa [Cx.push,dY,Ne.symm e2] using B
   simp only[Cx.push,upd_ne _ _ e1,upd_ne _ _ e2]at f g;exact d.inj i j p q b x v f g
def Cx.put (c:Cx) (id:Nat) (o:dJ) (l:Loc) (w:World):Cx:=⟨upd c.mu id l,iT c.hp id o,c.nxt,w,c.mks,c.bar⟩
theorem Cx.put_get {c:Cx} {id:Nat} {o p:dJ} {l:Loc} {w:World} (hp:dM c.hp id=a6 p):dM (c.put id o l w).hp id=a6 o:=RZ hp
theorem Cx.Le.put {W0:World} {c:Cx} {id:Nat} {o o':dJ} {l:Loc} {w:World} (y:c.Ok W0) (m:dM c.hp id=a6 o) (hk:o.like (c.mu id) o' l) (s:c.w.heap.size<=w.heap.size)
  (hb: ∀b,b<c.w.heap.size->o.blk (c.mu id)≠a6 b->w.heap[b]? =c.w.heap[b]?) (hl: ∀b,o'.blk l=a6 b->o.blk (c.mu id)=a6 b\/c.w.heap.size<=b)
  (v: ∀(b:Nat) (L:Loop),o.blk (c.mu id)=a6 b->c.w.heap[b]? =a6 (Obj.loop L)-> ∃x:Loop,w.heap[b]? =a6 (Obj.loop x)):c.Le (c.put id o' l w):=by
 refine⟨fun b d=>⟨⟨aZ d.1 s, ?_,d.2.2⟩,hb b d.1 fun e=>d.2.1 ⟨id,o,m,e⟩⟩,fun j i=> ?_,fun j p i hp=> ?_,fun _ h=>h,fun b L q=> ?_,s,rfl⟩
 rotate_left 3
 .by_cases e:o.blk (c.mu id)=a6 b
  .exact v b L e q
  .exact⟨L,(hb b (Array.getElem?_eq_some_iff.1 q).1 e).trans q⟩
 .rintro ⟨j,p,f,g⟩;simp only[Cx.put,jf]at f g;split at f
  .rename_i e
   subst e;rw[m]at f;cases f;rw[upd_same]at g;rcases hl b g with u|u
   .exact d.2.1 ⟨id,o,m,u⟩
   .have:=d.1;omega
  .rename_i e
   rw[upd_ne _ _ (Ne.symm e)]at g;exact d.2.1 ⟨j,p,f,g⟩
 .rcases i with ⟨p,hp⟩|i
  .left
   grind [Cx.put,jf]
  .right;exact i
 .simp only[Cx.put,jf]at hp ⊢;split at hp
  .simp_all [upd_same]
  .rename_i e
   exact⟨p,hp,by rw[upd_ne _ _ (Ne.symm e)];exact p.like_refl _⟩
theorem Cx.Ok.put {W0:World} {c:Cx} {id:Nat} {o o':dJ} {l:Loc} {w:World} (d:c.Ok W0) (s:dM c.hp id=a6 o) (hk:o.like (c.mu id) o' l) (K:Below W0.heap.size W0 w)
  (M:c.w.heap.size<=w.heap.size) (hb: ∀b,b<c.w.heap.size->o.blk (c.mu id)≠a6 b->w.heap[b]? =c.w.heap[b]?) (hl: ∀b,o'.blk l=a6 b->o.blk (c.mu id)=a6 b\/c.w.heap.size<=b)
  (N: ∀(b:Nat) (L:Loop),o.blk (c.mu id)=a6 b->c.w.heap[b]? =a6 (Obj.loop L)-> ∃O:Loop,w.heap[b]? =a6 (Obj.loop O)) (S:(c.put id o' l w).ORel W0.heap.size id o'):(c.put id o' l w).Ok W0:=by
 have G:=Cx.Le.put (w:=w) d s hk M hb hl N;refine⟨K,fun j p hp=> ?_,fun i j p q b A B g m=> ?_,fun r v=>⟨(d.mks r v).1,(hb r (d.mark_lt v) fun e=>(d.obj id o s).no_mark e (d.mks r v).2).trans (d.mks r v).2⟩,fun b hb=>(G.out b (d.bar b hb)).1,d.phi⟩
 .by_cases e:id=j
  .grind [Cx.put_get]
  .have D:dM c.hp j=a6 p:=by grind [Cx.put,jf]
   refine(d.obj j p D).le G (upd_ne _ _ (Ne.symm e)) fun b I=>hb b ((d.obj j p D).lt I).2 fun f=>e (d.inj id j o p b s D f I)
 .have x: ∀i p,dM (c.put id o' l w).hp i=a6 p->id≠i->dM c.hp i=a6 p:=fun i p h e=>by simpa [Cx.put,jf,e] using h
  have J: ∀p,dM (c.put id o' l w).hp id=a6 p->p=o':=fun p h=>by grind [Cx.put_get]
  by_cases e1:id=i<;>by_cases f:id=j
  .rw[<-e1,<-f]
  .subst e1;have E:=J p A;have y:=x j q B f;subst E;simp only[Cx.put,upd_same,upd_ne _ _ (Ne.symm f)]at g m;rcases hl b g with u|u
   .exact d.inj id j o q b s y u m
   .have:=((d.obj j q y).lt m).2;omega
  .subst f;have E:=J q B;have z:=x i p A e1;subst E;simp only[Cx.put,upd_same,upd_ne _ _ (Ne.symm e1)]at g m;rcases hl b m with u|u
   .exact d.inj i id p o b z s g u
   .have:=((d.obj i p z).lt g).2;omega
  .have z:=x i p A e1;have y:=x j q B f;simp only[Cx.put,upd_ne _ _ (Ne.symm e1),upd_ne _ _ (Ne.symm f)]at g m;exact d.inj i j p q b z y g m
theorem bH.length {c:Cx}: ∀(l:List bK) (xs:List Value),bH c l xs->l.length=xs.length
 |[],[],_=>rfl
 |v::l,x::xs,h=>by simp only[bH]at h;simp[bH.length l xs h.2]
 |[],_::_,h=>by simp[bH]at h
 |_::_,[],h=>by simp[bH]at h
theorem bH.get {c:Cx}: ∀(l:List bK) (xs:List Value),bH c l xs-> ∀(i:Nat) (h:i<l.length) (f:i<xs.length),bP c l[i] xs[i]
 |v::l,x::xs,h,0,_,_=>by simp_all [bH]
 |v::l,x::xs,h,i+1,d,e=>by simp only[bH]at h;exact bH.get l xs h.2 i (by simpa using d) (by simpa using e)
 |[],_,_,_,d,_=>by simp at d
 |_::_,[],h,_,_,_=>by simp[bH]at h
theorem bH.append {c:Cx}: ∀(l m:List bK) (xs d:List Value),bH c l xs->bH c m d->bH c (l++m) (xs++d)
 |[],m,[],d,_,h=>h
 |v::l,m,x::xs,d,h,k=>by simp only[bH,aW]at h ⊢;exact⟨h.1,bH.append l m xs d h.2 k⟩
 |[],_,_::_,_,h,_=>by simp[bH]at h
 |_::_,_,[],_,h,_=>by simp[bH]at h
theorem bH.take {c:Cx}: ∀(k:Nat) (l:List bK) (xs:List Value),bH c l xs->bH c (l.take k) (xs.take k)
 |0,_,_,_=>by simp[bH]
 |k+1,[],[],_=>by simp[bH]
 |k+1,v::l,x::xs,h=>by simp only[bH,List.take_succ_cons]at h ⊢;exact⟨h.1,bH.take k l xs h.2⟩
 |_+1,[],_::_,h=>by simp[bH]at h
 |_+1,_::_,[],h=>by simp[bH]at h
theorem bH.drop {c:Cx}: ∀(k:Nat) (l:List bK) (xs:List Value),bH c l xs->bH c (l.drop k) (xs.drop k)
 |0,_,_,h=>by simpa using h
 |k+1,[],[],_=>by simp[bH]
 |k+1,v::l,x::xs,h=>by simp only[bH,List.drop_succ_cons]at h ⊢;exact bH.drop k l xs h.2
 |_+1,[],_::_,h=>by simp[bH]at h
 |_+1,_::_,[],h=>by simp[bH]at h
theorem bH.set {c:Cx} {v:bK} {x:Value} (d:bP c v x): ∀(i:Nat) (l:List bK) (xs:List Value),bH c l xs->bH c (l.set i v) (xs.set i x)
 |_,[],[],_=>by simp[bH]
 |0,u::l,y::xs,h=>by simp_all [bH]
 |i+1,u::l,y::xs,h=>by simp only[bH,List.set_cons_succ]at h ⊢;exact⟨h.1,bH.set d i l xs h.2⟩
 |_,[],_::_,h=>by simp[bH]at h
 |_,_::_,[],h=>by simp[bH]at h
theorem bH.split {c:Cx}: ∀(l m:List bK) (xs:List Value),bH c (l++m) xs-> ∃d e,xs=d++e/\bH c l d/\bH c m e
 |[],m,xs,h=>⟨[],xs,rfl,by simp[bH],h⟩
 |v::l,m,x::xs,h=>by
  simp only[bH,aW]at h;obtain⟨d,e,f,g,i⟩:=bH.split l m xs h.2;exact⟨x::d,e,by rw[f];rfl,by simp only[bH];exact⟨h.1,g⟩,i⟩
 |v::l,m,[],h=>by simp[bH]at h
theorem VD.leaf {c:Cx} {t:Ty} {x:t.den} {v:Value} (h:t.isAgg=false):VD c t x v↔fB c.w c.free t x [v]:=⟨fun d=>d.2 h,fun d=>⟨(fun e=>by rw[h]at e;cases e),(fun _=>d)⟩⟩
theorem VD.agg {c:Cx} {t:Ty} {x:t.den} {v:Value} (h:t.isAgg=true):VD c t x v↔ ∃cs,v=.agg cs/\fB c.w c.free t x cs.toList:=⟨fun d=>d.1 h,fun d=>⟨(fun _=>d),(fun e=>by rw[h]at e;cases e)⟩⟩
theorem VD.cells {c:Cx} {t:Ty} {x:t.den} {v:Value} (h:VD c t x v):fB c.w c.free t x v.cells.toList:=by
 by_cases e:t.isAgg=true
 .obtain⟨cs,rfl,d⟩:=h.1 e;exact d
 .have f:t.isAgg=false:=by simpa using e
  have d:=h.2 f;have g:=fB.one _ _ _ d v (by simp);cases v<;>simp_all [Value.cells,Value.oneCell']
theorem DU {c:Cx}: ∀(t:Ty) (x:t.den) (cs:List Value),fB c.w c.free t x cs->bH c (flat t x) cs
 |.unit,_,_,h=>by cases h;simp[flat,bH]
 |.bool,x,cs,h=>by simp only[fB]at h;subst h;simp only[flat,bH,bP];exact⟨(VD.leaf rfl).2 rfl,trivial⟩
 |.int k,x,cs,h=>by simp only[fB]at h;subst h;simp only[flat,bH,bP];exact⟨(VD.leaf rfl).2 rfl,trivial⟩
 |.str,x,cs,h=>by simp only[fB]at h;subst h;simp only[flat,bH,bP];exact⟨(VD.leaf rfl).2 rfl,trivial⟩
 |.list t,x,cs,h=>by
  have e:=h;obtain⟨a,n,l,d,_⟩:=h;subst d;simp only[flat,bH,bP];exact⟨(VD.leaf rfl).2 e,trivial⟩
 |.pair a b,x,cs,⟨f,g,d,i,j⟩=>by
  subst d;exact bH.append _ _ _ _ (DU a x.1 f i) (DU b x.2 g j)
theorem mf {t' t:Ty} {x:t'.den} {y:t.den} (h:ku t x=a6 y): ∃e:t'=t,y=cast (congrArg Ty.den e) x:=by
 grind [ku]
theorem gB {t:Ty} (x:t.den):ku t x=a6 x:=by simp[ku]
theorem iI {t' t:Ty} {x:t'.den} {y:t.den} (h:ku t x=a6 y):t'=t:=(mf h).1
theorem JQ {c:Cx} {t:Ty} (e:t.isAgg=false) {v:bK} {x:t.den} (h:leaf t v=a6 x) {u:Value} (d:bP c v u):fB c.w c.free t x [u]:=by
 cases v with
 |val t' y=>
  grind [leaf,mf,bP,VD.leaf]
 |nils=>
  cases t<;>simp only[leaf]at h
  case list t=>
   cases h;simp only[bP]at d;subst d;exact⟨a7,0,[],rfl,by simp,rfl,.inl rfl⟩
  all_goals cases h
 |_=>simp[leaf]at h
theorem af9 {c:Cx}: ∀(t:Ty) (l:List bK) (x:t.den) (e:List bK) (vs:List Value),mk t l=a6 (x,e)->bH c l vs->
  ∃cs g,vs=cs++g/\fB c.w c.free t x cs/\bH c e g
 |.unit,l,x,e,vs,h,d=>by
  simp only[mk,Option.some.injEq,Prod.mk.injEq]at h;obtain⟨_,rfl⟩:=h;exact⟨[],vs,rfl,rfl,d⟩
 |.pair a b,l,x,e,vs,h,d=>by
  simp only[mk]at h;split at h
  .rename_i y i o
   split at h
   .rename_i z G p
    cases h;obtain⟨j,q,I,s,A⟩:=af9 a l y i vs o d;obtain⟨m,B,J,D,E⟩:=af9 b i z e q p A;exact⟨j++m,B,by simp_all,⟨j,m,rfl,s,D⟩,E⟩
   .cases h
  .cases h
 |.bool,[],_,_,_,h,_=>by simp[mk]at h
 |.int _,[],_,_,_,h,_=>by simp[mk]at h
 |.str,[],_,_,_,h,_=>by simp[mk]at h
 |.list _,[],_,_,_,h,_=>by simp[mk]at h
 |.bool,v::l,x,e,u::vs,h,d=>by
  simp only[bH]at d;simp only[mk]at h;split at h
  .rename_i y f;cases h;exact⟨[u],vs,rfl,JQ rfl f d.1,d.2⟩
  .cases h
 |.int k,v::l,x,e,u::vs,h,d=>by
  simp only[bH]at d;simp only[mk]at h;split at h
  .rename_i y f;cases h;exact⟨[u],vs,rfl,JQ rfl f d.1,d.2⟩
  .cases h
 |.str,v::l,x,e,u::vs,h,d=>by
  simp only[bH]at d;simp only[mk]at h;split at h
  .rename_i y f;cases h;exact⟨[u],vs,rfl,JQ rfl f d.1,d.2⟩
  .cases h
 |.list t,v::l,x,e,u::vs,h,d=>by
  simp only[bH]at d;simp only[mk]at h;split at h
  .rename_i y f;cases h;exact⟨[u],vs,rfl,JQ rfl f d.1,d.2⟩
  .cases h
 |.bool,_::_,_,_,[],_,d=>by simp[bH]at d
 |.int _,_::_,_,_,[],_,d=>by simp[bH]at d
 |.str,_::_,_,_,[],_,d=>by simp[bH]at d
 |.list _,_::_,_,_,[],_,d=>by simp[bH]at d
theorem oL {c:Cx} {t:Ty} {l:List bK} {x:t.den} {vs:List Value} (h:Hf t l=a6 x) (d:bH c l vs):fB c.w c.free t x vs:=by
 grind [Hf,af9,bH]
theorem LP {c:Cx} {v:bK} {l:List bK} (h:v.cells=a6 l) {x:Value} (d:bP c v x):bH c l x.cells.toList/\ ∀u∈x.cells.toList,u.oneCell'=true:=by
 cases v with
 |val t y=>
  simp only[bK.cells,Option.some.injEq]at h;subst h;simp only[bP]at d;exact⟨DU t y _ d.cells,fB.one _ _ _ d.cells⟩
 |agg i=>
  simp only[bK.cells,Option.some.injEq]at h;subst h;simp only[bP]at d;obtain⟨j,rfl,e,f⟩:=d;exact⟨e,f⟩
 |undef=>simp[bK.cells]at h
 |tup _=>simp[bK.cells]at h
 |_=>
  simp only[bK.cells,Option.some.injEq]at h;subst h;have g:x.oneCell'=true:=by
   simp only[bP]at d
   first
    |(subst d;rfl)
    |exact d.1
    |(obtain⟨_,_,_,rfl,_⟩:=d;rfl)
    |(obtain⟨_,rfl,_⟩:=d;rfl)
    |(obtain⟨_,_,_,_,rfl,_⟩:=d;rfl)
  have e:x.cells= #[x]:=by cases x<;>simp_all [Value.cells,Value.oneCell']
  rw[e];simp only[bH];exact⟨⟨d,trivial⟩,by simpa using g⟩
end
section
open Option renaming some → a6, none → a7
open Bool renaming not_eq_true → bg
open List renaming map_cons → ak
open Go.RowKit
def kL:TypeDesc->Option TK
 |.bool=>a6 .bool
 |.int k=>a6 (.int k)
 |.string=>a6 .str
 |.slice e=>a6 (.slice e)
 |.struct d=>a6 (.struct (d.toList.map fun f=>(f.offset,f.type)))
 |.func _ _ _=>a6 .fn
 |.pointer e=>a6 (.ptr e)
 |.map k e=>a6 (.map k e)
 |.array _ _=>a7
 |_=>a6 .other
def jF (T:TT):Nat->List (Nat×TypeId)->Option Ty
 |_,[]=>a6 .unit
 |e,(o,d)::f=>if o=e then match(T.at d).ty with
   |some a=>if a.size=(T.at d).size/\(T.at d).known=true then match jF T (e+a.size) f with
    |some b=>a6 (.pair a b)
    |none=>a7
    else a7
   |none=>a7
  else a7
def lH (T:TT):TK->Option Ty
 |.bool=>a6 .bool
 |.int k=>a6 (.int k)
 |.str=>a6 .str
 |.slice e=>(T.at e).ty.map .list
 |.struct d=>jF T 0 d
 |_=>a7
def aAR (P:Program) (T:TT) (t:TypeId) (i:TI):Prop:=
 i.known=true->(P.info? t).map (fun f=>(f.size,f.bytes,f.zero.map fun z=>(z.cells.toList.map xh,z.cells.toList.all Value.oneCell')))=a6 (i.size,i.bytes,a6 (i.zero,true))/\
  (P.underlying t).map kL=a6 (a6 i.k)/\(i.ty=a7\/i.ty=lH T i.k)/\(∀y,i.ty=a6 y->y.size=i.size)/\(i.isAgg=true\/i.size=1)/\
  (i.eq=true->P.eqGuardType P.depth t=false/\P.stoodInHeld t=false/\(P.underlying t).map (fun d=>match d with|.struct fs=>fs.toList.all fun f=>f.name != "_" |_=>false)=a6 true)/\
  (P.underlying t).map (fun d=>match d with|.struct fs=>fs.toList.all fun f=>(P.info? f.type).isSome|_=>true)=a6 true/\i.zero.length=i.size/\(i.ty=a6 (.int .u8)->t=oV)/\(i.bld=true->t=VH)/\(∀k,i.k=.int k-> ∀j,P.info? t=a6 j->j.zero=a6 (.int k 0))
def TOk (P:Program) (T:TT):Prop:= ∀t,aAR P T t (T.at t)
def TT.All (p:Nat->TI->Prop):TT->Prop
 |.nil=>True
 |.node k i l r=>p k i/\l.All p/\r.All p
theorem TT.All.at_ {p:Nat->TI->Prop} (hd: ∀t,p t default): ∀(T:TT),T.All p-> ∀t,p t (T.at t)
 |.nil,_,t=>hd t
 |.node k i l r,⟨j,d,f⟩,t=>by
  simp only[TT.at];by_cases e:Nat.beq k t=true
  .simp_all
  .have g:Nat.beq k t=false:=(bg _).mp e;simp only[g,ac];by_cases e2:Nat.blt t k=true
   .simp only[e2,aa];exact TT.All.at_ hd l d t
   .have h:Nat.blt t k=false:=(bg _).mp e2;simp only[h,ac];exact TT.All.at_ hd r f t
theorem TOk.of_all {P:Program} {T:TT} (h:T.All (aAR P T)):TOk P T:=TT.All.at_ (fun t h=>by cases h) T h
section types
variable {P:Program} {T:TT} (hT:TOk P T) {t:TypeId} (hk:(T.at t).known=true)
theorem TOk.info (hT:TOk P T) (hk:(T.at t).known=true): ∃i z,P.info? t=a6 i/\i.size=(T.at t).size/\i.bytes=(T.at t).bytes/\i.zero=a6 z/\z.cells.toList.map xh=(T.at t).zero/\z.cells.toList.all Value.oneCell'=true:=by
 have h:=(hT t hk).1;simp_all
theorem TOk.und (hT:TOk P T) (hk:(T.at t).known=true): ∃d,P.underlying t=a6 d/\kL d=a6 (T.at t).k:=by
 have h:=(hT t hk).2.1;simp_all
theorem TOk.slice (hT:TOk P T) (hk:(T.at t).known=true) {e:TypeId} (h:(T.at t).k=.slice e):P.underlying t=a6 (.slice e):=by
 obtain⟨d,g,f⟩:=hT.und hk;rw[h]at f;cases d<;>simp[kL]at f;subst f;exact g
theorem TOk.str (hT:TOk P T) (hk:(T.at t).known=true) (h:(T.at t).k=.str):P.underlying t=a6 .string:=by
 obtain⟨d,f,e⟩:=hT.und hk;rw[h]at e;cases d<;>simp[kL]at e;exact f
theorem TOk.int (hT:TOk P T) (hk:(T.at t).known=true) {k:IntKind} (h:(T.at t).k=.int k):P.underlying t=a6 (.int k):=by
 obtain⟨d,f,e⟩:=hT.und hk;rw[h]at e;cases d<;>simp[kL]at e;subst e;exact f
theorem TOk.struct (hT:TOk P T) (hk:(T.at t).known=true) {e:List (Nat×TypeId)} (h:(T.at t).k=.struct e): ∃g,P.underlying t=a6 (.struct g)/\g.toList.map (fun f=>(f.offset,f.type))=e:=by
 obtain⟨d,j,i⟩:=hT.und hk;rw[h]at i;cases d<;>simp[kL]at i;simp_all
theorem TOk.isAgg (hT:TOk P T) (hk:(T.at t).known=true) (w:World):(Go.isAgg t).run P w=.ok (T.at t).isAgg w:=by
 obtain⟨d,f,e⟩:=hT.und hk;have:(Go.isAgg t).run P w=.ok (match d with|.struct _|.array _ _=>true|_=>false) w:=by
  simp only[Go.isAgg,Sem.run_bind,run_underlying f,Result.andThen_ok];cases d<;>rfl
 rw[this];unfold TI.isAgg;cases d<;>simp only[kL,Option.some.injEq,reduceCtorEq]at e<;>simp[<-e]
theorem TOk.sizeOf (hT:TOk P T) (hk:(T.at t).known=true) (w:World):(Go.sizeOf t).run P w=.ok (T.at t).size w:=by
 obtain⟨i,z,d,e,_⟩:=hT.info hk;simp[Go.sizeOf,typeInfo,d,e]
theorem TOk.ty_agg (hT:TOk P T) (hk:(T.at t).known=true) {y:Ty} (h:(T.at t).ty=a6 y):y.isAgg=(T.at t).isAgg:=by
 rcases(hT t hk).2.2.1 with d|d
 .simp_all
 .rw[h]at d;unfold TI.isAgg;cases hkk:(T.at t).k with
  |struct g=>
   rw[hkk]at d;simp only[lH]at d;cases g with
   |nil=>simp only[jF,Option.some.injEq]at d;subst d;rfl
   |cons f r=>
    obtain⟨o,i⟩:=f;simp only[jF]at d
    repeat' split at d
    all_goals first|cases d|skip
    rfl
  |bool=>rw[hkk]at d;simp only[lH,Option.some.injEq]at d;subst d;rfl
  |int k=>rw[hkk]at d;simp only[lH,Option.some.injEq]at d;subst d;rfl
  |str=>rw[hkk]at d;simp only[lH,Option.some.injEq]at d;subst d;rfl
  |slice e=>
   rw[hkk]at d;simp only[lH]at d;cases he:(T.at e).ty with
   |none=>simp_all
   |some j=>rw[he]at d;simp only[Option.map_some,Option.some.injEq]at d;subst d;rfl
  |other=>rw[hkk]at d;cases d
  |ptr e=>rw[hkk]at d;cases d
  |fn=>rw[hkk]at d;cases d
  |map a b=>rw[hkk]at d;cases d
theorem TOk.ty_size (hT:TOk P T) (hk:(T.at t).known=true) {y:Ty} (h:(T.at t).ty=a6 y):y.size=(T.at t).size:=(hT t hk).2.2.2.1 y h
theorem TOk.zlen (hT:TOk P T) (hk:(T.at t).known=true):(T.at t).zero.length=(T.at t).size:=(hT t hk).2.2.2.2.2.2.2.1
theorem TOk.byte (hT:TOk P T) (hk:(T.at t).known=true) (h:(T.at t).ty=a6 (.int .u8)):t=oV:=(hT t hk).2.2.2.2.2.2.2.2.1 h
theorem TOk.bldr (hT:TOk P T) (hk:(T.at t).known=true) (h:(T.at t).bld=true):t=VH:=(hT t hk).2.2.2.2.2.2.2.2.2.1 h
theorem TOk.ptr (hT:TOk P T) (hk:(T.at t).known=true) {e:TypeId} (h:(T.at t).k=.ptr e):P.underlying t=a6 (.pointer e):=by
 obtain⟨d,g,f⟩:=hT.und hk;rw[h]at f;cases d<;>simp[kL]at f;subst f;exact g
theorem TOk.zero_int (hT:TOk P T) (hk:(T.at t).known=true) {k:IntKind} (h:(T.at t).k=.int k) {i:TypeInfo} (hi:P.info? t=a6 i):i.zero=a6 (.int k 0):=(hT t hk).2.2.2.2.2.2.2.2.2.2 k h i hi
theorem TOk.zero_byte (hT:TOk P T) (hk:(T.at t).known=true) (h:(T.at t).k=.int .u8) {i:TypeInfo} (hi:P.info? t=a6 i):i.zero=a6 (.int .u8 0):=hT.zero_int hk h hi
theorem TOk.map (hT:TOk P T) (hk:(T.at t).known=true) {a e:TypeId} (h:(T.at t).k=.map a e):P.underlying t=a6 (.map a e):=by
 obtain⟨d,g,f⟩:=hT.und hk;rw[h]at f;cases d<;>simp[kL]at f;simp_all
theorem TOk.one (hT:TOk P T) (hk:(T.at t).known=true):(T.at t).isAgg=true\/(T.at t).size=1:=(hT t hk).2.2.2.2.1
end types
theorem Rk (c:Cx) (v:Value):bP c (xh v) v:=by
 unfold xh;split<;>simp only[bP]
 .exact(VD.leaf rfl).2 rfl
 .exact(VD.leaf rfl).2 rfl
 .refine(VD.leaf rfl).2 ?_;simp[fB]
theorem uq (c:Cx): ∀(l:List Value),bH c (l.map xh) l
 |[]=>by simp[bH]
 |v::l=>by simp only[ak,bH];exact⟨Rk c v,uq c l⟩
theorem bH.setL {c:Cx} {z:bK}: ∀(s:Nat) (fr:List bK) (xs:List Value),bH c fr xs->(∀h:s<xs.length,bP c z xs[s])->bH c (fr.set s z) xs
 |s,[],[],_,_=>by simp[bH]
 |0,v::fr,x::xs,h,d=>by
  simp_all [bH]
 |s+1,v::fr,x::xs,h,d=>by
  simp only[bH,List.set_cons_succ]at h ⊢;exact⟨h.1,bH.setL s fr xs h.2 fun e=>d (by simpa using e)⟩
 |s,[],_::_,h,_=>by simp[bH]at h
 |s,_::_,[],h,_=>by simp[bH]at h
theorem bH.getD {c:Cx} {l:List bK} {xs:Array Value} (h:bH c l xs.toList) (t:Nat):bP c (l.getD t .undef) (xs.getD t undef):=by
 have e:l.length=xs.size:=by grind [bH.length,Array.length_toList]
 by_cases ht:t<l.length
 .have d:t<xs.size:=by omega
  have f:=bH.get _ _ h t ht (by simpa using d);simp_all
 simp_all [bP]
theorem dN {c:Cx} {fr:List bK} {a:Act} (h:bH c fr a.tmps.toList) (x:Operand):bP c (gV fr x) (a.eval x):=by
 cases x with
 |tmp t=>exact h.getD t
 |const v=>
  cases v with
  |agg cs=>
   simp only[gV,Act.eval,XX];cases e:cs.toList.all Value.oneCell'
   .simp[bP]
   .simp only[aa,bP];exact⟨cs,rfl,uq c _,fun u d=>List.all_eq_true.1 e u d⟩
  |tuple _=>simp[gV,XX,bP]
  |_=>simp only[gV,Act.eval,XX];exact Rk c _
 |global g=>simp[gV,bP]
 |func f=>simp only[gV,Act.eval,bP];exact⟨#[],rfl,by simp[bH]⟩
end
section
open Option renaming some → a6, none → a7
open Bool renaming false_eq_true → ah, not_true → ay
open List renaming append_assoc → ag, mem_of_mem_take → bn
open Go.RowKit
theorem dB {R:Type} {b:Bool} {x:Option R} {r:R} (h:(bif b then x else a7)=a6 r):b=true/\x=a6 r:=by
 grind
theorem gu {R:Type} {b:Bool} {x:Option R} {r:R} (h:lZ b x=a6 r):b=true/\x=a6 r:=dB h
abbrev GK (c:Cx) (w:World):Prop:=Below c.w.heap.size c.w w
def valOf (agg:Bool) (d:List Value):Value:=if agg then .agg d.toArray else d.headD undef
theorem jX (b o n:Nat):(⟨b,o,a7⟩:Addr).add n=⟨b,o+n,a7⟩:=by
 simp_all [Addr.add]
section
variable {P:Program} {T:TT} {W0:World} {c:Cx} {R:Type} {r:R} {t:TypeId}
theorem KR (hT:TOk P T) (hk:(T.at t).known=true) {w:World} {b o:Nat} {d:List Value} (g:gX w b o d) (hl:d.length=(T.at t).size):
  (loadVar t ⟨b,o,a7⟩).run P w=.ok (valOf (T.at t).isAgg d) w:=by
 have i:=hT.isAgg hk w;have l:=hT.sizeOf hk w;have f: ∀j v,d[j]? =a6 v->w.cell? ((⟨b,o,a7⟩:Addr).add j)=a6 v:=fun j v m=>by
  rw[jX];obtain⟨p,q⟩:=List.getElem?_eq_some_iff.1 m;rw[g j p,q]
 simp only[loadVar,Sem.run_bind,i,Result.andThen_ok];cases e:(T.at t).isAgg
 .have s:d.length=1:=by
   rcases hT.one hk with h|h
   all_goals simp_all
  match d,s with
  |[z],_=>
   have u:=f 0 z rfl;simp_all [jX,valOf]
 .simp only[if_true,Sem.run_bind,l,Result.andThen_ok,<-hl,run_loadCells_list (P:=P) w ⟨b,o,a7⟩ d f,Sem.run_pure,valOf]
theorem sK (hT:TOk P T) (hk:(T.at t).known=true) {w:World} {b o:Nat} {d:List Value} (e:gX w b o d) (hl:d.length=(T.at t).size):
  (Instr.loadAt t (.pointer (a6 ⟨b,o,a7⟩))).run P w=.ok (valOf (T.at t).isAgg d) w:=by
 grind [Instr.loadAt,Instr.sureAddr,KR]
theorem aeD (hT:TOk P T) (hk:(T.at t).known=true) {y:Ty} (g:(T.at t).ty=a6 y) {x:y.den} {d:List Value} (h:fB c.w c.free y x d):VD c y x (valOf (T.at t).isAgg d):=by
 have f:=hT.ty_agg hk g;cases e:(T.at t).isAgg
 .rw[e]at f;refine(VD.leaf f).2 ?_;have i:=fB.length _ _ _ h;have j:d.length=1:=by
   rw[i];cases y<;>first|rfl|(simp[Ty.isAgg]at f)
  match d,j with
  |[z],_=>exact h
 .rw[e]at f;exact(VD.agg f).2 ⟨d.toArray,rfl,by simpa using h⟩
theorem KD (hT:TOk P T) (hk:(T.at t).known=true) {l:List bK} {d:List Value} (h:bH c l d) (m: ∀u∈d,u.oneCell'=true):bP c (norm (T.at t) l) (valOf (T.at t).isAgg d):=by
 unfold norm valOf TI.isAgg;have e:bP c (.agg l) (.agg d.toArray):=by simp only[bP];simp_all
 cases hkk:(T.at t).k with
 |struct o=>
  simp only[if_true];split
  .rename_i y g
   split
   .rename_i x i
    rw[cond_eq_ite];split
    .exact e
    simp only[bP];have j:=oL i h;have f:=hT.ty_agg hk g;rw[TI.isAgg,hkk]at f;exact(VD.agg f).2 ⟨d.toArray,rfl,by simpa using j⟩
   .exact e
  .exact e
 |_=>
  simp only[ah,if_false];split
  .rename_i v
   match d,h with
   |[z],h=>simp only[bH]at h;exact h.1
   |[],h=>simp[bH]at h
   |_::_::_,h=>simp[bH]at h
  .simp[bP]
theorem BH {cs l:List bK} {off k:Nat} (h:Ji cs off k=a6 l):off+k<=cs.length/\l=(cs.drop off).take k:=by
 unfold Ji at h;obtain⟨d,e⟩:=dB h;simp_all
theorem gX.sub {w:World} {b o:Nat} {d:List Value} (h:gX w b o d) (off k:Nat):gX w b (o+off) ((d.drop off).take k):=by
 intro j e;have f:off+j<d.length:=by simp at e;omega
 rw[Nat.add_assoc,h (off+j) f];simp
theorem gX.of_block_cells {w:World} {b:Nat} {vs:Array Value} {e:TypeId} {f:Nat×Nat} (h:w.heap[b]? =a6 (.cells vs e f)):gX w b 0 vs.toList:=by
 intro j d;simp_all [World.cell?]
theorem GK.cells {c:Cx} {w:World} (h:GK c w) {b o:Nat} {d:List Value} (hb:b<c.w.heap.size) (e:gX c.w b o d):gX w b o d:=e.of_block (h.block b hb)
theorem atw (o:c.Ok W0) {id p:Nat} {y:Ty} {xs:List y.den} (h:dM c.hp id=a6 (.arr y p xs)) {i:Nat} (hi:i<xs.length):
  ∃g n cp f,(c.mu id).v=.slice (a6 ⟨g,0,a7⟩) n cp/\c.own g/\fB c.w c.free y xs[i] f/\gX c.w g (i*y.size) f:=by
 obtain⟨L,e,f,q,s,M⟩:=o.obj id _ h;obtain⟨d,N,u,O,S,x,z⟩:=gp.at_ i xs f hi s;rcases q.2 with ⟨l,A⟩|⟨g,U,B,l,A,D,V,W,X,E⟩
 .omega
 .refine⟨g,_,_,d,l,⟨id,_,h,by simp[dJ.blk,l,Value.ownBlock]⟩,u, ?_⟩;have G:=gX.of_block_cells D;intro j I;have m:f[i*y.size+j]? =a6 d[j]:=by
   rw[x,ag,List.getElem?_append_right (by omega),z,Nat.add_sub_cancel_left,List.getElem?_append_left I];simp
  have J:i*y.size+j<f.length:=(List.getElem?_eq_some_iff.1 m).1;rw[<-E]at m J;have K:i*y.size+j<B.toList.length:=by grind
  have:=G (i*y.size+j) K
  grind
theorem atr (hT:TOk P T) (s:c.Ok W0) {av:bK} {v:Value} {K:bK->Option R} (h:L6 T c.hp t av K=a6 r) (d:bP c av v):
  ∃z u,K z=a6 r/\bP c z u/\ ∀w',GK c w'->(Instr.loadAt t v).run P w'=.ok u w':=by
 unfold L6 at h;cases hk:(T.at t).known
 .simp_all
 rw[hk]at h;simp only[ay,ac]at h;cases av with
 |cellp y x=>
  simp only at h;split at h
  .rename_i y' S
   split at h
   .rename_i x' A
    obtain⟨e,B⟩:=mf A;subst e;subst B;simp only[bP]at d;obtain⟨b,o,U,rfl,V,f,hd⟩:=d;refine⟨_,_,h, ?_,fun w' j=>sK hT hk (j.cells V.1 f) ?_⟩
    .grind [bP,aeD]
    .rw[fB.length _ _ _ hd,hT.ty_size hk S]
   .cases h
  .cases h
 |ptr id m=>
  simp only at h;split at h
  .rename_i bt cs I
   split at h
   .rename_i l D
    obtain⟨p,rfl⟩:=BH D;simp only[bP]at d;have W:=d.2.2 _ _ I;subst W;obtain⟨hB,vs,q,J,X⟩:=s.obj id _ I;have Y:=bH.length _ _ J;have f:=(gX.of_block_cells q).sub m (T.at t).size;rw[Nat.zero_add]at f;refine⟨_,_,h,KD hT hk (bH.take _ _ _ (bH.drop m _ _ J)) (fun u E=>X u (List.mem_of_mem_drop (bn E))),fun w' j=>sK hT hk (j.cells (Array.getElem?_eq_some_iff.1 q).1 f) ?_⟩
    grind
   .cases h
  .cases h
 |ep id ver i m=>
  simp only at h;split at h
  .rename_i y u G L
   replace h:=dB h;obtain⟨p,h⟩:=h;replace h:=dB h;obtain⟨B,h⟩:=h;have p:u=ver:=by simpa using p
   subst p;have M:i<G.length:=by simpa [O1] using B
   split at h
   .rename_i l D
    obtain⟨q,rfl⟩:=BH D;simp only[bP]at d;obtain⟨g',n',ae,Z,e2⟩:=(d.2.2 _ _ _ L).2 rfl;obtain⟨g,n,cp,U,N,ab,hd,f⟩:=atw s L M;rw[Z]at N;cases N;subst e2;have A:G.getD i y.dflt=G[i]:=by simp[List.getD,M]
    rw[A]at h q;have O:=DU y _ _ hd;have Y:=bH.length _ _ O;have ad:=f.sub m (T.at t).size;refine⟨_,_,h,KD hT hk (bH.take _ _ _ (bH.drop m _ _ O)) (fun u E=>fB.one _ _ _ hd u (List.mem_of_mem_drop (bn E))),fun w' j=>sK hT hk (j.cells (s.own_lt ab).2 ad) ?_⟩;simp;omega
   .cases h
  .cases h
 |_=>cases h
end
end
section
open Option renaming some → a6, none → a7
open Bool renaming and_eq_true → af, false_eq_true → ah, not_true → ay, true_and → aU
open List renaming map_cons → ak, drop_eq_getElem_cons → aF
open Go.RowKit
section
variable {P:Program} {T:TT} {W0:World} {c:Cx} {R:Type} {r:R} {t:TypeId}
theorem VD.int_inv {k:IntKind} {n:Int} {v:Value} (h:VD c (.int k) n v):v=.int k n:=by
 have:=h.2 rfl;simp_all [fB]
theorem VD.bool_inv {b:Bool} {v:Value} (h:VD c .bool b v):v=.bool b:=by
 have:=h.2 rfl;simp_all [fB]
theorem VD.str_inv {s:List UInt8} {v:Value} (h:VD c .str s v):v=.string ⟨s.toArray⟩:=by
 have:=h.2 rfl;simp_all [fB]
theorem VD.int_mk {k:IntKind} {n:Int}:VD c (.int k) n (.int k n):=(VD.leaf rfl).2 rfl
theorem VD.bool_mk {b:Bool}:VD c .bool b (.bool b):=(VD.leaf rfl).2 rfl
theorem VD.str_mk {s:List UInt8}:VD c .str s (.string ⟨s.toArray⟩):=(VD.leaf rfl).2 rfl
theorem Fv (hT:TOk P T) (h:T.isStr t=true):P.underlying t=a6 .string:=by
 unfold TT.isStr at h;split at h
 .rename_i e;exact hT.str h e
 .cases h
theorem lT (hT:TOk P T) {n:Nat} (h:T.rowOf t n=true): ∃e,P.underlying t=a6 (.slice e)/\(T.at e).known=true/\(T.at e).size=n/\0<n/\(T.at t).k=.slice e/\0<(T.at e).bytes:=by
 unfold TT.rowOf at h;split at h
 .rename_i e d
  simp only[af,beq_iff_eq,O1,decide_eq_true_eq]at h;exact⟨e,hT.slice h.1 d,h.2.1,h.2.2.1,h.2.2.2.1,d,h.2.2.2.2⟩
 .cases h
theorem _root_.Go.Proofs.YtkichehglnecnaaGreatDoor.TOk.isPtr (hT:TOk P T) (h:T.isPtr t=true): ∃e,P.underlying t=a6 (.pointer e):=by
 unfold TT.isPtr at h;split at h
 .rename_i e hk;exact⟨e,hT.ptr h hk⟩
 .cases h
theorem _root_.Go.Proofs.YtkichehglnecnaaGreatDoor.TOk.isBytes (hT:TOk P T) (h:T.isBytes t=true):P.underlying t=a6 (.pointer oV)/\P.cellsOf oV=1:=by
 unfold TT.isBytes at h;split at h
 .rename_i e hk
  simp only[af]at h;obtain⟨g,d,f⟩:=h;split at f
  .rename_i j
   have:=hT.byte d j;subst this;refine⟨hT.ptr g hk, ?_⟩;obtain⟨i,z,l,m,_⟩:=hT.info d;simp_all [Program.cellsOf]
  .cases f
 .cases h
theorem KG (hT:TOk P T) (hk:(T.at t).known=true) (w:World) (cs:Array Value) (off:Nat) (h:off+(T.at t).size<=cs.size):
  (part t cs off).run P w=.ok (valOf (T.at t).isAgg ((cs.toList.drop off).take (T.at t).size)) w:=by
 have d:=hT.isAgg hk w;have f:=hT.sizeOf hk w;simp only[part,Sem.run_bind,d,Result.andThen_ok];cases e:(T.at t).isAgg
 .have g:(T.at t).size=1:=by
   rcases hT.one hk with h|h
   all_goals simp_all
  have i:off<cs.size:=by omega
  simp_all [aF,valOf]
 .simp only[if_true,Sem.run_bind,f,Result.andThen_ok,Sem.run_pure,valOf];congr 2
  grind
theorem BK (hT:TOk P T): ∀(n:Nat) (t:TypeId),T.eqOk n t=true-> ∀(y:Ty),(T.at t).ty=a6 y-> ∀(x j:y.den) (l m:List Value),fB c.w c.free y x l->fB c.w c.free y j m->
  ∀(w:World) (d:Nat),n<=d->(Op.equalIn d t (valOf (T.at t).isAgg l) (valOf (T.at t).isAgg m)).run P w=.ok (y.same x j) w
 |0,_,h,_,_,_,_,_,_,_,_,_,_,_=>by simp[TT.eqOk]at h
 |n+1,t,h,y,z,x,j,l,m,W,X,w,d,hd=>by
  obtain⟨d,rfl⟩: ∃e,d=e+1:=⟨d-1,by omega⟩;simp only[TT.eqOk,af]at h;obtain⟨hk,h⟩:=h;have i:(T.at t).ty=lH T (T.at t).k:=by
   rcases(hT t hk).2.2.1 with g|g
   all_goals simp_all
  cases hkk:(T.at t).k with
  |bool=>
   rw[z,hkk]at i;simp only[lH,Option.some.injEq]at i;subst i;obtain⟨Y,o,q⟩:=hT.und hk;rw[hkk]at q;cases Y<;>simp[kL]at q;simp_all [fB,TI.isAgg,valOf,run_equalIn_bool,Ty.same]
  |int k=>
   rw[z,hkk]at i;simp only[lH,Option.some.injEq]at i;subst i;have o:=hT.int hk hkk;simp_all [fB,TI.isAgg,valOf,run_equalIn_int,Ty.same]
  |str=>
   rw[z,hkk]at i;simp only[lH,Option.some.injEq]at i;subst i;have o:=hT.str hk hkk;simp_all [fB,TI.isAgg,valOf,run_equalIn_string,Ty.same]
  |struct fs=>
   rw[hkk]at h;simp only[af]at h;obtain⟨K,L⟩:=h;have M:(T.at t).isAgg=true:=by simp[TI.isAgg,hkk]
   rw[z,hkk]at i;simp only[lH]at i;obtain⟨G,o,q⟩:=hT.struct hk hkk;obtain⟨_,N,I⟩:=(hT t hk).2.2.2.2.2.1 K;rw[o]at I;simp only[Option.map_some,Option.some.injEq]at I;have J:P.fieldsOf t=G:=by simp[Program.fieldsOf,o]
   simp only[valOf,M,if_true];rw[run_equalIn_struct w d t _ _ (by rw[J];exact o) N,J];clear J N o z;rw[<-q]at i L;generalize G.toList=p at*;clear q G hkk K M hk;have Z: ∀(p:List Field) (s:Nat) (y:Ty) (x j:y.den) (l m u v:List Value),jF T s (p.map fun f=>(f.offset,f.type))=a6 y->(p.map fun f=>(f.offset,f.type)).all (fun f=>T.eqOk n f.2)=true->
     (p.all fun f=>f.name != "_")=true->fB c.w c.free y x l->fB c.w c.free y j m->u.length=s->v.length=s->
     (Op.eqFields d (u++l).toArray (v++m).toArray p).run P w=.ok (y.same x j) w:=by
    intro p
    induction p with
    |nil=>
     intro s y x j l m u v g _ _ A B _ _;simp only[List.map_nil,jF,Option.some.injEq]at g;subst g;rfl
    |cons f p ih=>
     intro s y x j l m u v g A B h4 h5 h6 h7;simp only[ak,jF]at g;split at g
     .rename_i ab
      split at g
      .rename_i a ha
       split at g
       .rename_i O
        split at g
        .rename_i b hb
         cases g;simp only[ak,List.all_cons,af]at A B;obtain⟨D,S,o,q,e3⟩:=h4;obtain⟨E,U,e4,V,e6⟩:=h5;subst o;subst e4;have ad:=fB.length _ _ _ q;have ae:=fB.length _ _ _ V;have n1:(f.name≠ "_"):=by simpa using B.1
         have p1:(part f.type (u++(D++S)).toArray f.offset).run P w=.ok (valOf (T.at f.type).isAgg D) w:=by
          rw[KG hT O.2 w _ _ (by simp;omega)];simp_all
         have p2:(part f.type (v++(E++U)).toArray f.offset).run P w=.ok (valOf (T.at f.type).isAgg E) w:=by
          rw[KG hT O.2 w _ _ (by simp;omega)];simp_all
         have p3:=BK hT n f.type A.1 a ha x.1 j.1 D E q V w d (by omega);simp only[Op.eqFields,am n1,Sem.run_bind,p1,p2,p3,Result.andThen_ok,Ty.same];cases a.same x.1 j.1
         .simp
         .simp only[ay,ah,if_false,aU];have:=ih (s+a.size) b x.2 j.2 S U (u++D) (v++E) hb A.2 B.2 e3 e6 (by simp;omega) (by simp;omega);simpa using this
        .cases g
       .cases g
      .cases g
     .cases g
   have:=Z p 0 y x j l m [] [] i.symm L I W X rfl rfl;simpa using this
  |_=>simp_all
theorem abz (w:World) (d:BinOp) (a b:List UInt8) (h:d=.eql\/d=.neq\/d=.lss\/d=.leq\/d=.gtr\/d=.geq):
  ∃u,bP c (XK d a b) u/\ ∀w,(Op.stringOp d ⟨a.toArray⟩ ⟨b.toArray⟩).run P w=.ok u w:=by
 rcases h with rfl|rfl|rfl|rfl|rfl|rfl<;>
  exact⟨_,by simp only[XK,bP];exact VD.bool_mk,fun w=>by simp[Op.stringOp,gI,ltS]⟩
theorem mr (d:BinOp) (t:TypeId) (ox oy:Operand) (x y:Value) (w:World) (h:x.oneCell'=true) (h2:x≠ .nilIface):(eqGuard d t ox oy x y).run P w=.ok () w:=by
 unfold eqGuard;cases x<;>first
  |(simp[Value.oneCell']at h;done)
  |exact absurd rfl h2
  |(cases d<;>simp)
theorem EZ {y:Ty} {v:bK} {x:y.den} (h:v.as [] y=a6 x) (d:y.isAgg=true) {u:Value} (f:bP c v u): ∃cs,u=.agg cs/\fB c.w c.free y x cs.toList:=by
 cases v with
 |val t' z=>
  grind [bK.as,mf,bP,VD.agg]
 |nils=>cases y<;>simp_all [bK.as,Ty.isAgg]
 |emp=>cases y<;>simp_all [bK.as,Ty.isAgg]
 |lst t' z b=>
  simp only[bK.as]at h;obtain⟨e,_⟩:=mf h;subst e;cases d
 |slc id ver j=>cases y<;>simp_all [bK.as,Ty.isAgg]
 |agg l=>
  simp only[bK.as,d,aa]at h;simp only[bP]at f;obtain⟨g,rfl,i,_⟩:=f;exact⟨g,rfl,oL h i⟩
 |_=>simp[bK.as]at h
theorem aHE (hT:TOk P T) {f:BinOp} {ox oy:Operand} {x y:bK} {D E:Value} {K:bK->Option R} (h:acn T f t x y K=a6 r) (hx:bP c x D) (i:bP c y E):
  ∃z u,K z=a6 r/\bP c z u/\ ∀w,(do eqGuard f t ox oy D E;binOp f t D E:Sem Value).run P w=.ok u w:=by
 unfold acn at h;split at h
 .
  rename_i k a U b
  simp only[bP]at hx i;obtain rfl:=hx.int_inv;obtain rfl:=i.int_inv;split at h
  .rename_i hk
   subst hk;have l: ∀w,(eqGuard f t ox oy (.int k a) (.int k b)).run P w=.ok () w:=fun w=>mr f t ox oy _ _ w rfl (by simp);cases f<;>simp only[reduceCtorEq]at h
   case quo=>
    replace h:=gu h;obtain⟨g,h⟩:=h;have g:b≠0:=by simpa [bT] using g
    exact⟨_,_,h,by simp only[bP];exact VD.int_mk,fun w=>by simp_all [binOp,Op.intDiv,Ro]⟩
   case rem=>
    replace h:=gu h;obtain⟨g,h⟩:=h;have g:b≠0:=by simpa [bT] using g
    exact⟨_,_,h,by simp only[bP];exact VD.int_mk,fun w=>by simp_all [binOp,Op.intDiv]⟩
   case add=>exact⟨_,_,h,by simp only[zq,bP];exact VD.int_mk,fun w=>by simp_all [binOp,Op.intArith,bZ]⟩
   case sub=>exact⟨_,_,h,by simp only[zq,bP];exact VD.int_mk,fun w=>by simp_all [binOp,Op.intArith,eF]⟩
   case mul=>exact⟨_,_,h,by simp only[zq,bP];exact VD.int_mk,fun w=>by simp_all [binOp,Op.intArith,am6]⟩
   case eql=>exact⟨_,_,h,by simp only[zq,bP];exact VD.bool_mk,fun w=>by simp_all [binOp,Op.intCmp,bT]⟩
   case neq=>exact⟨_,_,h,by simp only[zq,bP];exact VD.bool_mk,fun w=>by simp_all [binOp,Op.intCmp,bT,bne]⟩
   case lss=>exact⟨_,_,h,by simp only[zq,bP];exact VD.bool_mk,fun w=>by simp_all [binOp,Op.intCmp,iq]⟩
   case leq=>exact⟨_,_,h,by simp only[zq,bP];exact VD.bool_mk,fun w=>by simp_all [binOp,Op.intCmp,leI]⟩
   case gtr=>exact⟨_,_,h,by simp only[zq,bP];exact VD.bool_mk,fun w=>by simp_all [binOp,Op.intCmp,iq]⟩
   case geq=>exact⟨_,_,h,by simp only[zq,bP];exact VD.bool_mk,fun w=>by simp_all [binOp,Op.intCmp,leI]⟩
   case and=>exact⟨_,_,h,by simp only[bP];exact VD.int_mk,fun w=>by simp_all [binOp,Op.intBits,aoR]⟩
   case or=>exact⟨_,_,h,by simp only[bP];exact VD.int_mk,fun w=>by simp_all [binOp,Op.intBits,aoR]⟩
   case xor=>exact⟨_,_,h,by simp only[bP];exact VD.int_mk,fun w=>by simp_all [binOp,Op.intBits,aoR]⟩
   case andNot=>exact⟨_,_,h,by simp only[bP];exact VD.int_mk,fun w=>by simp_all [binOp,Op.intBits,aoR]⟩
   case shl=>
    obtain⟨g,h⟩:=gu h;have g: ¬b<0:=by simpa [leI] using g
    exact⟨_,_,h,by simp only[bP];exact VD.int_mk,fun w=>by simp[Sem.run_bind,l,binOp,Op.shift,g,ayN]⟩
   case shr=>
    obtain⟨g,h⟩:=gu h;have g: ¬b<0:=by simpa [leI] using g
    exact⟨_,_,h,by simp only[bP];exact VD.int_mk,fun w=>by simp[Sem.run_bind,l,binOp,Op.shift,g,ayO]⟩
  .have l: ∀w,(eqGuard f t ox oy (.int k a) (.int U b)).run P w=.ok () w:=fun w=>mr f t ox oy _ _ w rfl (by simp);split at h
   .obtain⟨g,h⟩:=gu h;have g: ¬b<0:=by simpa [leI] using g
    exact⟨_,_,h,by simp only[bP];exact VD.int_mk,fun w=>by simp[Sem.run_bind,l,binOp,Op.shift,g,ayN]⟩
   .obtain⟨g,h⟩:=gu h;have g: ¬b<0:=by simpa [leI] using g
    exact⟨_,_,h,by simp only[bP];exact VD.int_mk,fun w=>by simp[Sem.run_bind,l,binOp,Op.shift,g,ayO]⟩
   .cases h
 .
  rename_i a b
  simp only[bP]at hx i;obtain rfl:=hx.bool_inv;obtain rfl:=i.bool_inv;replace h:=dB h;obtain⟨hk,h⟩:=h;have l: ∀w,(eqGuard f t ox oy (.bool a) (.bool b)).run P w=.ok () w:=fun w=>mr f t ox oy _ _ w rfl (by simp);have v:(T.at t).k=.bool->P.underlying t=a6 .bool:=fun e=>by
   obtain⟨d,o,p⟩:=hT.und hk;rw[e]at p;cases d<;>simp[kL]at p;exact o
  split at h
  .rename_i e
   have o:=v e;exact⟨_,_,h,by simp only[bP];exact VD.bool_mk,fun w=>by simp_all [binOp,Op.equal,Op.maxDepth,run_equalIn_bool]⟩
  .rename_i e
   have o:=v e;exact⟨_,_,h,by simp only[bP];exact VD.bool_mk,fun w=>by simp_all [binOp,Op.equal,Op.maxDepth,run_equalIn_bool]⟩
  .cases h
 .
  rename_i a b
  simp only[bP]at hx i;obtain rfl:=hx.str_inv;obtain rfl:=i.str_inv;have l: ∀w,(eqGuard f t ox oy (.string ⟨a.toArray⟩) (.string ⟨b.toArray⟩)).run P w=.ok () w:=fun w=>mr f t ox oy _ _ w rfl (by simp);have A:binOp f t (.string ⟨a.toArray⟩) (.string ⟨b.toArray⟩)=Op.stringOp f ⟨a.toArray⟩ ⟨b.toArray⟩:=by cases f<;>rfl
  have Y:(f=.eql\/f=.neq\/f=.lss\/f=.leq\/f=.gtr\/f=.geq)->K (XK f a b)=a6 r->
    ∃z u,K z=a6 r/\bP c z u/\ ∀w,(do eqGuard f t ox oy (.string ⟨a.toArray⟩) (.string ⟨b.toArray⟩);binOp f t (.string ⟨a.toArray⟩) (.string ⟨b.toArray⟩):Sem Value).run P w=.ok u w:=fun V Z=>by
   obtain⟨u,g,N⟩:=abz (P:=P) (c:=c) default f a b V
   grind [Sem.run_bind,Result.andThen_ok]
  cases f<;>simp only[reduceCtorEq]at h
  case add=>
   replace h:=gu h;obtain⟨g,h⟩:=h;refine⟨_,_,h,by simp only[bP];exact VD.str_mk,fun w=> ?_⟩;have g:a.length+b.length<=jO:=by simpa using g
   have N: ¬((a.length:Int)+(b.length:Int)>IntKind.i64.max):=by
    grind [IntKind.max,IntKind.bits,jO]
   have o:(⟨a.toArray⟩:ByteArray)++⟨b.toArray⟩=⟨(a++b).toArray⟩:=by
    rfl
   simp_all [ByteArray.size,Op.stringOp]
  all_goals simp_all
 .
  rename_i e xs b
  simp only[bP]at hx i;obtain⟨ab,s,n,m,rfl,rfl⟩:=hx;subst i;replace h:=dB h;obtain⟨hk,h⟩:=h;have l: ∀w,(eqGuard f t ox oy (.slice s n m) (.slice a7 0 0)).run P w=.ok () w:=fun w=>mr f t ox oy _ _ w rfl (by simp);have v: ∀j,(T.at t).k=.slice j->P.underlying t=a6 (.slice j):=fun j e=>by
   obtain⟨d,o,p⟩:=hT.und hk;rw[e]at p;cases d<;>simp[kL]at p;rw[o,p]
  have q: ∀j,(T.at t).k=.slice j-> ∀w,(Op.equal t (.slice s n m) (.slice a7 0 0)).run P w=.ok s.isNone w:=fun j e w=>by
   have o:=v j e;show(Op.equalIn (9999+1) t (.slice s n m) (.slice a7 0 0)).run P w=_;unfold Op.equalIn;rw[Sem.run_bind,run_underlying o,Result.andThen_ok];cases s<;>rfl
  split at h
  .rename_i j e
   exact⟨_,_,h,by simp only[bP];exact VD.bool_mk,fun w=>by simp_all [binOp]⟩
  .rename_i j e
   exact⟨_,_,h,by simp only[bP];exact VD.bool_mk,fun w=>by simp_all [binOp]⟩
  .cases h
 .
  rename_i h0 g N O
  cases q:T.eqOk 6 t
  .simp_all
  rw[q]at h;simp only[ay,ac]at h;split at h
  .rename_i fs G S I
   have W:(T.at t).isAgg=true:=by simp[TI.isAgg,S]
   have hk:(T.at t).known=true:=by simp_all [TT.eqOk]
   have B:G.isAgg=true:=by rw[hT.ty_agg hk I,W]
   have ad:P.eqGuardType P.depth t=false:=by
    simp only[TT.eqOk,af,S]at q;exact((hT t hk).2.2.2.2.2.1 q.2.1).1
   split at h
   .rename_i a b J A
    obtain⟨cs,rfl,L⟩:=EZ J B hx;obtain⟨X,rfl,M⟩:=EZ A B i;refine⟨_,_,h,by simp only[bP];exact VD.bool_mk,fun w=> ?_⟩;have O:=BK (P:=P) hT 6 t q G I a b _ _ L M w 10000 (by omega);simp_all [valOf,run_eqGuard_agg,run_eql_struct]
   .rename_i a b J A
    obtain⟨cs,rfl,L⟩:=EZ J B hx;obtain⟨X,rfl,M⟩:=EZ A B i;refine⟨_,_,h,by simp only[bP];exact VD.bool_mk,fun w=> ?_⟩;have O:=BK (P:=P) hT 6 t q G I a b _ _ L M w 10000 (by omega);simp_all [valOf,run_eqGuard_agg,run_neq_struct]
   .cases h
  .cases h
theorem atq {W0:World} (hT:TOk P T) (G:c.Ok W0) {i:BinOp} {ox oy:Operand} {x y:bK} {o q:Value} {K:bK->Option R} (h:Rx T c.hp i t x y K=a6 r) (hx:bP c x o) (l:bP c y q):
  ∃z u,K z=a6 r/\bP c z u/\ ∀w,(do eqGuard i t ox oy o q;binOp i t o q:Sem Value).run P w=.ok u w:=by
 unfold Rx at h;rw[cond_eq_ite]at h;split at h
 .rename_i f
  unfold auk at f;split at f
  .split at f
   .split at f
    .rename_i id W I J L e v X D
     simp only[af,beq_iff_eq,O1,decide_eq_true_eq]at f;obtain⟨rfl,Y⟩:=f;simp only[bP]at hx l;subst l;have M:=(hx.2.2 _ _ _ D).2 rfl;obtain⟨_,Z,zs,N,_,_⟩:=G.obj id _ D;obtain⟨s,n,m,rfl⟩: ∃a n m,o=.slice (a6 a) n m:=by
      rcases N.2 with ⟨_,h0⟩|⟨g,ab,ad,E,_⟩
      .omega
      .cases I with
       |none=>simp_all [ja]
       |some O=>
        obtain⟨lo,hi⟩:=O;simp only[ja]at M
        grind
     obtain⟨hk,h⟩:=dB h;have S: ∀w,(eqGuard i t ox oy (.slice (a6 s) n m) (.slice a7 0 0)).run P w=.ok () w:=fun w=>mr i t ox oy _ _ w rfl (by simp);have U: ∀j,(T.at t).k=.slice j-> ∀w,(Op.equal t (.slice (a6 s) n m) (.slice a7 0 0)).run P w=.ok false w:=fun j e w=>by
      have p:P.underlying t=a6 (.slice j):=by
       obtain⟨d,p,A⟩:=hT.und hk;rw[e]at A;cases d<;>simp[kL]at A;rw[p,A]
      show(Op.equalIn (9999+1) t (.slice (a6 s) n m) (.slice a7 0 0)).run P w=_;unfold Op.equalIn;rw[Sem.run_bind,run_underlying p,Result.andThen_ok];rfl
     split at h
     .exact⟨_,_,h,by simp only[bP];exact VD.bool_mk,fun w=>by simp_all [binOp]⟩
     .exact⟨_,_,h,by simp only[bP];exact VD.bool_mk,fun w=>by simp_all [binOp]⟩
     .cases h
    .cases f
   .cases f
  .cases f
 .rw[cond_eq_ite]at h;split at h
  .rename_i f
   unfold ato at f;split at f
   .split at f
    .split at f
     .rename_i id B y0 J L bt cs V
      simp only[bP]at hx l;subst l;have E:=hx.2.2 _ _ V;subst E;obtain⟨hk,h⟩:=dB h;have S: ∀w,(eqGuard i t ox oy (.pointer (a6 ⟨(c.mu id).blk,B,a7⟩)) (.pointer a7)).run P w=.ok () w:=fun w=>mr i t ox oy _ _ w rfl (by simp);have U: ∀j,(T.at t).k=.ptr j-> ∀w,(Op.equal t (.pointer (a6 ⟨(c.mu id).blk,B,a7⟩)) (.pointer a7)).run P w=.ok false w:=fun j e w=>by
       have p:=hT.ptr hk e;show(Op.equalIn (9999+1) t (.pointer (a6 ⟨(c.mu id).blk,B,a7⟩)) (.pointer a7)).run P w=_;unfold Op.equalIn;simp_all [run_underlying]
      split at h
      .exact⟨_,_,h,by simp only[bP];exact VD.bool_mk,fun w=>by simp_all [binOp]⟩
      .exact⟨_,_,h,by simp only[bP];exact VD.bool_mk,fun w=>by simp_all [binOp]⟩
      .cases h
     .cases f
    .cases f
   .cases f
  .exact aHE hT h hx l
theorem aHF {d:UnOp} {x:bK} {v:Value} {K:bK->Option R} (h:aqv d x K=a6 r) (hx:bP c x v):
  ∃z u,K z=a6 r/\bP c z u/\ ∀w,(Op.unary d v).run P w=.ok u w:=by
 unfold aqv at h;split at h
 .simp only[bP]at hx;obtain rfl:=hx.bool_inv;exact⟨_,_,h,by simp only[bP];exact VD.bool_mk,fun w=>rfl⟩
 .simp only[bP]at hx;obtain rfl:=hx.int_inv;exact⟨_,_,h,by simp only[bP];exact VD.int_mk,fun w=>by rfl⟩
 .cases h
end
end
section
open Option renaming some → a6, none → a7
open Bool renaming and_eq_true → af, false_eq_true → ah
open Nat renaming le_refl → ae
open Go.RowKit
section
variable {P:Program} {T:TT} {W0:World} {c:Cx} {R:Type} {r:R} {t:TypeId}
theorem rU {v:bK} {n:Int} (h:intOf v=a6 n) {u:Value} (d:bP c v u): ∃k,u=.int k n:=by
 cases v with
 |val t x=>
  cases t<;>simp only[intOf,reduceCtorEq]at h;cases h;simp only[bP]at d;exact⟨_,d.int_inv⟩
 |_=>simp[intOf]at h
def lQ (c:Cx):Option bK->Option Value->Prop
 |none,a7=>True
 |some v,a6 u=>bP c v u
 |_,_=>False
theorem lQ.map {fr:List bK} {a:Act} (h:bH c fr a.tmps.toList) (x:Option Operand):lQ c (x.map (gV fr)) (x.map a.eval):=by
 cases x with
 |none=>trivial
 |some x=>exact dN h x
theorem lQ.none_inv {u:Option Value} (h:lQ c a7 u):u=a7:=by
 cases u with
 |none=>rfl
 |some _=>exact h.elim
theorem oC {d l:Int} {x:Option bK} {u:Option Value} (h:bound d x=a6 l) (e:lQ c x u):(u=a7/\l=d)\/ ∃k,u=a6 (.int k l):=by
 cases x with
 |none=>
  cases u with
  |none=>simp only[bound,Option.some.injEq]at h;simp_all
  |some _=>exact e.elim
 |some x=>
  cases u with
  |none=>exact e.elim
  |some u=>
   obtain⟨k,rfl⟩:=rU h e;simp
theorem qj {w:World} {isS:Bool} {n cap:Nat} {l h:Int} {lo hi:Option Value} (hl:(lo=a7/\l=0)\/ ∃k,lo=a6 (.int k l)) (d:(hi=a7/\h=(n:Int))\/ ∃k,hi=a6 (.int k h))
  (g:0<=l) (i:l<=h) (h2:h<=(n:Int)) (j:n<=cap):(Instr.sliceBounds isS n cap lo hi a7).run P w=.ok (l.toNat,h.toNat,cap) w:=by
 have e: ∀k code,(Instr.sliceBound (.int k h) cap code).run P w=.ok h.toNat w:=fun k code=>by
  simp only[Instr.sliceBound,asIntOf,Sem.run_bind,Sem.run_pure,Result.andThen_ok];rw[am ⟨by omega,by omega⟩];rfl
 have f: ∀k code,(Instr.sliceBound (.int k l) h.toNat code).run P w=.ok l.toNat w:=fun k code=>by
  simp only[Instr.sliceBound,asIntOf,Sem.run_bind,Sem.run_pure,Result.andThen_ok];rw[am ⟨by omega,by omega⟩];rfl
 rcases hl with ⟨rfl,rfl⟩|⟨k,rfl⟩<;>rcases d with ⟨rfl,rfl⟩|⟨m,rfl⟩<;>simp[Instr.sliceBounds,Sem.run_bind,e,f]
 simp_all
theorem Nh {w:World} {n cap:Nat} {lo:Option Value} {q k:IntKind} (hl:(lo=a7/\(0:Int)=0)\/ ∃k,lo=a6 (.int k 0)):
  (Instr.sliceBounds true n cap lo (a6 (.int q 0)) (a6 (.int k 0))).run P w=.ok (0,0,0) w:=by
 have d: ∀k c code,(Instr.sliceBound (.int k 0) c code).run P w=.ok 0 w:=fun k c code=>by
  rfl
 rcases hl with ⟨rfl,_⟩|⟨e,rfl⟩<;>simp[Instr.sliceBounds,Sem.run_bind,d]
theorem IK {n lo hi:Int} (h:eU n lo hi=true):0<=lo/\lo<=hi/\hi<=n:=by
 simp_all [eU]
theorem IZ {d:Type} (l:List d) {lo hi:Int} (e:0<=lo) (h2:lo<=hi) (f:hi<=(l.length:Int)):(sub l lo hi).length=hi.toNat-lo.toNat:=by
 grind [sub]
theorem nY {e:Ty} {xs:List e.den} {v:Value} (h:VD c (.list e) xs v): ∃a n d,v=.slice a xs.length n/\xs.length<=n/\gp (fB c.w c.free e) e.size xs d/\(d=[]\/ ∃b off,a=a6 ⟨b,off,a7⟩/\c.free b/\gX c.w b off d):=by
 obtain⟨a,n,d,f,g,i,j⟩:=h.2 rfl
 grind
theorem VD.sub_list {e:Ty} {xs:List e.den} {a:Option Addr} {n:Nat} {d:List Value} (h2:xs.length<=n) (g:gp (fB c.w c.free e) e.size xs d) (f:d=[]\/ ∃b off,a=a6 ⟨b,off,a7⟩/\c.free b/\gX c.w b off d)
  {l h:Int} (i:0<=l) (j:l<=h) (m:h<=(xs.length:Int)):
  VD c (.list e) (sub xs l h) (.slice (if n=l.toNat then a else a.map (·.add (l.toNat*e.size))) (h.toNat-l.toNat) (n-l.toNat)):=by
 refine(VD.leaf rfl).2 ⟨_,_,(d.take (h.toNat*e.size)).drop (l.toNat*e.size),by rw[IZ xs i j m],by grind [IZ],gp.drop _ _ _ (gp.take _ _ _ g), ?_⟩;by_cases hn:n=l.toNat
 .grind
 .rw[aq hn];rcases f with f|⟨b,off,o,p,q⟩
  .left;rw[f];simp
  .right;refine⟨b,off+l.toNat*e.size,by rw[o];simp[jX],p, ?_⟩;have:=q.sub (l.toNat*e.size) (h.toNat*e.size-l.toNat*e.size)
   grind [List.drop_take]
theorem ajZ (hT:TOk P T) (ab:c.Ok W0) {x:bK} {v:Value} {lo hi Y:Option bK} {Z O A:Option Value} {K:bK->Option R} (h:Jv T c.hp t x lo hi Y K=a6 r) (hx:bP c x v)
  (J:lQ c lo Z) (G:lQ c hi O) (I:lQ c Y A): ∃z u,K z=a6 r/\bP c z u/\ ∀w,(Instr.sliceAt t v Z O A).run P w=.ok u w:=by
 unfold Jv at h;split at h
 .rename_i s
  split at h
  .rename_i l p f i
   replace h:=gu h;obtain⟨d,h⟩:=h;simp only[af]at d;obtain⟨B,D,j⟩:=IK d.2;simp only[bP]at hx;obtain rfl:=hx.str_inv;have E:A=a7:=lQ.none_inv I;subst E;have m:=Fv hT d.1;refine⟨_,.string ⟨(sub s l p).toArray⟩,h,by simp only[bP];exact VD.str_mk,fun w=> ?_⟩;have hs:(⟨s.toArray⟩:ByteArray).size=s.length:=by rfl
   have o:=qj (P:=P) (w:=w) (isS:=false) (cap:=s.length) (oC f J) (oC i G) B D j (ae _);have he:(⟨s.toArray⟩:ByteArray).extract l.toNat p.toNat=⟨(sub s l p).toArray⟩:=by
    apply ByteArray.ext;simp_all [sub,List.drop_take]
   simp only[Instr.sliceAt,Instr.slice,Sem.run_bind,run_underlying m,Result.andThen_ok,Option.isSome_none,ah,if_false,hs,o,Sem.run_pure,he]
  .cases h
 .rename_i e y
  split at h
  .rename_i l p f i
   replace h:=gu h;obtain⟨d,h⟩:=h;simp only[af]at d;obtain⟨B,D,j⟩:=IK d.2;simp only[bG]at j;simp only[bP]at hx;obtain⟨a,n,zs,rfl,S,h3,h4⟩:=nY hx;have E:A=a7:=lQ.none_inv I;subst E;obtain⟨U,m,hk,M,_,_⟩:=lT hT d.1;refine⟨_,_,h,by simp only[bP];exact VD.sub_list S h3 h4 B D j,fun w=> ?_⟩;have o:=qj (P:=P) (w:=w) (isS:=true) (n:=y.length) (cap:=n) (oC f J) (oC i G) B D j S;simp only[Instr.sliceAt,Instr.slice,Sem.run_bind,run_underlying m,Result.andThen_ok,o,hT.sizeOf hk w,Sem.run_pure,M]
  .cases h
 .rename_i e y mv
  split at h
  .rename_i l p k f i ad
   replace h:=gu h;obtain⟨d,h⟩:=h;simp only[af,beq_iff_eq]at d;obtain⟨d,rfl,rfl,rfl⟩:=d;simp only[bP]at hx;obtain⟨a,n,zs,rfl,S,h3,h4⟩:=nY hx;obtain⟨U,m,hk,M,_,_⟩:=lT hT d;obtain⟨N,rfl,ag⟩:=Option.bind_eq_some_iff.1 i;cases hmx':A with
   |none=>simp_all [lQ]
   |some m2=>
    rw[hmx']at I;cases hhi':O with
    |none=>simp_all [lQ]
    |some ai=>
     rw[hhi']at G;obtain⟨q,rfl⟩:=rU ag (show bP c N ai from G);obtain⟨k',rfl⟩:=rU ad (show bP c mv m2 from I);refine⟨_,.slice a 0 0,h,by simp only[bP];exact⟨a,rfl⟩,fun w=> ?_⟩;have o:=Nh (P:=P) (w:=w) (n:=y.length) (cap:=n) (q:=q) (k:=k') (oC f J);simp only[Instr.sliceAt,Instr.slice,Sem.run_bind,run_underlying m,Result.andThen_ok,o,hT.sizeOf hk w,Sem.run_pure];simp
  .cases h
 .split at h
  .rename_i l p f i
   replace h:=gu h;obtain⟨d,h⟩:=h;simp only[af,bT,beq_iff_eq]at d;obtain⟨d,rfl,rfl⟩:=d;simp only[bP]at hx;subst hx;have E:A=a7:=lQ.none_inv I;subst E;obtain⟨U,m,hk,M,_,_⟩:=lT hT d;refine⟨_,.slice a7 0 0,h,by simp only[bP],fun w=> ?_⟩;have o:=qj (P:=P) (w:=w) (isS:=true) (n:=0) (cap:=0) (oC f J) (oC i G) (Int.le_refl _) (Int.le_refl _) (Int.le_refl _) (ae _);simp only[Instr.sliceAt,Instr.slice,Sem.run_bind,run_underlying m,Result.andThen_ok,o,hT.sizeOf hk w,Sem.run_pure];simp
  .cases h
 .rename_i id aj
  split at h
  .rename_i e u y V
   replace h:=dB h;obtain⟨W,h⟩:=h;have W:u=aj:=by simpa using W
   subst W;split at h
   .rename_i l p f i
    replace h:=gu h;obtain⟨d,h⟩:=h;simp only[af]at d;obtain⟨B,D,j⟩:=IK d.2;simp only[bG]at j;simp only[bP]at hx;have X:=(hx.2.2 _ _ _ V).2 rfl;simp only[ja]at X;have E:A=a7:=lQ.none_inv I;subst E;obtain⟨U,m,hk,M,_,_⟩:=lT hT d.1;obtain⟨_,e',zs,ak,hL,al⟩:=ab.obj id _ V;obtain⟨a,n,N,hn⟩: ∃a n,(c.mu id).v=.slice a y.length n/\y.length<=n:=by
     rcases ak.2 with ⟨e1,e2⟩|⟨g,L,an,e1,_,_,e2,_⟩
     all_goals grind
    rw[N]at X;subst X;refine⟨_,.slice (if n=l.toNat then a else a.map (·.add (l.toNat*e.size))) (p.toNat-l.toNat) (n-l.toNat),h, ?_,fun w=> ?_⟩
    .simp only[bP];refine⟨rfl,hx.2.1,fun t' u' ao h'=> ?_⟩;rw[V]at h';cases h';exact⟨ae _,fun _=>⟨a,y.length,n,N,B,D,j,rfl⟩⟩
    .have o:=qj (P:=P) (w:=w) (isS:=true) (n:=y.length) (cap:=n) (oC f J) (oC i G) B D j hn;simp only[Instr.sliceAt,Instr.slice,Sem.run_bind,run_underlying m,Result.andThen_ok,o,hT.sizeOf hk w,Sem.run_pure,M]
   .cases h
  .cases h
 .cases h
end
end
section
open Option renaming some → a6, none → a7
open Bool renaming and_eq_true → af
open List renaming append_assoc → ag, map_cons → ak, nil_append → aA, length_cons → aH, drop_of_length_le → aK, mem_of_mem_take → bn
open Go.RowKit
section
variable {P:Program} {T:TT} {W0:World} {c:Cx} {R:Type} {r:R} {t:TypeId}
theorem Si {d:Type} {l:List d} {i:Int} (h:gm l i=true):0<=i/\i<(l.length:Int)/\i.toNat<l.length:=by
 simp_all [gm]
theorem awz {e:Type} {l:List e} {d:e} {i:Int} (h:i.toNat<l.length):eX l d i=l[i.toNat]:=by grind [eX]
theorem CV (hT:TOk P T) {e:TypeId} (d:P.underlying t=a6 (.slice e)) (hk:(T.at e).known=true) (w:World) (a:Addr) (n cp:Nat) (k:IntKind) (i:Int) (f:0<=i) (g:i<(n:Int)):
  (Instr.indexAt t (.slice (a6 a) n cp) (.int k i)).run P w=.ok (.pointer (a6 (a.add (i.toNat*(T.at e).size)))) w:=by
 simp only[Instr.indexAt,asIntOf,Sem.run_bind,Sem.run_pure,Result.andThen_ok,run_underlying d];rw[am ⟨f,g⟩];simp[Sem.run_bind,hT.sizeOf hk w]
theorem OA (hT:TOk P T) (S:c.Ok W0) {x i:bK} {v G:Value} {K:bK->Option R} (h:uy T c.hp t x i K=a6 r) (hx:bP c x v) (hi:bP c i G):
  ∃z u,K z=a6 r/\bP c z u/\ ∀w,(Instr.indexAt t v G).run P w=.ok u w:=by
 unfold uy at h;split at h
 .cases h
 rename_i n U
 obtain⟨k,rfl⟩:=rU U hi;split at h
 .rename_i e I
  replace h:=gu h;obtain⟨f,h⟩:=h;simp only[af]at f;obtain⟨q,s,y⟩:=Si f.2;simp only[bP]at hx;obtain⟨a,cp,A,rfl,h2,V,B⟩:=nY hx;obtain⟨J,l,hk,o,L,_⟩:=lT hT f.1;obtain⟨d,d1,W,l1,l2,d3,d4⟩:=gp.at_ n.toNat I A y V;have X:A≠[]:=by
   intro e0;simp_all
  rcases B with B|⟨b,Y,Z,h6,h7⟩
  .exact absurd B X
  .refine⟨_,.pointer (a6 ⟨b,Y+n.toNat*e.size,a7⟩),h, ?_,fun w=> ?_⟩
   .simp only[bP];refine⟨b,_,d,rfl,h6, ?_,by rw[awz y];exact W⟩;simp_all [gX.append]
   .rw[Z,CV hT l hk w _ _ _ _ _ q s,o,jX]
 .rename_i id ab vw
  split at h
  .rename_i e u I M
   replace h:=dB h;obtain⟨D,h⟩:=h;have D:u=ab:=by simpa using D
   subst D;simp only[bP]at hx;have j:=(hx.2.2 _ _ _ M).2 rfl;obtain⟨_,e',A,N,hL,ai⟩:=S.obj id _ M;split at h
   .replace h:=gu h;obtain⟨f,h⟩:=h;simp only[af]at f;obtain⟨q,s,y⟩:=Si f.2;obtain⟨J,l,hk,o,L,_⟩:=lT hT f.1;simp only[ja]at j;rcases N.2 with ⟨p,E⟩|⟨g,ad,ae,p,_,_,E,_⟩
    .omega
    .rw[p]at j;subst j;refine⟨_,.pointer (a6 ⟨g,n.toNat*e.size,a7⟩),h, ?_,fun w=> ?_⟩
     .simp only[bP];refine⟨rfl,hx.2.1,fun t' u' ah h'=> ?_⟩;simp_all
     .rw[CV hT l hk w _ _ _ _ _ q s,o,jX,Nat.zero_add]
   .rename_i lo aj
    replace h:=gu h;obtain⟨f,h⟩:=h;simp only[af,decide_eq_true_eq,iq]at f;obtain⟨J,l,hk,o,L,_⟩:=lT hT f.1;simp only[ja]at j;obtain⟨a,m,cp,O,q1,q2,q3,j⟩:=j;rcases N.2 with ⟨p,E⟩|⟨g,ad,ae,p,_,_,E,_⟩
    .grind
    .rw[p]at O;cases O;rw[aq (by omega)]at j;subst j;refine⟨_,.pointer (a6 ⟨g,(lo+n).toNat*e.size,a7⟩),h, ?_,fun w=> ?_⟩
     .simp only[bP];refine⟨rfl,hx.2.1,fun t' u' ah h'=> ?_⟩;simp_all
     .simp only[Option.map_some];rw[CV hT l hk w _ _ _ _ _ f.2.1 (by omega),o,jX,jX,Nat.zero_add,<-Nat.add_mul]
      grind
  .cases h
 .cases h
theorem ajY (hT:TOk P T) {i:bK} {s:List UInt8} {n:Int} {v d:Value} (hx:bP c (.val .str s) v) (hi:bP c i d) (e:intOf i=a6 n) (h:(T.isStr t&&gm s n)=true):
  bP c (.val (.int .u8) (bY s n)) (.int .u8 (bY s n))/\ ∀w,(Instr.index t v d).run P w=.ok (.int .u8 (bY s n)) w:=by
 simp only[af]at h;obtain⟨f,l,m⟩:=Si h.2;simp only[bP]at hx;obtain rfl:=hx.str_inv;obtain⟨k,rfl⟩:=rU e hi;have g:=Fv hT h.1;refine⟨by simp only[bP];exact VD.int_mk,fun w=> ?_⟩;have j:(⟨s.toArray⟩:ByteArray)[n.toNat]? =a6 s[n.toNat]:=by
  have:n.toNat<(⟨s.toArray⟩:ByteArray).size:=by assumption
  rw[getElem?_pos (⟨s.toArray⟩:ByteArray) n.toNat this];rfl
 simp only[Instr.index,asIntOf,Sem.run_bind,Sem.run_pure,Result.andThen_ok,run_underlying g,am f,j]
 grind [bY]
theorem BL (hT:TOk P T) {f off:Nat} {d:TypeId} (h:T.fieldAt t f=a6 (off,d)): ∃e g i,(T.at t).k=.struct e/\e[f]? =a6 (off,d)/\(T.at t).known=true/\(T.at d).known=true/\0<(T.at d).size/\
  P.underlying t=a6 (.struct g)/\g[f]? =a6 i/\i.offset=off/\i.type=d:=by
 unfold TT.fieldAt at h;split at h
 .rename_i e j
  replace h:=dB h;obtain⟨hk,h⟩:=h;split at h
  .rename_i o p q
   replace h:=dB h;obtain⟨l,m⟩:=h;cases m;simp only[af,O1,decide_eq_true_eq]at l;obtain⟨g,s,u⟩:=hT.struct hk j
   grind
  .cases h
 .cases h
theorem L8 (hT:TOk P T): ∀(j:List (Nat×TypeId)) (o:Nat) (y:Ty),jF T o j=a6 y-> ∀(f off:Nat) (e:TypeId),j[f]? =a6 (off,e)-> ∀(x:y.den) (cs:List Value),fB c.w c.free y x cs->
  ∃(a:Ty) (z:a.den) (g i p:List Value),Yc y x f=.val a z/\Rz y x f=.cellp a z/\(T.at e).ty=a6 a/\a.size=(T.at e).size/\cs=g++i++p/\o+g.length=off/\fB c.w c.free a z i
 |[],_,_,_,f,_,_,h,_,_,_=>by simp at h
 |(O,S)::j,o,y,d,f,off,e,l,x,cs,hd=>by
  simp only[jF]at d;split at d
  .rename_i U
   split at d
   .rename_i a q
    split at d
    .rename_i s
     split at d
     .rename_i b u
      cases d;obtain⟨g,i,m,v,A⟩:=hd;cases f with
      |zero=>
       simp only[List.getElem?_cons_zero,Option.some.injEq,Prod.mk.injEq]at l;obtain⟨rfl,rfl⟩:=l;exact⟨a,x.1,[],g,i,rfl,rfl,q,s.1,by simpa using m,by simp;omega,v⟩
      |succ f=>
       simp only[List.getElem?_cons_succ]at l;obtain⟨B,z,D,E,G,I,J,K,L,M,V,N⟩:=L8 hT j (o+a.size) b u f off e l x.2 i A;refine⟨B,z,g++D,E,G,I,J,K,L,by rw[m,M];simp, ?_,N⟩
       grind [fB.length]
     .cases d
    .cases d
   .cases d
  .cases d
theorem CU (hT:TOk P T) {f off:Nat} {e:TypeId} (h:T.fieldAt t f=a6 (off,e)) (w:World) (b o:Nat):
  (Instr.fieldAt t (.pointer (a6 ⟨b,o,a7⟩)) f).run P w=.ok (.pointer (a6 ⟨b,o+off,a7⟩)) w:=by
 obtain⟨q,s,g,u,v,hk,i,x,j,l,m,d⟩:=BL hT h;have p:=hT.sizeOf (t:=g.type) (by rw[d];exact i) w;simp only[Instr.fieldAt,Sem.run_bind,run_underlying j,Result.andThen_ok,l,Instr.sureAddr,Sem.run_pure,fieldPlace,p,Sem.run_ite];rw[aq (by rw[d];omega)];simp[jX,m]
theorem Xw (hT:TOk P T) (hk:(T.at t).known=true) {e:List (Nat×TypeId)} (f:(T.at t).k=.struct e) {y:Ty} (g:(T.at t).ty=a6 y):jF T 0 e=a6 y:=by
 rcases(hT t hk).2.2.1 with d|d
 .simp_all
 .rw[g,f]at d;exact d.symm
theorem Oz (hT:TOk P T) {x:bK} {f:Nat} {v:Value} {K:bK->Option R} (h:uw T c.hp t x f K=a6 r) (hx:bP c x v):
  ∃z u,K z=a6 r/\bP c z u/\ ∀w,(Instr.fieldAt t v f).run P w=.ok u w:=by
 unfold uw at h;split at h
 .rename_i d s j
  obtain⟨A,N,O,B,D,hk,S,U,V,W,X,Y⟩:=BL hT j;split at h
  .rename_i u y
   split at h
   .rename_i E G
    split at h
    .rename_i z l
     have e:=iI l;subst e;rw[gB]at l;cases l;simp only[bP]at hx;obtain⟨b,o,Z,rfl,hb,p,hd⟩:=hx;obtain⟨a,z,l1,l2,l3,g1,g2,g3,g4,g5,g6,g7⟩:=L8 hT A 0 u (Xw hT hk B G) f d s D _ _ hd;refine⟨_,.pointer (a6 ⟨b,o+d,a7⟩),h, ?_,fun w=>CU hT j w b o⟩;rw[g2];simp only[bP];rw[g5,ag]at p;have:=(gX.append.1 (gX.append.1 p).2).1
     grind
    .cases h
   .cases h
  .rename_i id o
   split at h
   .rename_i bt cs I
    simp only[bP]at hx;have q:=hx.2.2 _ _ I;subst q;refine⟨_,.pointer (a6 ⟨(c.mu id).blk,o+d,a7⟩),h, ?_,fun w=>CU hT j w _ o⟩;simp only[bP];exact⟨rfl,hx.2.1,fun _ _ _=>trivial⟩
   .cases h
  .rename_i id J i o
   split at h
   .rename_i e u xs L
    replace h:=dB h;obtain⟨m,h⟩:=h;have m:u=J:=by simpa using m
    subst m;simp only[bP]at hx;obtain⟨g,n,cp,q,M⟩:=(hx.2.2 _ _ _ L).2 rfl;subst M;refine⟨_,.pointer (a6 ⟨g,i*e.size+o+d,a7⟩),h, ?_,fun w=>CU hT j w _ _⟩;simp only[bP];refine⟨rfl,hx.2.1,fun t' E ab h'=> ?_⟩
    grind
   .cases h
  .cases h
 .cases h
theorem ajX (hT:TOk P T) {x:bK} {f:Nat} {v:Value} {K:bK->Option R} (h:Jt T t x f K=a6 r) (hx:bP c x v):
  ∃z u,K z=a6 r/\bP c z u/\ ∀w,(Instr.field t v f).run P w=.ok u w:=by
 unfold Jt at h;split at h
 .rename_i g d G
  obtain⟨I,W,o,p,J,hk,i,X,j,L,Y,M⟩:=BL hT G;have N:(T.at t).isAgg=true:=by simp[TI.isAgg,p]
  split at h
  .rename_i u y
   split at h
   .rename_i Z q
    split at h
    .rename_i z m
     have e:=iI m;subst e;rw[gB]at m;cases m;simp only[bP]at hx;have s:=hT.ty_agg hk q;rw[N]at s;obtain⟨cs,rfl,hd⟩:=(VD.agg s).1 hx;obtain⟨a,z,l1,O,l3,g1,g2,g3,g4,g5,g6,S⟩:=L8 hT I 0 u (Xw hT hk p q) f g d J _ _ hd;refine⟨_,valOf (T.at d).isAgg O,h, ?_,fun w=> ?_⟩
     .grind [bP,aeD]
     .have ab:=fB.length _ _ _ S;have A:g+(T.at d).size<=cs.size:=by
       have:=congrArg List.length g5;simp at this;omega
      have B:=KG (P:=P) hT (t:=o.type) (by rw[M];exact i) w cs o.offset (by simp_all);simp only[Instr.field,Sem.run_bind,run_underlying j,Result.andThen_ok,L,asAgg,Sem.run_pure,B];simp_all
    .cases h
   .cases h
  .rename_i l
   split at h
   .rename_i ad U
    obtain⟨q1,rfl⟩:=BH U;simp only[bP]at hx;obtain⟨D,rfl,E,V⟩:=hx;have A:=bH.length _ _ E;simp at A;refine⟨_,valOf (T.at d).isAgg ((D.toList.drop g).take (T.at d).size),h,KD hT i (bH.take _ _ _ (bH.drop _ _ _ E)) (fun u j=>V u (List.mem_of_mem_drop (bn j))),fun w=> ?_⟩;have B:=KG (P:=P) hT i w D g (by omega);simp_all [Instr.field,run_underlying,asAgg]
   .cases h
  .cases h
 .cases h
theorem q_len (hT:TOk P T) (A:c.Ok W0) {x:bK} {v:Value} {K:bK->Option R} (h:acp T c.hp t x K=a6 r) (hx:bP c x v) {ty:TypeId}:
  ∃z u,K z=a6 r/\bP c z u/\ ∀w,(Builtin.len_ #[t] ty #[v]).run P w=.ok u w:=by
 unfold acp at h;split at h
 .rename_i s
  replace h:=gu h;obtain⟨f,h⟩:=h;simp only[bP]at hx;obtain rfl:=hx.str_inv;have d:=Fv hT f;refine⟨_,_,h,by simp only[bP];exact VD.int_mk,fun w=> ?_⟩;simp only[Builtin.len_,List.getElem?_toArray,List.getElem?_cons_zero,Sem.run_bind,run_underlying d,Result.andThen_ok,Sem.run_pure,goInt];congr 2
 .rename_i e j
  replace h:=gu h;obtain⟨f,h⟩:=h;simp only[bP]at hx;obtain⟨a,cp,B,rfl,L,M,N⟩:=nY hx;obtain⟨o,d,hk,p,q,_⟩:=lT hT f;exact⟨_,_,h,by simp only[bP];exact VD.int_mk,fun w=>by simp[Builtin.len_,run_underlying d,goInt,bG]⟩
 .replace h:=gu h;obtain⟨f,h⟩:=h;simp only[bP]at hx;subst hx;obtain⟨o,d,hk,p,q,_⟩:=lT hT f;exact⟨_,_,h,by simp only[bP];exact VD.int_mk,fun w=>by simp[Builtin.len_,run_underlying d,goInt]⟩
 .rename_i id D O
  split at h
  .rename_i e u j y
   replace h:=dB h;obtain⟨l,h⟩:=h;have l:u=D:=by simpa using l
   subst l;replace h:=gu h;obtain⟨f,h⟩:=h;obtain⟨o,d,hk,p,q,_⟩:=lT hT f;simp only[bP]at hx;have i:=(hx.2.2 _ _ _ y).2 rfl;obtain⟨_,S,B,E,U,V⟩:=A.obj id _ y;obtain⟨a,n,G,W⟩: ∃a n,(c.mu id).v=.slice a j.length n/\j.length<=n:=by
    rcases E.2 with ⟨I,J⟩|⟨g,X,Y,I,_,_,J,_⟩
    all_goals grind
   split at h
   .simp only[ja]at i;rw[G]at i;subst i;exact⟨_,_,h,by simp only[bP];exact VD.int_mk,fun w=>by simp[Builtin.len_,run_underlying d,goInt,bG]⟩
   .rename_i lo Z
    simp only[ja]at i;obtain⟨a',m,cp,ab,q1,q2,q3,i⟩:=i;subst i;refine⟨_,_,h,by simp only[bP];exact VD.int_mk,fun w=> ?_⟩;simp only[Builtin.len_,List.getElem?_toArray,List.getElem?_cons_zero,Sem.run_bind,run_underlying d,Result.andThen_ok,Sem.run_pure,goInt]
    grind
  .cases h
 .cases h
theorem uj {k:IntKind}: ∀(l:List bK) (e:List Int) (us:List Value),BD k l=a6 e->bH c l us->us=e.map (.int k)
 |[],e,us,h,d=>by
  grind [BD,bH]
 |v::l,e,us,h,d=>by
  cases us with
  |nil=>simp[bH]at d
  |cons u us=>
   simp only[bH]at d;cases v with
   |val t x=>
    cases t<;>simp only[BD,reduceCtorEq]at h
    rename_i i
    split at h
    .rename_i hk
     subst hk;split at h
     .rename_i m g
      cases h;have f:=d.1;simp only[bP]at f;rw[f.int_inv,uj l m us g d.2];rfl
     .cases h
    .cases h
   |_=>simp[BD]at h
theorem Ud (w:World) (k:IntKind): ∀(d:List Int) (a:Int),((d.map (Value.int k)).foldlM Builtin.min2 (.int k a)).run P w=.ok (.int k (d.foldl IC a)) w
 |[],a=>rfl
 |n::d,a=>by
  simp only[ak,List.foldlM_cons,List.foldl_cons,Sem.run_bind,Builtin.min2,Sem.run_pure,Result.andThen_ok];exact Ud w k d (IC a n)
theorem Uc (w:World) (k:IntKind): ∀(d:List Int) (a:Int),((d.map (Value.int k)).foldlM Builtin.max2 (.int k a)).run P w=.ok (.int k (d.foldl su a)) w
 |[],a=>rfl
 |n::d,a=>by
  simp only[ak,List.foldlM_cons,List.foldl_cons,Sem.run_bind,Builtin.max2,Sem.run_pure,Result.andThen_ok];exact Uc w k d (su a n)
theorem acO (off:Nat): ∀(us:List Value) (k:Nat) (d:List Value),off+k+us.length<=d.length->
  (us.zipIdx k).foldl (fun cs p=>Array.setIfInBounds cs (off+p.2) p.1) d.toArray=(d.take (off+k)++us++d.drop (off+k+us.length)).toArray
 |[],k,d,h=>by simp
 |u::us,k,d,h=>by
  simp only[aH]at h;have e:=acO off us (k+1) (d.set (off+k) u) (by simp;omega);simp only[List.zipIdx_cons,List.foldl_cons];rw[show Array.setIfInBounds d.toArray (off+k) u=(d.set (off+k) u).toArray by simp,e];congr 1;have f:off+k<d.length:=by omega
  rw[List.set_eq_take_append_cons_drop,am f];have g: ∀(A B:List Value) (n m:Nat),A.length=n->(A++u::B).take (n+1)=A++[u]/\(A++u::B).drop (n+1+m)=B.drop m:=by
   intro A B n m i;constructor
   .grind
   .rw[List.drop_append,aK (by omega),i,aA,show n+1+m-n=m+1 by omega];rfl
  obtain⟨j,l⟩:=g (d.take (off+k)) (d.drop (off+k+1)) (off+k) us.length (by simp;omega);rw[show off+(k+1)=off+k+1 by omega,j,l];simp;congr 1;omega
theorem JK (off:Nat) (us:Array Value) (d:List Value) (h:off+us.size<=d.length):
  us.zipIdx.foldl (fun cs p=>Array.setIfInBounds cs (off+p.2) p.1) d.toArray=(d.take off++us.toList++d.drop (off+us.size)).toArray:=by
 rw[<-Array.foldl_toList,Array.toList_zipIdx];simp_all [acO]
theorem acs (hT:TOk P T) {s:List (Nat×TypeId)} {place:Nat->Option (Nat×Nat)} (hp: ∀i off p,s[i]? =a6 (off,p)->(T.at p).known=true->place i=a6 (off,(T.at p).size)):
  ∀(j:List (Nat×bK)) (us:List (Nat×Value)) (cs l:List bK) (d:List Value),Js T s cs j=a6 l->bH c cs d->(∀u∈d,u.oneCell'=true)->
   us.map (·.1)=j.map (·.1)->bH c (j.map (·.2)) (us.map (·.2))-> ∃m,Instr.fill place d.toArray us=a6 m.toArray/\bH c l m/\ ∀u∈m,u.oneCell'=true
 |[],us,cs,l,d,h,o,y,e,_=>by
  simp only[Js,Option.some.injEq]at h;subst h;cases us with
  |nil=>exact⟨d,rfl,o,y⟩
  |cons=>simp at e
 |(i,v)::j,us,cs,l,d,h,o,y,e,q=>by
  cases us with
  |nil=>simp at e
  |cons u us=>
   obtain⟨K,u⟩:=u;simp only[ak,List.cons.injEq]at e;obtain⟨rfl,e⟩:=e;simp only[ak,bH]at q;simp only[Js]at h;split at h
   .rename_i off p f B D
    replace h:=dB h;obtain⟨hk,h⟩:=h;simp only[af,beq_iff_eq]at hk;split at h
    .rename_i L g
     have E:=hp _ _ _ B hk.1;obtain⟨z,M⟩:=LP D q.1;have G:=bH.length _ _ z;have N:=bH.length _ _ o;unfold putCells at g;replace g:=dB g;obtain⟨A,g⟩:=g;have A:off+f.length<=cs.length:=by simpa using A
     cases g;have O:u.cells.size=f.length:=by simpa using G.symm
     have I:bH c (cs.take off++f++cs.drop (off+f.length)) (d.take off++u.cells.toList++d.drop (off+f.length)):=
      bH.append _ _ _ _ (bH.append _ _ _ _ (bH.take _ _ _ o) z) (bH.drop _ _ _ o)
     have J: ∀x∈d.take off++u.cells.toList++d.drop (off+f.length),x.oneCell'=true:=by
      grind
     obtain⟨m,g1,g2,g3⟩:=acs hT hp j us _ l _ h I J e q.2;refine⟨m, ?_,g2,g3⟩;rw[<-g1];simp only[Instr.fill,E];rw[aq (by grind)]
     grind [JK]
    .cases h
   .cases h
end
end
section
open Option renaming some → a6, none → a7
open Bool renaming and_eq_true → af, false_eq_true → ah, not_true → ay
open List renaming map_cons → ak, nil_append → aA
open Go.RowKit
section
variable {P:Program} {T:TT} {W0:World} {c:Cx} {R:Type} {r:R} {t:TypeId}
theorem bH.map_eval {fr:List bK} {a:Act} (h:bH c fr a.tmps.toList): ∀(xs:List Operand),bH c (xs.map (gV fr)) (xs.map a.eval)
 |[]=>by simp[bH]
 |x::xs=>by simp only[ak,bH];exact⟨dN h x,bH.map_eval h xs⟩
theorem Nb {w:World} {B:Nat} {e:TypeId} {size n:Nat} {v:Value} {d:List Value} (h:w.ownsRow B e size v n d): ∃a cp,v=.slice a n cp/\n<=cp/\(d=[]\/ ∃g,a=a6 ⟨g,0,a7⟩/\g<w.heap.size/\B<=g/\gX w g 0 d):=by
 rcases h.2 with ⟨f,i⟩|⟨g,l,o,f,i,j,m,p,q,s⟩
 .refine⟨a7,0,by rw[f,i],by omega,.inl ?_⟩;have:=h.1;simp_all
 .refine⟨_,l,f,m,.inr ⟨g,rfl,(Array.getElem?_eq_some_iff.1 j).1,i, ?_⟩⟩;have:=(gX.of_block_cells j).sub 0 (n*size);simp_all
theorem ry {w:World} {B:Nat} {e:TypeId} {size n:Nat} {v:Value} {d:List Value} (h:w.ownsRow B e size v n d): ∃a cp,v=.slice a n cp/\n<=cp/\(d=[]\/ ∃g,a=a6 ⟨g,0,a7⟩/\g<w.heap.size/\gX w g 0 d):=by
 grind [Nb]
theorem Un (y:c.Ok W0) {x:bK} {e:Ty} {A:List e.den} {u:Value} (h:x.as c.hp (.list e)=a6 A) (hx:bP c x u):
  ∃a cp d,u=.slice a A.length cp/\gp (fB c.w c.free e) e.size A d/\(d=[]\/ ∃b off,a=a6 ⟨b,off,a7⟩/\b<c.w.heap.size/\ ¬c.bar b/\gX c.w b off d):=by
 cases x with
 |val J z=>
  simp only[bK.as]at h;have e:=iI h;subst e;rw[gB]at h;cases h;simp only[bP]at hx;obtain⟨a,n,d,B,N,D,E⟩:=nY hx;exact⟨a,n,d,B,D,E.imp id fun⟨b,off,f,i,o⟩=>⟨b,off,f,i.1,i.2.2.2,o⟩⟩
 |nils=>
  simp only[bK.as,Option.some.injEq]at h;subst h;simp only[bP]at hx;exact⟨a7,0,[],hx,rfl,.inl rfl⟩
 |lst J z b=>
  simp only[bK.as]at h;have e:=iI h;cases e;rw[gB]at h;cases h;simp only[bP]at hx;obtain⟨a,n,d,B,N,D,E⟩:=nY hx.1;exact⟨a,n,d,B,D,E.imp id fun⟨b,off,f,i,o⟩=>⟨b,off,f,i.1,i.2.2.2,o⟩⟩
 |emp=>
  simp only[bK.as,Option.some.injEq]at h;subst h;simp only[bP]at hx;obtain⟨a,rfl⟩:=hx;exact⟨a,0,[],rfl,rfl,.inl rfl⟩
 |slc id ver O=>
  simp only[bK.as,BI]at h;split at h
  .rename_i J v X s
   replace h:=dB h;obtain⟨j,h⟩:=h;have j:v=ver:=by simpa using j
   subst j;split at h
   .rename_i Y G
    have e:=iI G;cases e;rw[gB]at G;cases G;cases h;simp only[bP]at hx;have q:=(hx.2.2 _ _ _ s).2 rfl;obtain⟨_,Z,d,S,K,ab⟩:=y.obj id _ s;obtain⟨a,cp,j,hn,L⟩:=Nb S;cases O with
    |none=>
     simp only[ja]at q;rw[j]at q;exact⟨a,cp,d,q,K,L.imp (fun h=>h) fun⟨g,f,i,U,o⟩=>⟨g,0,f,i,fun I=>(y.bar _ I).2.1 ⟨id,_,s,by rw[dJ.blk,j,f];rfl⟩,o⟩⟩
    |some p=>
     obtain⟨lo,V⟩:=p;simp only[ja]at q;obtain⟨a',m,ad,M,p1,p2,p3,q⟩:=q;rw[j]at M;cases M;refine⟨(if cp=lo.toNat then a else a.map (·.add (lo.toNat*e.size))),cp-lo.toNat,(d.take (V.toNat*e.size)).drop (lo.toNat*e.size), ?_,gp.drop _ _ _ (gp.take _ _ _ K), ?_⟩
     .simp_all [abR,IZ]
     .by_cases hcp:cp=lo.toNat
      .grind
      .rw[aq hcp];rcases L with W|⟨g,f,i,U,o⟩
       .left;rw[W];simp
       .right;refine⟨g,0+lo.toNat*e.size,by rw[f];simp[jX],i,fun I=>(y.bar _ I).2.1 ⟨id,_,s,by rw[dJ.blk,j,f];rfl⟩, ?_⟩;rw[List.drop_take];exact o.sub _ _
   .cases h
  .cases h
 |agg l=>simp[bK.as,Ty.isAgg]at h
 |_=>simp[bK.as]at h
theorem abg (g:c.Ok W0) {x:bK} {e:Ty} {d:List e.den} {u:Value} (h:x.as c.hp (.list e)=a6 d) (hx:bP c x u):
  ∃a cp f,u=.slice a d.length cp/\gp (fB c.w c.free e) e.size d f/\(f=[]\/ ∃b off,a=a6 ⟨b,off,a7⟩/\b<c.w.heap.size/\gX c.w b off f):=by
 grind [Un]
theorem BP {k:IntKind} {w:World} {fr:Nat->Prop}: ∀(xs:List Int) (e:List Value),gp (fB w fr (.int k)) 1 xs e->e=xs.map (.int k)
 |[],_,h=>by cases h;rfl
 |x::xs,_,⟨d,g,i,l,f,j⟩=>by
  simp only[fB]at f;subst i;subst f;rw[BP xs g j];rfl
theorem Me: ∀(e:List Int) (d:List UInt8),e.foldl (fun r n=>r.push (UInt8.ofNat n.toNat)) (⟨d.toArray⟩:ByteArray)=⟨(d++ofBytes e).toArray⟩
 |[],d=>by simp[ofBytes]
 |n::e,d=>by
  rw[List.foldl_cons];have:(⟨d.toArray⟩:ByteArray).push (UInt8.ofNat n.toNat)=⟨(d++[UInt8.ofNat n.toNat]).toArray⟩:=by
   simp[ByteArray.push]
  rw[this,Me e];simp[ofBytes]
theorem anm (hT:TOk P T) (A:c.Ok W0) {s d:TypeId} {x:bK} {v:Value} {K:bK->Option R} (h:Aq T s d x c.hp K=a6 r) (hx:bP c x v):
  ∃z u,K z=a6 r/\bP c z u/\ ∀w',GK c w'->(convert s d v).run P w'=.ok u w':=by
 unfold Aq at h;cases hk:((T.at s).known&&(T.at d).known)
 .simp_all
 rw[hk]at h;simp only[ay,ac]at h;simp only[af]at hk;split at h
 .rename_i k1 k2 k3 n i l
  simp only[bP]at hx;obtain rfl:=hx.int_inv;have m:=hT.int hk.1 i;have o:=hT.int hk.2 l;exact⟨_,_,h,by simp only[bP];exact VD.int_mk,fun w' _=>by simp_all [convert,run_underlying,Conv.intToInt]⟩
 .rename_i str i l
  simp only[bP]at hx;obtain rfl:=hx.str_inv;have m:=hT.str hk.1 i;have o:=hT.str hk.2 l;exact⟨_,_,h,by simp only[bP];exact VD.str_mk,fun w' _=>by simp_all [convert,run_underlying]⟩
 .rename_i e i l
  split at h
  .rename_i B
   split at h
   .rename_i f D
    replace h:=gu h;obtain⟨E,h⟩:=h;have G:=E;have m:=hT.slice hk.1 i;have o:=hT.str hk.2 l;have p:=hT.int G B;obtain⟨a,cp,g,rfl,I,J⟩:=abg A D hx;refine⟨_,.string ⟨(ofBytes f).toArray⟩,h,by simp only[bP];exact VD.str_mk,fun w' L=> ?_⟩;have q:=BP f g I;cases hxe:f with
    |nil=>
     subst hxe;rcases a with _|M
     .simp only[convert,run_underlying m,run_underlying o,run_underlying p,Sem.run_bind,Result.andThen_ok,Conv.bytesToString,Sem.run_pure];rfl
     .rw[run_convert_bytes_string w' s d e _ _ _ m p o,run_bytesToString (P:=P) w' M _ cp [] (by rfl)];rfl
    |cons x0 Y=>
     have N:g≠[]:=by rw[q,hxe];simp
     obtain⟨b,y,rfl,O,S⟩:=J.resolve_left N;have U:=L.cells O S;have Z:(loadCells ⟨b,y,a7⟩ g.length).run P w'=.ok g.toArray w':=run_loadCells_list (P:=P) w' _ g fun j v V=>by
      obtain⟨W,X⟩:=List.getElem?_eq_some_iff.1 V;rw[jX,U j W,X]
     have ab:g.length=f.length:=by rw[q];simp
     rw[<-hxe,run_convert_bytes_string w' s d e _ _ _ m p o,run_bytesToString (P:=P) w' ⟨b,y,a7⟩ f.length cp f (by simp_all)];have:=Me f [];simp only[aA]at this;rw[<-this];rfl
   .cases h
  .cases h
 .cases h
theorem Hq {d e:Type} (f:d->Sem e) (g:d->e) (w:World): ∀(l:List d),(∀x∈l,(f x).run P w=.ok (g x) w)->(l.mapM f).run P w=.ok (l.map g) w
 |[],_=>rfl
 |x::l,h=>by
  simp only[List.mapM_cons,Sem.run_bind,h x (by simp),Result.andThen_ok,Hq f g w l (fun y i=>h y (by simp[i])),Sem.run_pure,ak]
theorem aa8 {d e:Type} (f:d->Sem e) (g:d->e) (w:World) (l:Array d) (h: ∀x∈l.toList,(f x).run P w=.ok (g x) w):(l.mapM f).run P w=.ok (l.map g) w:=by
 rw[Array.mapM_eq_mapM_toList,Sem.run_map,Hq f g w l.toList h];simp only[Result.andThen_ok];congr 1
 grind
def XO (P:Program) (t:TypeId):Nat:=((P.info? t).map (·.size)).getD 0
theorem A8 (hT:TOk P T) (O:c.Ok W0) {cl:Bool} {call:gy R} {o:Oper} {st:St} {a:Act} {K:bK->St->Option R} (S:iw o.op=true) (E:c.hp=st.hp) (j:bH c st.fr a.tmps.toList)
  (h:dZ T cl call o st K=a6 r): ∃z u,K z st=a6 r/\bP c z u/\ ∀w',GK c w'->(execOp a.eval o).run P w'=.ok (.value u) w':=by
 have D: ∀{s:Sem Value} {u:Value} {w':World},s.run P w'=.ok u w'->(do pure (Next.value (<-s)):Sem Next).run P w'=.ok (.value u) w':=fun hs=>by
  simp_all
 obtain⟨aJ,op,ty,aK,aO,aP⟩:=o;simp only at S;cases op<;>simp only[iw,jI,ah]at S
 case move x=>exact⟨_,_,h,dN j x,fun w' _=>rfl⟩
 case assign x=>exact⟨_,_,h,dN j x,fun w' _=>rfl⟩
 case pick x y z=>
  simp only[dZ]at h;have hc:=dN j x;split at h
  .rename_i b J
   rw[J]at hc;simp only[bP]at hc;have ai:=hc.bool_inv;cases b
   .exact⟨_,_,h,dN j z,fun w' _=>by simp[execOp,ai,asBool]⟩
   .exact⟨_,_,h,dN j y,fun w' _=>by simp[execOp,ai,asBool]⟩
  .cases h
 case build t parts=>
  simp only[dZ]at h;cases hk:(T.at t).known
  .simp_all
  rw[hk]at h;simp only[ay,ac]at h;split at h
  .rename_i fs au
   split at h
   .rename_i cs X
    obtain⟨Y,Z,av⟩:=hT.struct hk au;obtain⟨i,z,hi,aQ,aS,hz,aU,ab⟩:=hT.info hk;have aw:bH c (T.at t).zero z.cells.toList:=by grind [uq]
    have ab: ∀u∈z.cells.toList,u.oneCell'=true:=fun u Z=>List.all_eq_true.1 ab u Z;obtain⟨ax,g1,g2,g3⟩:=acs (c:=c) hT (place:=fun k=>(Y.map fun f=>(f.offset,XO P f.type))[k]?) (fun k aj ft ad az=>by
      rw[<-av,List.getElem?_map]at ad;cases hfl:Y.toList[k]? with
      |none=>simp_all
      |some fl=>
       rw[hfl]at ad;simp only[Option.map_some,Option.some.injEq,Prod.mk.injEq]at ad;have:Y[k]? =a6 fl:=by simpa using hfl
       obtain⟨i',z',aV,aW,_⟩:=hT.info az;simp_all [XO]) _ (parts.toList.map fun p=>(p.1,a.eval p.2)) _ _ _ X aw ab (by simp) (by
      simp only[List.map_map,Function.comp_def];have:=bH.map_eval (c:=c) j (parts.toList.map (·.2));simp_all [Function.comp_def])
    have ae:=(hT t hk).2.2.2.2.2.2.1;rw[Z]at ae;simp only[Option.map_some,Option.some.injEq]at ae;refine⟨_,.agg ax.toArray,h, ?_,fun w' _=>D ?_⟩
    .have:=KD (c:=c) hT hk g2 g3;simp_all [TI.isAgg,valOf]
    .have hm:=aa8 (P:=P) (fun f:Field=>do pure (f.offset,<-sizeOf f.type)) (fun f=>(f.offset,XO P f.type)) w' Y (fun f hf=>by
      have:=List.all_eq_true.1 ae f hf;cases hi2:P.info? f.type with
      |none=>simp_all
      |some i2=>simp[sizeOf,typeInfo,hi2,XO])
     have aB:(zeroValue t).run P w'=.ok z w':=by simp[zeroValue,typeInfo,hi,hz]
     simp only[Instr.build,Sem.run_bind,aB,Result.andThen_ok,run_underlying Z,hm];simp_all
   .cases h
  .cases h
 case load t x=>
  simp only[dZ]at h;rw[<-E]at h;obtain⟨z,u,m,q,A⟩:=atr (K:=fun v=>K v st) hT O h (dN j x);exact⟨z,u,m,q,fun w' B=>D (A w' B)⟩
 case nilCheck x=>
  simp only[dZ]at h;have d:=dN j x;split at h
  .rename_i id aj M
   rw[M]at d;split at h
   .rename_i bt cs X
    have U:=d;simp only[bP]at d;rw[<-E]at X;have G:=d.2.2 _ _ X;exact⟨_,_,h,U,fun w' _=>by simp[execOp,G]⟩
   .cases h
  .rename_i y e M
   rw[M]at d;have U:=d;simp only[bP]at d;obtain⟨b,o,zs,G,_⟩:=d;exact⟨_,_,h,U,fun w' _=>by simp[execOp,G]⟩
  .rename_i id aF i aj M
   rw[M]at d;split at h
   .rename_i e u xs an
    replace h:=dB h;obtain⟨I,h⟩:=h;have I:u=aF:=by simpa using I
    subst I;have U:=d;simp only[bP]at d;rw[<-E]at an;obtain⟨g,n,cp,_,G⟩:=(d.2.2 _ _ _ an).2 rfl;exact⟨_,_,h,U,fun w' _=>by simp[execOp,G]⟩
   .cases h
  .cases h
 case binOp op t x y yt=>
  simp only[dZ]at h;rw[<-E]at h;obtain⟨z,u,m,q,A⟩:=atq (P:=P) (ox:=x) (oy:=y) (K:=fun v=>K v st) hT O h (dN j x) (dN j y);exact⟨z,u,m,q,fun w' B=>D (A w')⟩
 case unOp op t x=>
  simp only[dZ]at h;obtain⟨z,u,m,q,A⟩:=aHF (P:=P) (K:=fun v=>K v st) h (dN j x);exact⟨z,u,m,q,fun w' B=>D (A w')⟩
 case convert sT dT x=>
  simp only[dZ]at h;rw[<-E]at h;obtain⟨z,u,m,q,A⟩:=anm (P:=P) (K:=fun v=>K v st) hT O h (dN j x);exact⟨z,u,m,q,fun w' B=>D (A w' B)⟩
 case slice t x lo hi mx=>
  simp only[dZ]at h;rw[<-E]at h;obtain⟨z,u,m,q,A⟩:=ajZ (P:=P) (K:=fun v=>K v st) hT O h (dN j x) (lQ.map j lo) (lQ.map j hi) (lQ.map j mx);exact⟨z,u,m,q,fun w' B=>D (A w')⟩
 case fieldAddr t x f=>
  simp only[dZ]at h;rw[<-E]at h;obtain⟨z,u,m,q,A⟩:=Oz (P:=P) (K:=fun v=>K v st) hT h (dN j x);exact⟨z,u,m,q,fun w' B=>D (A w')⟩
 case field t x f=>
  simp only[dZ]at h;obtain⟨z,u,m,q,A⟩:=ajX (P:=P) (K:=fun v=>K v st) hT h (dN j x);exact⟨z,u,m,q,fun w' B=>D (A w')⟩
 case indexAddr t x i=>
  simp only[dZ]at h;rw[<-E]at h;obtain⟨z,u,m,q,A⟩:=OA (P:=P) (K:=fun v=>K v st) hT O h (dN j x) (dN j i);exact⟨z,u,m,q,fun w' B=>D (A w')⟩
 case index t x i=>
  simp only[dZ]at h;split at h
  .rename_i s n hs hn
   replace h:=gu h;obtain⟨m,h⟩:=h;have d:=dN j x;rw[hs]at d;obtain⟨q,A⟩:=ajY (P:=P) hT d (dN j i) hn m;exact⟨_,_,h,q,fun w' B=>D (A w')⟩
  .cases h
 case extract x n=>
  simp only[dZ]at h;have d:=dN j x;split at h
  .rename_i l hl
   rw[hl]at d;split at h
   .rename_i v G
    simp only[bP]at d;obtain⟨vs,M,ao⟩:=d;obtain⟨hn,G⟩:=List.getElem?_eq_some_iff.1 G;have aG:=bH.length _ _ ao;simp at aG;have m:=bH.get _ _ ao n hn (by simp;omega);rw[G]at m;simp only[Array.getElem_toList]at m;refine⟨_,_,h,m,fun w' _=>D ?_⟩;rw[M];have:vs[n]? =a6 vs[n]:=Array.getElem?_eq_getElem (by omega);simp[Instr.extract,this]
   .cases h
  .cases h
 case call cc=>
  obtain⟨aX,V,aH⟩:=cc;simp only at S;have L:=bH.map_eval (c:=c) j V.toList;split at S
  all_goals try (cases S;done)
  .
   simp only[dZ,jY]at h;split at h<;>try (cases h;done)
   .rename_i x J d
    split at h<;>try (cases h;done)
    rename_i t ht
    rw[<-E]at h;obtain⟨N,aI⟩: ∃N,V= #[N]:=by
     obtain⟨l⟩:=V
     match l,d with
     |[N],_=>exact⟨N,rfl⟩
    subst aI;obtain⟨t0⟩:=aH;simp only at ht;subst ht;simp only[ak,List.map_nil,List.cons.injEq,and_true]at d;subst d;obtain⟨z,u,m,q,A⟩:=q_len (P:=P) (K:=fun v=>K v st) hT O h (dN j N) (ty:=ty)
    grind [execOp,resolve,invoke,builtin]
   all_goals simp_all
  .
   simp only[dZ,jY]at h;split at h<;>try (cases h;done)
   all_goals try (rename_i J _;cases J;done)
   rename_i k n l J d
   split at h<;>try (cases h;done)
   rename_i ns ag
   rw[d]at L;obtain⟨W⟩:=V;cases W with
   |nil=>simp_all
   |cons N W=>
    simp only[ak,bH]at L;have I:=L.1;simp only[bP]at I;have m:=I.int_inv;have q:=uj _ _ _ ag L.2;exact⟨_,_,h,by simp only[bP];exact VD.int_mk,fun w' B=>by simp_all [execOp,resolve,invoke,builtin,Builtin.min_,Ud]⟩
  .
   simp only[dZ,jY]at h;split at h<;>try (cases h;done)
   all_goals try (rename_i J _;cases J;done)
   rename_i k n l J d
   split at h<;>try (cases h;done)
   rename_i ns ag
   rw[d]at L;obtain⟨W⟩:=V;cases W with
   |nil=>simp_all
   |cons N W=>
    simp only[ak,bH]at L;have I:=L.1;simp only[bP]at I;have m:=I.int_inv;have q:=uj _ _ _ ag L.2;exact⟨_,_,h,by simp only[bP];exact VD.int_mk,fun w' B=>by simp_all [execOp,resolve,invoke,builtin,Builtin.max_,Uc]⟩
end
end
section
open Option renaming some → a6, none → a7
open List renaming map_cons → ak
open Nat renaming le_refl → ae, le_trans → aG
open Go.RowKit
structure Dk (W0:World) (c:Cx) (st:St) (c':Cx) (st':St):Prop where
 hp:c'.hp=st'.hp
 nxt:c'.nxt=st'.nxt
 fr:st'.fr=st.fr
 stk:st'.stk=st.stk
 ok:c'.Ok W0
 le:c.Le c'
section
variable {P:Program} {T:TT} {W0:World} {c:Cx} {R:Type} {r:R} {t:TypeId}
theorem Dk.refl (d:c.Ok W0) {st:St} (e:c.hp=st.hp) (h2:c.nxt=st.nxt):Dk W0 c st c st:=⟨e,h2,rfl,rfl,d,Cx.Le.refl c⟩
theorem Dk.trans {c' d:Cx} {st e f:St} (h:Dk W0 c st c' e) (k:Dk W0 c' e d f):Dk W0 c st d f:=
 ⟨k.hp,k.nxt,k.fr.trans h.fr,k.stk.trans h.stk,k.ok,h.le.trans k.le⟩
theorem NQ {cl:Bool} {dst:Option Nat} {o:dJ} {st:St} {K:Nat->St->Option R} (h:alloc cl dst o st K=a6 r):
  ∃n',dM st.hp (Eh cl st dst)=a7/\st.nxt<=Eh cl st dst/\st.nxt<=n'/\K (Eh cl st dst) {st with hp:=(Eh cl st dst,o)::st.hp,nxt:=n'}=a6 r:=by
 unfold alloc at h;split at h
 .cases h
 .rename_i e
  replace h:=dB h;obtain⟨d,h⟩:=h;have d:st.nxt<=Eh cl st dst:=by simpa using d
  grind
theorem jc {cl:Bool} {dst:Option Nat} {o:dJ} {st:St} {K:Nat->St->Option R} (h:alloc cl dst o st K=a6 r):
  ∃id n',dM st.hp id=a7/\st.nxt<=id/\st.nxt<=n'/\K id {st with hp:=(id,o)::st.hp,nxt:=n'}=a6 r:=
 let⟨n',d,e,f,g⟩:=NQ h
 ⟨_,n',d,e,f,g⟩
theorem AZ {st:St} {id:Nat} (d:c.hp=st.hp) (h2:c.nxt=st.nxt) (e:dM st.hp id=a7) (f:st.nxt<=id): ¬c.known id:=by
 rintro (⟨o,g⟩|h)
 all_goals grind
theorem nS (w:World) (o:Obj):Below w.heap.size w (w.alloc o):=(Below.refl _ _).alloc (ae _) o
theorem KA (f:c.Ok W0) {st:St} (g:c.hp=st.hp) (h2:c.nxt=st.nxt) {id n':Nat} (m:dM st.hp id=a7) (p:st.nxt<=id) (x:st.nxt<=n') {cs:List bK} {vs:Array Value} (e:TypeId)
  (q: ∀c',c.Le c'->dM c'.hp id=a6 (.box e cs)->c'.known id->(c'.mu id).blk=c.w.heap.size->bH c' cs vs.toList) (s: ∀u∈vs.toList,u.oneCell'=true):
  ∃c',Dk W0 c st c' {st with hp:=(id,.box e cs)::st.hp,nxt:=n'}/\c'.w=c.w.alloc (.cells vs e)/\bP c' (.ptr id 0) (.pointer (a6 ⟨c.w.heap.size,0,a7⟩)):=by
 have hk:=AZ g h2 m p;have d:=nS c.w (.cells vs e);have h: ∀b,dJ.blk (.box e cs) ⟨c.w.heap.size,undef⟩=a6 b->c.w.heap.size<=b:=fun b d=>by
  simp_all [dJ.blk]
 have i:=Cx.Le.push (o:=.box e cs) (l:=⟨c.w.heap.size,undef⟩) (nxt:=n') (w:=c.w.alloc (.cells vs e)) hk (by omega) d.size d.block h;have j:dM (c.push id (.box e cs) ⟨c.w.heap.size,undef⟩ n' (c.w.alloc (.cells vs e))).hp id=a6 (.box e cs):=by simp[Cx.push,dY]
 have v:(c.push id (.box e cs) ⟨c.w.heap.size,undef⟩ n' (c.w.alloc (.cells vs e))).ORel W0.heap.size id (.box e cs):=by
  refine⟨by simp[Cx.push,upd_same];exact f.size,vs, ?_,q _ i j (.inl ⟨_,j⟩) (by simp[Cx.push,upd_same]),s⟩;simp only[Cx.push,upd_same];exact heap_alloc_new c.w _
 refine⟨_,⟨?_,rfl,rfl,rfl,f.push hk (by omega) d h v,i⟩,rfl, ?_⟩
 .simp[Cx.push,g]
 .simp only[bP];refine⟨rfl,.inl ⟨.box e cs,by assumption⟩,fun y z _=>by simp[Cx.push,upd_same]⟩
theorem YR (d:c.Ok W0) {st:St} (f:c.hp=st.hp) (h2:c.nxt=st.nxt) {id n':Nat} (g:dM st.hp id=a7) (h:st.nxt<=id) (i:st.nxt<=n') {cs:List bK} {vs:Array Value} (j:bH c cs vs.toList)
  (l: ∀u∈vs.toList,u.oneCell'=true) (e:TypeId):
  ∃c',Dk W0 c st c' {st with hp:=(id,.box e cs)::st.hp,nxt:=n'}/\c'.w=c.w.alloc (.cells vs e)/\bP c' (.ptr id 0) (.pointer (a6 ⟨c.w.heap.size,0,a7⟩)):=
 KA d f h2 g h i e (fun c' m _ _ _=>bH.le m _ _ j) l
theorem qX (j:c.Ok W0) {st:St} (m:c.hp=st.hp) (h2:c.nxt=st.nxt) {id n':Nat} (s:dM st.hp id=a7) (x:st.nxt<=id) (N:st.nxt<=n') {y:Ty} (z:0<y.size) {xs:List y.den} {v:Value} {w:World}
  (f:Below c.w.heap.size c.w w) (e:TypeId) (d:List Value) (i:w.ownsRow c.w.heap.size e y.size v xs.length d) (A:gp (fB c.w c.free y) y.size xs d) (B:v.oneCell'=true) (D:y=.int .u8->e=oV):
  ∃c',Dk W0 c st c' {st with hp:=(id,.arr y 0 xs)::st.hp,nxt:=n'}/\c'.w=w/\bP c' (.slc id 0 a7) v:=by
 have hk:=AZ m h2 s x;have p: ∀b,dJ.blk (.arr y 0 xs) ⟨0,v⟩=a6 b->c.w.heap.size<=b:=fun b E=>(World.ownsRow.lt i b E).1;have q:=Cx.Le.push (o:=.arr y 0 xs) (l:=⟨0,v⟩) (nxt:=n') (w:=w) hk (by omega) f.size f.block p;have O:w.ownsRow W0.heap.size e y.size v xs.length d:=by
  refine⟨i.1, ?_⟩;rcases i.2 with h|⟨g,G,I,J,K,L⟩
  .exact .inl h
  .exact .inr ⟨g,G,I,J,aG j.size K,L⟩
 have M:(c.push id (.arr y 0 xs) ⟨0,v⟩ n' w).ORel W0.heap.size id (.arr y 0 xs):=by
  refine⟨z,e,d, ?_,gp.mono (fB.mono q.free y) _ _ A,D⟩;simp_all [Cx.push,upd_same]
 refine⟨_,⟨?_,rfl,rfl,rfl,j.push hk (by omega) f p M,q⟩,rfl, ?_⟩
 .simp[Cx.push,m]
 .simp only[bP];refine⟨B,.inl ⟨.arr y 0 xs,by simp[Cx.push,dY]⟩,fun t u S h=> ?_⟩;simp_all [Cx.push,ja,upd_same]
def H9 (P:Program) (W0:World) (c:Cx) (st:St) (o:Oper) (a:Act) (K:bK->St->Option R) (r:R):Prop:=
 ∃z u d e,K z e=a6 r/\Dk W0 c st d e/\bP d z u/\((execOp a.eval o).run P c.w=.ok (.value u) d.w\/((execOp a.eval o).run P c.w=.ok .skip d.w/\u=undef))
theorem qW {st:St} {o:Oper} {a:Act} {K:bK->St->Option R} {s:Sem Value} {z:bK} {u:Value} {c':Cx} {d:St} (g:execOp a.eval o=(do pure (Next.value (<-s)))) (e:K z d=a6 r) (h2:Dk W0 c st c' d) (f:bP c' z u)
  (h:s.run P c.w=.ok u c'.w):H9 P W0 c st o a K r:=⟨z,u,c',d,e,h2,f,.inl (by simp_all)⟩
theorem awT (hT:TOk P T) (x:c.Ok W0) {cl:Bool} {call:gy R} {o:Oper} {st:St} {a:Act} {K:bK->St->Option R} (A:c.hp=st.hp) (B:c.nxt=st.nxt) (O:o.op=.alloc t)
  (h:dZ T cl call o st K=a6 r):H9 P W0 c st o a K r:=by
 obtain⟨S,op,W,X,Y,Z⟩:=o;simp only at O;subst O;simp only[dZ]at h;replace h:=dB h;obtain⟨hk,h⟩:=h;obtain⟨i,z,hi,aj,al,hz,q,f⟩:=hT.info hk;have f: ∀u∈z.cells.toList,u.oneCell'=true:=fun u hu=>List.all_eq_true.1 f u hu;have ab:(Instr.alloc t true (.tuple #[])).run P c.w=.ok (.pointer (a6 ⟨c.w.heap.size,0,a7⟩)) (c.w.alloc (.cells z.cells t)):=by
  simp[Instr.alloc,zeroValue,typeInfo,hi,hz,newVar,newRow]
 have D:(alloc cl S (.box t (T.at t).zero) st fun id st=>K (.ptr id 0) st)=a6 r->H9 P W0 c st ⟨S,.alloc t,W,X,Y,Z⟩ a K r:=fun h=>by
  obtain⟨id,U,g,j,l,m⟩:=jc h;obtain⟨c',e,p,s⟩:=YR x A B g j l (cs:=(T.at t).zero) (vs:=z.cells) (by grind [uq]) f t;exact qW rfl m e s (by rw[p];exact ab)
 split at h
 .rename_i et ad E
  split at h
  .rename_i y hy
   replace h:=dB h;obtain⟨G,h⟩:=h;have G:0<y.size:=by simpa [O1] using G
   obtain⟨I,n1,g,j,l,m⟩:=jc h;have V:z.cells.toList=[.slice a7 0 0]:=by
    rw[E]at q
    match hq:z.cells.toList,q with
    |[v],d=>
     simp only[ak,List.map_nil,List.cons.injEq,and_true]at d;unfold xh at d
     grind
    |[],d=>simp at d
    |_::_::_,d=>simp at d
   obtain⟨c1,e,p,s⟩:=qX x A B g j l G (xs:=[]) (Below.refl _ _) (if y=.int .u8 then oV else et) [] (World.ownsRow_nil _ _ _ _) (by simp[gp]) (v:=.slice a7 0 0) rfl (fun h=>by simp[h]);obtain⟨id,U,J,L,M,N⟩:=jc m;obtain⟨c2,g1,g2,g3⟩:=YR e.ok e.hp e.nxt J L M (cs:=[.slc I 0 a7]) (vs:=z.cells) (by simp_all [bH]) f t;rw[p]at g3;refine qW rfl N (e.trans g1) g3 ?_;simp_all
  .exact D h
 .rename_i fs ad E
  rw[cond_eq_ite]at h;split at h
  .obtain⟨I,n1,g,j,l,m⟩:=jc h;have V:z.cells.toList=[.pointer a7,.slice a7 0 0]:=by
    rw[E]at q
    match hq:z.cells.toList,q with
    |[v,v'],d=>
     simp only[ak,List.map_nil,List.cons.injEq,and_true]at d;obtain⟨af,ag⟩:=d;have q1:v=.pointer a7:=by
      unfold xh at af
      grind
     have q2:v'=.slice a7 0 0:=by
      unfold xh at ag
      grind
     rw[q1,q2]
    |[],d=>simp at d
    |[_],d=>simp at d
    |_::_::_::_,d=>simp at d
   obtain⟨c1,e,p,s⟩:=qX x A B g j l (y:=.int .u8) (by simp[Ty.size]) (xs:=[]) (Below.refl _ _) oV [] (World.ownsRow_nil _ _ _ _) (by simp[gp]) (v:=.slice a7 0 0) rfl (fun _=>rfl);obtain⟨U,J,L,M,N⟩:=NQ m;obtain⟨c2,g1,g2,g3⟩:=KA e.ok e.hp e.nxt J L M (cs:=[.slf _,.slc I 0 a7]) (vs:=z.cells) t (fun c' ah hg ai an=>by
    rw[V];simp only[bH,bP];refine⟨⟨rfl,ai,fun _ _ _=>.inl trivial⟩, ?_,trivial⟩;have:=bP.le ah _ _ s
    assumption) f
   rw[p]at g3;refine qW rfl N (e.trans g1) g3 ?_;simp_all
  .exact D h
 .exact D h
theorem aGZ (hT:TOk P T) (e:c.Ok W0) {cl:Bool} {call:gy R} {o:Oper} {st:St} {a:Act} {K:bK->St->Option R} {x:Operand} (f:c.hp=st.hp) (g:c.nxt=st.nxt) (i:bH c st.fr a.tmps.toList) (d:o.op=.box t x)
  (h:dZ T cl call o st K=a6 r):H9 P W0 c st o a K r:=by
 obtain⟨A,B,D,E,G,I⟩:=o;simp only at d;subst d;simp only[dZ]at h;split at h
 .rename_i J j
  replace h:=dB h;obtain⟨hk,h⟩:=h;obtain⟨id,L,l,m,p,q⟩:=jc h;obtain⟨s,u⟩:=LP j (dN i x);obtain⟨M,v,y,z⟩:=YR e f g l m p s u t;refine qW rfl q v z ?_;rw[y];rfl
 .cases h
theorem aAT {hp:gG} {y:Ty} {v:bK} {x:y.den} (h:v.as [] y=a6 x) {u:Value} (d:bP c v u):fB c.w c.free y x u.cells.toList:=by
 cases v with
 |val t' z=>
  simp only[bK.as]at h;have e:=iI h;subst e;rw[gB]at h;cases h;simp only[bP]at d;exact d.cells
 |nils=>
  simp only[bP]at d;subst d;cases y<;>simp only[bK.as,reduceCtorEq]at h;cases h;exact⟨a7,0,[],rfl,by simp,rfl,.inl rfl⟩
 |lst t' z b=>
  simp only[bK.as]at h;have e:=iI h;subst e;rw[gB]at h;cases h;simp only[bP]at d;exact d.1.cells
 |emp=>
  simp only[bP]at d;obtain⟨a,rfl⟩:=d;cases y<;>simp only[bK.as,reduceCtorEq]at h;cases h;exact⟨a,0,[],rfl,by simp,rfl,.inl rfl⟩
 |slc id ver g=>cases y<;>simp_all [bK.as,BI,dM]
 |agg l=>
  simp only[bK.as]at h;replace h:=dB h;simp only[bP]at d;obtain⟨i,rfl,f,_⟩:=d;exact oL h.2 f
 |_=>simp[bK.as]at h
theorem gp.replicate {e:Type} {Q:e->List Value->Prop} {size:Nat} {x:e} {d:List Value} (hd:d.length=size) (hx:Q x d): ∀n,gp Q size (List.replicate n x) (List.replicate n d).flatten
 |0=>by simp[gp]
 |n+1=>⟨d,(List.replicate n d).flatten,by rfl,hd,hx,gp.replicate hd hx n⟩
theorem Ef (d:Array Value): ∀n,(madeCells d (n*d.size)).toList=(List.replicate n d.toList).flatten:=by
 intro n;by_cases h0:d.size=0
 .simp_all [madeCells]
 apply List.ext_getElem?;intro j;have f:(List.replicate n d.toList).flatten.length=n*d.size:=by simp
 by_cases e:j<n*d.size
 .have g: ∀n j,j<n*d.size->(List.replicate n d.toList).flatten[j]? =d.toList[j %d.size]? :=by
   intro n
   induction n with
   |zero=>omega
   |succ n h=>
    intro j e;rw[List.replicate_succ,List.flatten_cons]
    grind [Nat.mod_eq_of_lt,List.getElem?_append_right,Nat.mod_eq_sub_mod]
  grind [madeCells]
 simp_all [madeCells]
theorem WP {e:Ty} (place:Nat->Option (Nat×Nat)) (s: ∀i,place i=a6 (i*e.size,e.size)): ∀(j:List (Nat×bK)) (us:List (Nat×Value)) (xs f:List e.den) (g:List Value),Ju e xs j=a6 f->gp (fB c.w c.free e) e.size xs g->
   us.map (·.1)=j.map (·.1)->bH c (j.map (·.2)) (us.map (·.2))-> ∃l,Instr.fill place g.toArray us=a6 l.toArray/\gp (fB c.w c.free e) e.size f l/\f.length=xs.length
 |[],us,xs,f,g,h,m,d,_=>by
  simp only[Ju,Option.some.injEq]at h;subst h;cases us with
  |nil=>exact⟨g,rfl,m,rfl⟩
  |cons=>simp at d
 |(i,v)::j,us,xs,f,g,h,m,d,q=>by
  cases us with
  |nil=>simp at d
  |cons u us=>
   obtain⟨o,u⟩:=u;simp only[ak,List.cons.injEq]at d;obtain⟨rfl,d⟩:=d;simp only[ak,bH]at q;simp only[Ju]at h;split at h
   .rename_i x D
    replace h:=dB h;obtain⟨p,h⟩:=h;have p:o<xs.length:=by simpa [O1] using p
    have hd:=aAT (hp:=[]) D q.1;have y:=fB.length _ _ _ hd;obtain⟨z,E,K,A,B,G,I⟩:=gp.at_ o xs g p m;subst G;have J:=gp.set x u.cells.toList y hd o xs A z B p m I E;obtain⟨l,g1,g2,g3⟩:=WP place s j us _ f _ h J d q.2;refine⟨l, ?_,g2,by rw[g3];simp⟩;rw[<-g1];simp only[Instr.fill,s];have L:u.cells.size=e.size:=by simpa using y
    rw[aq (by simp_all)];congr 1;have:=JK (o*e.size) u.cells (A++z++B) (by simp;omega)
    grind
   .cases h
end
end
section
open Option renaming some → a6, none → a7
open Bool renaming and_eq_true → af
open Nat renaming le_refl → ae, le_mul_of_pos_right → bC
open Go.RowKit
section
variable {P:Program} {T:TT} {W0:World} {c:Cx} {R:Type} {r:R} {t:TypeId}
theorem qy (hT:TOk P T) {n:Nat} {d:TypeId} (e:(T.at t).k=.slice d) (h:T.rowOf t n=true):P.underlying t=a6 (.slice d)/\(T.at d).known=true/\(T.at d).size=n/\0<n/\0<(T.at d).bytes:=by
 grind [lT]
theorem XA (hT:TOk P T) {f:TypeId} (hk:(T.at f).known=true) {e:Ty} {d:e.den} (hd:Hf e (T.at f).zero=a6 d):
  ∃i z,P.info? f=a6 i/\i.zero=a6 z/\i.size=(T.at f).size/\i.bytes=(T.at f).bytes/\fB c.w c.free e d z.cells.toList:=by
 obtain⟨i,z,g,h,j,l,m,o⟩:=hT.info hk
 grind [oL,uq]
theorem adT (w:World) (d:List Value) (e:TypeId) (size n:Nat) (hl:d.length=n*size) (f:n<=maxLen):
  (w.alloc (.cells d.toArray e)).ownsRow w.heap.size e size (.slice (a6 ⟨w.heap.size,0,a7⟩) n n) n d:=
 ⟨hl,.inr ⟨w.heap.size,n,d.toArray,rfl,ae _,heap_alloc_new w _,ae _,f,by simpa using hl,by simp[<-hl]⟩⟩
theorem YM (hT:TOk P T) (D:c.Ok W0) {cl:Bool} {call:gy R} {o:Oper} {st:St} {a:Act} {K:bK->St->Option R} {n:Nat} {f:Array (Nat×Operand)} (E:c.hp=st.hp) (G:c.nxt=st.nxt) (I:bH c st.fr a.tmps.toList)
  (l:o.op=.buildSlice t n f) (h:dZ T cl call o st K=a6 r):H9 P W0 c st o a K r:=by
 obtain⟨ah,op,ty,ai,aj,ak⟩:=o;simp only at l;subst l;simp only[dZ]at h;split at h
 .rename_i g J
  split at h
  .rename_i e L
   split at h
   .rename_i d hd
    replace h:=dB h;obtain⟨m,h⟩:=h;simp only[af,leN,decide_eq_true_eq]at m;obtain⟨q,hk,M,s,_⟩:=qy hT J m.1;split at h
    .rename_i N O
     obtain⟨id,n',S,U,V,W⟩:=jc h;obtain⟨i,z,X,Y,al,_,u⟩:=XA (c:=c) hT hk hd;have v:=fB.length _ _ _ u;have Z:z.cells.size=e.size:=by simpa using v
     have ab:=gp.replicate (Q:=fB c.w c.free e) v u n;obtain⟨j,g1,g2,g3⟩:=WP (c:=c) (fun i=>a6 (i*e.size,e.size)) (fun _=>rfl) _ (f.toList.map fun p=>(p.1,a.eval p.2)) _ _ _ O ab (by simp) (by
      simp only[List.map_map,Function.comp_def];have:=bH.map_eval (c:=c) I (f.toList.map (·.2));simp_all [Function.comp_def])
     have x:N.length=n:=by rw[g3];simp
     have y:=gp.length _ _ g2;rw[x]at y;have an:n<=n*e.size:=bC n s;have A:=adT c.w j g e.size n y (by simp only[maxLen];omega);rw[<-x]at A;obtain⟨c',d1,d2,d3⟩:=qX D E G S U V s (nS c.w (.cells j.toArray g)) g j A g2 rfl (fun h=>hT.byte hk (by rw[L,h]));refine qW rfl W d1 d3 ?_;rw[d2];have B:(sizeOf g).run P c.w=.ok e.size c.w:=by rw[hT.sizeOf hk,M]
     have ao:(zeroValue g).run P c.w=.ok z c.w:=by simp[zeroValue,typeInfo,X,Y]
     have au:n*e.size<=2^24:=by omega
     have ad:Instr.fill (fun i=>a6 (i*e.size,e.size)) ((Array.range (n*e.size)).map (z.cells[· %z.cells.size]!)) (Array.map (fun p=>(p.1,a.eval p.2)) f).toList=a6 j.toArray:=by
      rw[<-g1];have:=Ef z.cells n;rw[Z]at this;have h3:(Array.range (n*e.size)).map (z.cells[· %z.cells.size]!)=(List.replicate n z.cells.toList).flatten.toArray:=by
       apply Array.ext';rw[<-this];rfl
      rw[h3];simp
     by_cases h0:n*e.size=0
     .have ag:n=0:=by
       omega
      subst ag;simp only[Instr.buildSlice,Sem.run_bind,run_underlying q,Result.andThen_ok,B,Sem.run_ite,Nat.zero_mul,if_true,Sem.run_pure];simp only[Nat.zero_mul]at ad;rw[aq (by omega)];have av:Instr.fill (fun i=>a6 (i*e.size,e.size)) ((Array.range 0).map ((#[]:Array Value)[· %(#[]:Array Value).size]!)) (Array.map (fun p=>(p.1,a.eval p.2)) f).toList=a6 j.toArray:=by
       grind
      simp_all [newRow]
     .simp only[Instr.buildSlice,Sem.run_bind,run_underlying q,Result.andThen_ok,B,Sem.run_ite];simp_all [newRow]
    .cases h
   .cases h
  .cases h
 .cases h
theorem adb (hT:TOk P T) (x:c.Ok W0) {cl:Bool} {call:gy R} {o:Oper} {st:St} {a:Act} {K:bK->St->Option R} {l cp:Operand} (y:c.hp=st.hp) (A:c.nxt=st.nxt) (m:bH c st.fr a.tmps.toList)
  (p:o.op=.makeSlice t l cp) (h:dZ T cl call o st K=a6 r):H9 P W0 c st o a K r:=by
 obtain⟨aj,op,ty,ak,al,an⟩:=o;simp only at p;subst p;simp only[dZ]at h;split at h
 .rename_i g B
  split at h
  .rename_i e ln f D E G
   split at h
   .rename_i d hd
    replace h:=gu h;obtain⟨q,h⟩:=h;simp only[af,decide_eq_true_eq]at q;obtain⟨I,J,L,b3⟩:=q;obtain⟨M,hk,N,O,S⟩:=qy hT B I;obtain⟨id,n',U,V,W,X⟩:=jc h;obtain⟨i,z,Y,Z,ab,ao,s⟩:=XA (c:=c) hT hk hd;have u:=fB.length _ _ _ s;have j:z.cells.size=e.size:=by simpa using u
    have ad:=gp.replicate (Q:=fB c.w c.free e) u s ln.toNat;obtain⟨k,r1⟩:=rU E (dN m l);obtain⟨k',r2⟩:=rU G (dN m cp);have au:f.toNat<=f.toNat*(T.at g).bytes:=bC _ S;have av:f.toNat<=140737488355328:=by grind [jO]
    have ag:f<=9223372036854775807:=by omega
    have ah:(i.bytes:Int)*f<=281474976710656:=by
     grind [jO]
    have aw:=run_make (P:=P) c.w t g i z M Y Z k k' ln f J L ah ag;have v:=Ef z.cells f.toNat;rw[j]at v;have ax:((List.replicate f.toNat z.cells.toList).flatten).length=f.toNat*e.size:=by simp[j]
    have ai:(c.w.alloc (.cells (madeCells z.cells (f.toNat*i.size)) g)).ownsRow c.w.heap.size g e.size (.slice (a6 ⟨c.w.heap.size,0,a7⟩) ln.toNat f.toNat) (List.replicate ln.toNat d).length (List.replicate ln.toNat z.cells.toList).flatten:=by
     refine⟨by simp[j],.inr ⟨c.w.heap.size,f.toNat,madeCells z.cells (f.toNat*i.size),by simp,ae _,heap_alloc_new _ _,by simp;omega,by simp only[maxLen];omega, ?_, ?_⟩⟩
     .grind
     .rw[ab,N,v];have:f.toNat=ln.toNat+(f.toNat-ln.toNat):=by omega
      rw[this,<-List.replicate_append_replicate,List.flatten_append];rw[List.take_append];simp[j];rw[List.take_of_length_le (by simp[j])]
    obtain⟨c',d1,d2,d3⟩:=qX x y A U V W O (nS c.w _) g _ ai ad rfl (fun h=>hT.byte hk (by rw[D,h]));refine qW rfl X d1 d3 ?_;simp_all
   .cases h
  .cases h
 .cases h
end
end
section
open Option renaming some → a6, none → a7
open List renaming length_append → ai, nil_append → aA, eq_nil_of_length_eq_zero → bz
open Nat renaming le_refl → ae
open Go.RowKit
section
variable {P:Program} {T:TT} {W0:World} {c:Cx} {R:Type} {r:R} {t:TypeId}
theorem Y2 {w:World} {B:Nat} {e:TypeId} {size n cap g:Nat} {f:List Value} (h:w.ownsRow B e size (.slice (a6 ⟨g,0,a7⟩) n cap) n f) {k:Nat} (hk:k<=n):
  w.ownsRow B e size (.slice (a6 ⟨g,0,a7⟩) k cap) k (f.take (k*size)):=by
 have p:=h.1;have q:=Nat.mul_le_mul_right size hk;refine⟨by simp;omega,.inr ?_⟩;rcases h.2 with ⟨d,_⟩|⟨s,u,i,d,j,l,v,m,o,x⟩
 .cases d
 .cases d;refine⟨g,cap,i,rfl,j,l,by omega,m,o, ?_⟩
  grind
theorem QN (hT:TOk P T) {d:TypeId} (x:P.underlying t=a6 (.slice d)) {w:World} {B:Nat} {i:TypeInfo} {z:Value} {size W:Nat} (hi:P.info? d=a6 i) (E:i.zero=a6 z) (ab:i.size=size) (ad:i.bytes=W)
  (G:z.cells.size=size) (I:0<size) {f:TypeId} {v:Value} {n:Nat} {o:List Value} (h:w.ownsRow B f size v n o) {a:Option Addr} {m cp:Nat} {news:List Value} (hl:news.length=m*size) (J: ∀u∈news,u.oneCell'=true)
  (af:news=[]\/ ∃b off,a=a6 ⟨b,off,a7⟩/\gX w b off news) (K:n+m<=maxLen) (L:(n+m)*W<=140737488355328) (M:B<=w.heap.size) (ty:TypeId):
  ∃l w' q,(Builtin.append_ #[t,t] ty #[v,.slice a m cp]).run P w=.ok l w'/\w'.ownsRow B q size l (n+m) (o++news)/\w.grownBy w' v.ownBlock/\(l.ownBlock=v.ownBlock\/l.ownBlock=a6 w.heap.size)/\l.oneCell'=true/\(q=f\/q=d):=by
 by_cases hm:m=0
 .subst hm;have hn:news=[]:=bz (by simpa using hl);subst hn;obtain⟨N,X,s,ag,_⟩:=ry h;refine⟨v,w,f, ?_,by simpa using h,⟨rfl,rfl,rfl,ae _,fun _ _ _=>rfl⟩,.inl rfl,by rw[s];rfl,.inl rfl⟩;rw[s];cases a<;>cases N<;>simp[Builtin.append_,run_underlying x,sizeOf,typeInfo,hi,Builtin.lenOf,Builtin.firstCells,loadCells,loadCellsFrom,ag,storeCells]
 .have ah:news≠[]:=by
   intro h0;rw[h0]at hl;have:=Nat.mul_pos (Nat.pos_of_ne_zero hm) I;simp at hl;omega
  obtain⟨b,off,rfl,hc⟩:=af.resolve_left ah;have D: ∀j u,news[j]? =a6 u->w.cell? ((⟨b,off,a7⟩:Addr).add j)=a6 u:=fun j u hj=>by
   obtain⟨aj,ak⟩:=List.getElem?_eq_some_iff.1 hj;rw[jX,hc j aj,ak]
  subst ab;subst ad;by_cases he:f=d
  .subst he;obtain⟨l,w',q,y,O,_,S⟩:=run_append_own_at (P:=P) w B t ty f i z i.size i.bytes x hi E rfl rfl G I v n o h ⟨b,off,a7⟩ m cp news hl D J K L M;obtain⟨N,X,s,_⟩:=ry y;exact⟨l,w',f,q,y,O,S,by rw[s];rfl,.inl rfl⟩
  .
   rcases h.2 with ⟨rfl,rfl⟩|⟨g,p,A,rfl,al,Y,ay,an,ao,az⟩
   .have hx:o=[]:=bz (by simpa using h.1);subst hx;obtain⟨l,w',q,y,O,_,S⟩:=run_append_own_at (P:=P) w B t ty d i z i.size i.bytes x hi E rfl rfl G I (.slice a7 0 0) 0 [] (World.ownsRow_nil _ _ _ _) ⟨b,off,a7⟩ m cp news hl D J K L M;obtain⟨N,X,s,_⟩:=ry y;exact⟨l,w',d,q,y,O,S,by rw[s];rfl,.inr rfl⟩
   .by_cases hroom:n+m<=p
    .have au:n*i.size+news.length<=A.size:=by rw[hl,ao,<-Nat.add_mul];exact Nat.mul_le_mul_right _ hroom
     have hf:=run_firstCells_some (P:=P) w i.size m ⟨b,off,a7⟩ m cp news hl D;have Z:=run_storeCells_at P g (n*i.size) f news 0 A w Y (by simpa using au) J;simp only[Nat.add_zero]at Z;have U:(Builtin.append_ #[t,t] ty #[.slice (a6 ⟨g,0,a7⟩) n p,.slice (a6 ⟨b,off,a7⟩) m cp]).run P w=
       .ok (.slice (a6 ⟨g,0,a7⟩) (n+m) p) (w.setRow g (A.toList.take (n*i.size)++news++A.toList.drop (n*i.size+news.length)).toArray):=by
      simp[Builtin.append_,run_underlying x,sizeOf,typeInfo,hi,Builtin.lenOf,hroom,hf,Addr.add_lit,Z]
     have V:(o++news).length=(n+m)*i.size:=by grind
     refine⟨_,_,f,U,⟨V,.inr ⟨g,p,_,rfl,al,setRow_heap w g A _ f _ Y,hroom,an, ?_, ?_⟩⟩,⟨rfl,rfl,rfl,by simp,fun k _ hk=>setRow_other w g k _ (fun e=>hk (by simp[Value.ownBlock,e]))⟩,Or.inl rfl,rfl,.inl rfl⟩
     all_goals grind
    .have holds: ∀j u,o[j]? =a6 u->w.cell? ((⟨g,0,a7⟩:Addr).add j)=a6 u:=h.cells (g:=g) rfl;have U:=run_append_grow (P:=P) w t ty d i z x hi E ⟨g,0,a7⟩ n p o h.1 holds ⟨b,off,a7⟩ m cp news hl D (by omega) (by grind [maxLen]) (growslice_fits (by omega) L);have aw:=grownCap_ge w (n+m) p d;have ax:grownCap w (n+m) p d<=maxLen:=grownCap_le_maxLen w (n+m) p d K;have V:(o++news).length=(n+m)*i.size:=by rw[ai,h.1,hl,Nat.add_mul]
     refine⟨_,_,d,U,⟨V,.inr ⟨w.heap.size,_,_,rfl,M,heap_alloc_new w.drew _,aw,ax, ?_, ?_⟩⟩,⟨rfl,rfl,rfl,by simp,fun k hk _=>Below.heap_alloc w.drew _ k hk⟩,Or.inr rfl,rfl,.inr rfl⟩
     .simp only[Array.size_append,List.size_toArray,size_zeroCells,G,h.1,hl,<-Nat.add_mul];simp_all
     grind
theorem aeQ (hT:TOk P T) {d:TypeId} (o:P.underlying t=a6 (.slice d)) {w:World} {i:TypeInfo} {z:Value} {size p:Nat} (hi:P.info? d=a6 i) (q:i.zero=a6 z) (B:i.size=size) (D:i.bytes=p)
  (E:z.cells.size=size) (G:0<size) {av:Option Addr} {b off m cp:Nat} {news:List Value} (hl:news.length=m*size) (I: ∀u∈news,u.oneCell'=true)
  (J:gX w b off news) (S:0<m) (U:m<=maxLen) (V:m*p<=140737488355328) (ty:TypeId):
  ∃e w' g,(Builtin.append_ #[t,t] ty #[.slice av 0 0,.slice (a6 ⟨b,off,a7⟩) m cp]).run P w=.ok e w'/\w'.ownsRow w.heap.size g size e m news/\Below w.heap.size w w'/\e.oneCell'=true/\g=d:=by
 have s: ∀j u,news[j]? =a6 u->w.cell? ((⟨b,off,a7⟩:Addr).add j)=a6 u:=fun j u K=>by
  obtain⟨L,M⟩:=List.getElem?_eq_some_iff.1 K;rw[jX,J j L,M]
 subst B;subst D;cases av with
 |none=>
  obtain⟨e,w',g,l,f,_,W⟩:=run_append_own_at (P:=P) w w.heap.size t ty d i z i.size i.bytes o hi q rfl rfl E G (.slice a7 0 0) 0 [] (World.ownsRow_nil _ _ _ _) ⟨b,off,a7⟩ m cp news hl s I (by omega) (by simp_all) (ae _);obtain⟨av,X,N,_⟩:=ry l;rw[Nat.zero_add,aA]at l;exact⟨e,w',d,g,l,⟨f.os,f.tape,f.output,f.size,fun k hk=>f.block k hk (by simp[Value.ownBlock])⟩,by rw[N];rfl,rfl⟩
 |some O=>
  have x:=run_append_grow (P:=P) w t ty d i z o hi q O 0 0 [] (by simp) (fun j v h=>by simp at h) ⟨b,off,a7⟩ m cp news hl s (by omega) (by grind [maxLen]) (growslice_fits (by omega) (by simp_all));have y:=grownCap_ge w (0+m) 0 d;have A:grownCap w (0+m) 0 d<=maxLen:=grownCap_le_maxLen w (0+m) 0 d (by omega);simp only[Nat.zero_add]at x y A;refine⟨_,_,d,x, ?_, ?_,rfl,rfl⟩
  .refine⟨hl,.inr ⟨w.heap.size,_,_,rfl,ae _,heap_alloc_new w.drew _,y,A, ?_, ?_⟩⟩
   .have:=Nat.add_mul m (grownCap w m 0 d-m) i.size;simp_all [size_zeroCells]
   simp_all
  .exact⟨rfl,rfl,rfl,by simp,fun k hk=>Below.heap_alloc w.drew _ k hk⟩
theorem QO {u d:TypeId} (m:P.underlying t=a6 (.slice d)) (o:P.underlying u=a6 .string) {w:World} {B:Nat} {i:TypeInfo} (hi:P.info? d=a6 i) (q:i.zero=a6 (.int .u8 0)) (z:i.size=1) (x:i.bytes=1)
  {v:Value} {n:Nat} {h:List Value} (p:w.ownsRow B d 1 v n h) (s:ByteArray) (D:n+s.size<=140737488355328) (E:B<=w.heap.size) (ty:TypeId):
  ∃e w',(Builtin.append_ #[t,u] ty #[v,.string s]).run P w=.ok e w'/\w'.ownsRow B d 1 e (n+s.size) (h++Lib.strCells s)/\w.grownBy w' v.ownBlock/\(e.ownBlock=v.ownBlock\/e.ownBlock=a6 w.heap.size)/\e.oneCell'=true:=by
 obtain⟨e,w',f,A,G,L⟩:=Lib.run_append_own_string (P:=P) w B t u ty d i m o hi q z x v n h p s (by simp only[maxLen];omega) D E;obtain⟨M,N,I,_⟩:=ry A;refine⟨e,w',f,A,G, ?_,by rw[I];rfl⟩;have O:h.length=n:=by simpa using p.1
 rcases p.2 with ⟨rfl,rfl⟩|⟨g,y,J,rfl,S,K,U,V,W,X⟩
 .by_cases hm:s.size=0
  .simp_all
  .right;have l:=run_append_nil_string (P:=P) w t u ty d i (.int .u8 0) m o hi q s (by omega) (by omega) (by rw[x];omega);rw[l]at f;cases f;rfl
 .by_cases hroom:n+s.size<=y
  .left;have l:=Lib.run_append_room_string (P:=P) w t u ty d i m o hi z g n y J K s hroom (by omega);rw[l]at f;cases f;rfl
  .right;have holds: ∀j u,h[j]? =a6 u->w.cell? ((⟨g,0,a7⟩:Addr).add j)=a6 u:=p.cells (g:=g) rfl;have l:=Lib.run_append_grow_string (P:=P) w t u ty d i (.int .u8 0) m o hi q ⟨g,0,a7⟩ n y h (by simp_all) holds s (by omega) (by omega) (by rw[x];exact growslice_fits (by omega) (by omega));rw[l]at f;cases f;rfl
end
end
section
open Option renaming some → a6, none → a7
open Bool renaming and_eq_true → af
open List renaming length_append → ai, map_cons → ak, nil_append → aA
open Nat renaming le_refl → ae, eq_of_beq_eq_true → aj, le_mul_of_pos_right → bC
open Go.RowKit
section
variable {P:Program} {T:TT} {W0:World} {c:Cx} {R:Type} {r:R} {t:TypeId}
theorem Az {d:Type} {l:List d} {b:Nat} (h:dV l b=true):l.length*b<=140737488355328:=by
 unfold dV jO at h;simp_all
theorem gp.one {w:World} {fr:Nat->Prop} {e:Ty}: ∀(xs:List e.den) (g:List Value),gp (fB w fr e) e.size xs g-> ∀u∈g,u.oneCell'=true
 |[],_,h=>by cases h;simp
 |y::i,_,⟨d,j,l,p,m,o⟩=>by
  subst l;intro u f;rcases List.mem_append.1 f with f|f
  .exact fB.one _ _ _ m u f
  .exact gp.one i j o u f
theorem aj2 (g:c.Ok W0) {st:St} (z:c.hp=st.hp) (A:c.nxt=st.nxt) {e:Ty} (B:0<e.size) {id d:Nat} {xs:List e.den} (i:dM c.hp id=a6 (.arr e d xs)) {f:Value} {w':World} {m:TypeId} {ws:List e.den} {o:List Value}
  (M:w'.ownsRow W0.heap.size m e.size f ws.length o) (p:gp (fB c.w c.free e) e.size ws o) (l:c.w.grownBy w' (c.mu id).v.ownBlock) (D: ∀b,(c.mu id).v.ownBlock=a6 b->W0.heap.size<=b)
  (N:f.ownBlock=(c.mu id).v.ownBlock\/f.ownBlock=a6 c.w.heap.size) (E:f.oneCell'=true) (G:e=.int .u8->m=oV):
  ∃c',Dk W0 c st c' {st with hp:=iT st.hp id (.arr e (d+1) ws)}/\c'.w=w'/\bP c' (.slc id (d+1) a7) f:=by
 have I:Below W0.heap.size W0 w':=g.bel.grown l g.size D;have q:(dJ.arr e d xs).like (c.mu id) (.arr e (d+1) ws) ⟨0,f⟩:=⟨by omega,fun h=>by omega⟩;have s: ∀b,b<c.w.heap.size->(dJ.arr e d xs).blk (c.mu id)≠a6 b->w'.heap[b]? =c.w.heap[b]? :=fun b j O=>l.block b j (by
  grind [dJ.blk])
 have u: ∀b,(dJ.arr e (d+1) ws).blk ⟨0,f⟩=a6 b->(dJ.arr e d xs).blk (c.mu id)=a6 b\/c.w.heap.size<=b:=fun b j=>by
  simp only[dJ.blk]at j ⊢
  grind
 have x: ∀(b:Nat) (L:Loop),(dJ.arr e d xs).blk (c.mu id)=a6 b->c.w.heap[b]? =a6 (Obj.loop L)-> ∃J:Loop,w'.heap[b]? =a6 (Obj.loop J):=fun b L j p=>absurd p ((g.obj id _ i).no_loop (by simp) j);have y:=Cx.Le.put (w:=w') g i q l.size s u x;refine⟨c.put id (.arr e (d+1) ws) ⟨0,f⟩ w',⟨by simp[Cx.put,z],A,rfl,rfl,g.put i q I l.size s u x ?_,y⟩,rfl, ?_⟩
 .refine⟨B,m,o, ?_,gp.mono (fB.mono y.free e) _ _ p,G⟩;simp_all [Cx.put,upd_same]
 .simp only[bP];refine⟨E,.inl ⟨_,Cx.put_get i⟩,fun S U V K=> ?_⟩;rw[Cx.put_get i]at K;simp_all [ja,Cx.put,upd_same]
theorem QM (hT:TOk P T) (o:c.Ok W0) {st:St} (J:c.hp=st.hp) (K:c.nxt=st.nxt) {f:TypeId} (L:P.underlying t=a6 (.slice f)) (hk:(T.at f).known=true) {e:Ty} (j:(T.at f).size=e.size) (M:0<e.size) (N:0<(T.at f).bytes)
  {id p:Nat} {xs:List e.den} (y:dM c.hp id=a6 (.arr e p xs)) {v:Value} {k cp:Nat} {g:Option Addr} (A:(c.mu id).v=.slice g xs.length cp) (az:k<=xs.length) (O:v=.slice g k cp)
  {d:List e.den} {a:Option Addr} {m:Nat} {s:List Value} (u:gp (fB c.w c.free e) e.size d s) (S:s=[]\/ ∃b off,a=a6 ⟨b,off,a7⟩/\b<c.w.heap.size/\gX c.w b off s)
  (aB:((xs.take k++d).length)*(T.at f).bytes<=140737488355328) (ty:TypeId) (U:e=.int .u8->f=oV):
  ∃c' x,Dk W0 c st c' {st with hp:=iT st.hp id (.arr e (p+1) (xs.take k++d))}/\(Builtin.append_ #[t,t] ty #[v,.slice a d.length m]).run P c.w=.ok x c'.w/\bP c' (.slc id (p+1) a7) x:=by
 obtain⟨_,V,W,B,X,Y⟩:=o.obj id _ y;obtain⟨i,z,Z,ab,ad,hz,ag,aF⟩:=hT.info hk;have ah:z.cells.size=e.size:=by
  have:=congrArg List.length ag;rw[hT.zlen hk,j]at this;simpa using this
 have al:=gp.take k _ _ X;have an:=gp.length _ _ u;have ao:=gp.one _ _ u;have aG:(xs.take k).length=k:=by simp;omega
 have D:c.w.ownsRow W0.heap.size V e.size v k (W.take (k*e.size)):=by
  rw[A]at B;rcases B.2 with ⟨l,e2⟩|⟨g',aH,aI,l,_⟩
  .simp only[Value.slice.injEq]at l;obtain⟨rfl,_,rfl⟩:=l;simp_all [World.ownsRow_nil]
  grind [Y2]
 have au:k+d.length<=maxLen:=by
  have h2:k+d.length<=(k+d.length)*(T.at f).bytes:=bC _ N
  grind [maxLen]
 obtain⟨x,w',l,hr,av,E,G,aw,ax⟩:=QN hT L Z hz ab ad (by rw[ah,j]) (by omega) (by rw[j];exact D) (a:=a) (cp:=m) (by rw[j];exact an) ao (S.imp (fun h=>h) fun⟨b,off,q1,_,q3⟩=>⟨b,off,q1,q3⟩) au
  (by simp_all) o.size ty
 rw[j]at av;have I:v.ownBlock=(c.mu id).v.ownBlock:=by rw[A,O];cases g<;>rfl
 have ay: ∀b,(c.mu id).v.ownBlock=a6 b->W0.heap.size<=b:=fun b hb=>(World.ownsRow.lt D b (I.trans hb)).1;rw[I]at E G;obtain⟨c',d1,d2,d3⟩:=aj2 o J K M y (ws:=xs.take k++d) (by simp_all) (gp.append _ _ _ _ al u) E ay G aw (fun h=>ax.elim (fun q=>q.trans (Y h)) fun q=>q.trans (U h))
 grind
theorem Ls {w:World} {fr:Nat->Prop} (s:List UInt8):gp (fB w fr (.int .u8)) (Ty.int .u8).size (dn s) (Lib.strCells ⟨s.toArray⟩):=by
 induction s with
 |nil=>rfl
 |cons b l d=>
  refine⟨[.int .u8 b.toNat],Lib.strCells ⟨l.toArray⟩,by simp[Lib.strCells],rfl,rfl, ?_⟩
  assumption
theorem amW (hT:TOk P T) (p:c.Ok W0) {cl:Bool} {dst:Option Tmp} {ty:TypeId} {pos:String} {after:Array Edge} {guard:Option (Nat×Bool)} {st:St} {a:Act} {K:bK->St->Option R} {args:Array Operand} {t t':TypeId} {s x:bK} (I:c.hp=st.hp) (W:c.nxt=st.nxt) (X:bH c st.fr a.tmps.toList)
  (A:args.toList.map (gV st.fr)=[s,x]) (h:Ap T cl dst t t' s x st K=a6 r):H9 P W0 c st ⟨dst,.call {callee:=.builtin .append,args:=args,argTypes:=[t,t'].toArray},ty,pos,after,guard⟩ a K r:=by
 obtain⟨al⟩:=args
 match al,A with
 |[B,J],A=>
  simp only[ak,List.map_nil,List.cons.injEq,and_true]at A;obtain⟨rfl,rfl⟩:=A;have m:=dN X B;have D:=dN X J;have aI: ∀w,(execOp a.eval ⟨dst,.call {callee:=.builtin .append,args:=[B,J].toArray,argTypes:=[t,t'].toArray},ty,pos,after,guard⟩).run P w=
    ((Builtin.append_ #[t,t'] ty #[a.eval B,a.eval J]).run P w).andThen fun v E=>.ok (.value v) E:=fun w=>by
   simp[execOp,resolve,invoke,builtin,Sem.run_bind]
  unfold Ap at h;split at h
  .rename_i d y ao au
   rw[au]at D;simp only[bP]at D;have D:=D.str_inv;split at h
   .rename_i Y
    replace h:=dB h;obtain⟨Z,h⟩:=h;simp only[af]at Z;obtain⟨⟨av,aw⟩,ab⟩:=Z;have ad:=Fv hT av;obtain⟨hu,hk,aJ,aK,aO⟩:=qy hT ao aw;have ab:(T.at d).bytes=1:=aj ab;obtain⟨i,z,L,aP,aQ,hz,aS,aU⟩:=hT.info hk;have M:d=oV:=hT.byte hk Y;have ag:i.zero=a6 (.int .u8 0):=by
     rcases(hT d hk).2.2.1 with q|q
     .simp_all
     .rw[Y]at q;have ax:(T.at d).k=.int .u8:=by
       cases hkq:(T.at d).k with
       |int k=>simp_all [lH]
       |struct fs=>
        rw[hkq]at q;simp only[lH]at q;cases fs with
        |nil=>simp[jF]at q
        |cons f l=>
         grind [jF]
       |slice e'=>
        rw[hkq]at q;simp only[lH]at q;cases hq:(T.at e').ty<;>rw[hq]at q<;>simp at q
       |bool=>rw[hkq]at q;cases q
       |str=>rw[hkq]at q;cases q
       |other=>rw[hkq]at q;cases q
       |fn=>rw[hkq]at q;cases q
       |ptr e'=>rw[hkq]at q;cases q
       |map _ _=>rw[hkq]at q;cases q
      exact hT.zero_byte hk ax L
    cases hsv:gV st.fr B with
    |nils=>
     rw[hsv]at h m;simp only at h;simp only[bP]at m;obtain⟨j,h⟩:=gu h;have j:y.length<=140737488355328:=of_decide_eq_true j;obtain⟨v',E,hr,o,g,ah,N⟩:=QO (ty:=ty) hu ad L ag (by omega) (by omega) (World.ownsRow_nil c.w c.w.heap.size d 1) ⟨y.toArray⟩ (by show 0+y.toArray.size<=_;simpa using j) (ae _);obtain⟨id,n',f1,f2,f3,f4⟩:=jc h;have ay:Below c.w.heap.size c.w E:=⟨g.os,g.tape,g.output,g.size,fun k hk=>g.block k hk (by simp[Value.ownBlock])⟩;have az:0+(⟨y.toArray⟩:ByteArray).size=(dn y).length:=by show 0+y.toArray.size=_;simp[dn]
     rw[aA,az]at o;obtain⟨O,S,d2,U⟩:=qX p I W f1 f2 f3 (y:=.int .u8) (by simp[Ty.size]) ay d _ o (Ls y) N (fun _=>M);exact⟨_,_,O,_,f4,S,U,.inl (by simp_all)⟩
    |slc id ver vw=>
     rw[hsv]at h m;simp only at h;split at h
     .rename_i u xs G
      rw[<-I]at G;replace h:=dB h;obtain⟨V,h⟩:=h;have V:u=ver:=by simpa using V
      subst V;split at h
      .replace h:=gu h;obtain⟨j,h⟩:=h;have j:=Az j;simp only[bP]at m;have aB:=(m.2.2 _ _ _ G).2 rfl;simp only[ja]at aB;obtain⟨_,e0,zs,an,hL,aF⟩:=p.obj id _ G;have aG:e0=d:=(aF rfl).trans M.symm;subst aG;have aH:(⟨y.toArray⟩:ByteArray).size=(dn y).length:=by show y.toArray.size=_;simp[dn]
       obtain⟨v',E,hr,o,g,ah,N⟩:=QO (ty:=ty) hu ad L ag (by omega) (by omega) an ⟨y.toArray⟩ (by simp_all) p.size;rw[aH,<-ai]at o;obtain⟨O,S,d2,U⟩:=aj2 p I W (e:=.int .u8) (by simp[Ty.size]) G o (gp.append _ _ _ _ hL (Ls y)) g (fun b hb=>(World.ownsRow.lt an b hb).1) ah N (fun _=>M);exact⟨_,_,O,_,h,S,U,.inl (by simp_all)⟩
      .cases h
     .cases h
    |_=>rw[hsv]at h;cases h
   .cases h
  .cases h
theorem ar1 (hT:TOk P T) (D:c.Ok W0) {cl:Bool} {call:gy R} {o:Oper} {st:St} {a:Act} {K:bK->St->Option R} {args:Array Operand} {ts:Array TypeId} (E:c.hp=st.hp) (U:c.nxt=st.nxt) (aI:bH c st.fr a.tmps.toList)
  (ho:o.op=.call {callee:=.builtin .append,args:=args,argTypes:=ts}) (h:dZ T cl call o st K=a6 r):H9 P W0 c st o a K r:=by
 obtain⟨aV,op,O,aW,aX,aY⟩:=o;simp only at ho;subst ho;simp only[dZ,jY]at h;split at h<;>try (cases h;done)
 all_goals try (rename_i hb _;cases hb;done)
 rename_i s x hb ab
 split at h<;>try (cases h;done)
 rename_i t t' aJ
 obtain⟨ts⟩:=ts;simp only at aJ;subst aJ;rw[cond_eq_ite]at h;split at h
 rotate_left
 .grind [amW]
 rename_i ah
 have ah:t=t':=by simpa using ah
 subst ah;obtain⟨al⟩:=args
 match al,ab with
 |[s0,x0],ab=>
  simp only[ak,List.map_nil,List.cons.injEq,and_true]at ab;obtain⟨rfl,rfl⟩:=ab;have f:=dN aI s0;have hx:=dN aI x0;have aK: ∀w,(execOp a.eval ⟨aV,.call {callee:=.builtin .append,args:=[s0,x0].toArray,argTypes:=[t,t].toArray},O,aW,aX,aY⟩).run P w=
    ((Builtin.append_ #[t,t] O #[a.eval s0,a.eval x0]).run P w).andThen fun v w'=>.ok (.value v) w':=fun w=>by
   simp[execOp,resolve,invoke,builtin,Sem.run_bind]
  unfold Jr at h;split at h
  .rename_i et ad
   split at h
   .rename_i e he
    split at h
    .cases h
    .rename_i j aO
     rw[<-E]at aO;obtain⟨a2,m2,an,aP,l,ag⟩:=abg D aO hx;split at h
     .
      rename_i V
      rw[V]at f;simp only[bP]at f;replace h:=gu h;obtain⟨p,h⟩:=h;simp only[af]at p;obtain⟨y,hk,d,G,I⟩:=qy hT ad p.1;have W:=Az p.2;obtain⟨i,z,J,ao,au,hz,aw,aZ⟩:=hT.info hk;have ax:z.cells.size=e.size:=by
       have:=congrArg List.length aw;rw[hT.zlen hk,d]at this;simpa using this
      have ay:=gp.length _ _ l;have az:=gp.one _ _ l;have aQ:0+j.length<=maxLen:=by
       have h2:j.length<=j.length*(T.at et).bytes:=bC _ I;simp only[maxLen];omega
      obtain⟨v',w',e1,hr,X,L,cb,aB,aF⟩:=QN hT y J hz ao au (by rw[ax,d]) (by omega) (World.ownsRow_nil c.w c.w.heap.size et (T.at et).size) (a:=a2) (cp:=m2) (by rw[d];exact ay) az (ag.imp (fun h=>h) fun⟨b,aS,q1,_,q3⟩=>⟨b,aS,q1,q3⟩) aQ
       (by simp_all) (ae _) O
      rw[d,aA,Nat.zero_add]at X;obtain⟨id,n',f1,f2,f3,f4⟩:=jc h;have bd:Below c.w.heap.size c.w w':=⟨L.os,L.tape,L.output,L.size,fun k hk=>L.block k hk (by simp[Value.ownBlock])⟩;obtain⟨M,A,d2,N⟩:=qX D E U f1 f2 f3 G bd e1 an X l aB (fun q=>(aF.elim (fun q=>q) fun q=>q).trans (hT.byte hk (by rw[he,q])));exact⟨_,_,M,_,f4,A,N,.inl (by simp_all)⟩
     .
      rename_i V
      rw[V]at f;simp only[bP]at f;obtain⟨Y,f⟩:=f;replace h:=gu h;obtain⟨p,h⟩:=h;simp only[af]at p;obtain⟨y,hk,d,G,I⟩:=qy hT ad p.1;have W:=Az p.2;obtain⟨i,z,J,ao,au,hz,aw,aZ⟩:=hT.info hk;have ax:z.cells.size=e.size:=by
       have:=congrArg List.length aw;rw[hT.zlen hk,d]at this;simpa using this
      have ay:=gp.length _ _ l;have az:=gp.one _ _ l;have aQ:0+j.length<=maxLen:=by
       have h2:j.length<=j.length*(T.at et).bytes:=bC _ I;simp only[maxLen];omega
      cases hlt:O1 0 j.length with
      |false=>
       rw[hlt]at h;simp only[ac]at h;have h0:j.length=0:=by simpa [O1] using hlt
       refine⟨.emp,.slice Y 0 0,c,st,h,Dk.refl D E U,by simp only[bP];exact⟨Y,rfl⟩,.inl ?_⟩;rw[aK,f,aP,h0];cases a2<;>cases Y<;>simp[Builtin.append_,run_underlying y,sizeOf,typeInfo,J,Builtin.lenOf,Builtin.firstCells,loadCells,loadCellsFrom,storeCells]
      |true=>
       rw[hlt]at h;simp only[aa]at h;have bf:0<j.length:=by simpa [O1] using hlt
       have bg:an≠[]:=by
        grind [Nat.mul_pos]
       obtain⟨b,aS,rfl,_,hc⟩:=ag.resolve_left bg;obtain⟨v',w',e1,hr,X,L,aB,aF⟩:=aeQ hT y J hz ao au (by rw[ax,d]) (by omega) (w:=c.w) (av:=Y) (cp:=m2) (by rw[d];exact ay) az hc bf (by omega) W O;rw[d]at X;obtain⟨id,n',f1,f2,f3,f4⟩:=jc h;obtain⟨M,A,d2,N⟩:=qX D E U f1 f2 f3 G L e1 an X l aB (fun q=>aF.trans (hT.byte hk (by rw[he,q])));exact⟨_,_,M,_,f4,A,N,.inl (by simp_all)⟩
     .
      rename_i id bi vw V
      rw[V]at f;split at h
      .rename_i e' u xs Z
       rw[<-E]at Z;replace h:=dB h;obtain⟨aG,h⟩:=h;have aG:u=bi:=by simpa using aG
       subst aG;split at h
       .rename_i cc aH
        have bn:=iI aH;cases bn;rw[gB]at aH;cases aH;simp only[bP]at f;have S:=(f.2.2 _ _ _ Z).2 rfl;obtain⟨_,e0,zs,bt,hL,cd⟩:=D.obj id _ Z;obtain⟨g,cp,hv,p,_⟩:=ry bt;split at h
        .replace h:=gu h;obtain⟨B,h⟩:=h;simp only[af]at B;obtain⟨y,hk,d,G,I⟩:=qy hT ad B.1;have W:=Az B.2;simp only[ja]at S;rw[hv]at S;obtain⟨M,v',A,d2,N⟩:=QM hT D E U y hk d G I Z hv (ae _) S (m:=m2) l ag (by simp_all) O (fun q=>hT.byte hk (by rw[he,q]));rw[List.take_length]at A;exact⟨_,_,M,_,h,A,N,.inl (by simp_all)⟩
        .rename_i lo J
         replace h:=gu h;obtain⟨B,h⟩:=h;simp only[af,bT,beq_iff_eq]at B;obtain⟨B,rfl,bu⟩:=B;obtain⟨y,hk,d,G,I⟩:=qy hT ad B;have W:=Az bu;simp only[ja]at S;obtain⟨g',m',ch,aU,p1,p2,p3,S⟩:=S;rw[hv]at aU;cases aU;have bz:a.eval s0=.slice g J.toNat cp:=by
          simp_all [Addr.add]
         obtain⟨M,v',A,d2,N⟩:=QM hT D E U y hk d G I Z hv (k:=J.toNat) (by omega) bz (m:=m2) l ag W O (fun q=>hT.byte hk (by rw[he,q]));exact⟨_,_,M,_,h,A,N,.inl (by rw[aK,aP,d2];rfl)⟩
       .cases h
      .cases h
     .cases h
   .cases h
  .cases h
end
end
section
open Option renaming some → a6, none → a7
open Bool renaming and_eq_true → af
open List renaming append_assoc → ag, length_append → ai, map_cons → ak, nil_append → aA, drop_of_length_le → aK, length_nil → aX
open Nat renaming le_refl → ae, eq_of_beq_eq_true → aj, le_trans → aG
open Go.RowKit
section
variable {P:Program} {T:TT} {W0:World} {c:Cx} {R:Type} {r:R} {t:TypeId}
theorem Hl {cs vs d:List bK} {off:Nat} (h:putCells cs off vs=a6 d):off+vs.length<=cs.length/\d=cs.take off++vs++cs.drop (off+vs.length):=by
 unfold putCells at h;replace h:=dB h;simp_all
theorem OE (hT:TOk P T) (hk:(T.at t).known=true) {w:World} {g o:Nat} {d:Array Value} {e:TypeId} (f:w.heap[g]? =a6 (.cells d e (0,0))) {v:Value} (hl:v.cells.size=(T.at t).size) (h:o+v.cells.size<=d.size)
  (i: ∀u∈v.cells.toList,u.oneCell'=true):
  (Instr.storeAt t (.pointer (a6 ⟨g,o,a7⟩)) v).run P w=.ok () (w.setRow g (d.toList.take o++v.cells.toList++d.toList.drop (o+v.cells.size)).toArray):=by
 have j:=run_storeCells_at P g o e v.cells.toList 0 d w f (by simpa using h) i;simp only[Nat.add_zero,Array.length_toList]at j;simp only[Instr.storeAt,Instr.sureAddr,Sem.run_bind,Sem.run_pure,Result.andThen_ok,storeVar,hT.sizeOf hk w,Sem.run_ite];simp_all
theorem ar4 (hT:TOk P T) (s:c.Ok W0) {dst:Option Nat} {ty:TypeId} {pos} {after} {guard} {st:St} {a:Act} {K:St->Option R} {x y:Operand} (W:c.hp=st.hp) (au:c.nxt=st.nxt) (av:bH c st.fr a.tmps.toList)
  (h:Jw T st t (gV st.fr x) (gV st.fr y) K=a6 r): ∃c' aw,K aw=a6 r/\Dk W0 c st c' aw/\(execOp a.eval ⟨dst,.store t x y,ty,pos,after,guard⟩).run P c.w=.ok .skip c'.w:=by
 simp only[Jw]at h;split at h
 .cases h
 rename_i m aF
 replace h:=dB h;obtain⟨hk,h⟩:=h;simp only[af,beq_iff_eq]at hk;obtain⟨hk,ax⟩:=hk;obtain⟨r1,r2⟩:=LP aF (dN av y);have hl:m.length=(a.eval y).cells.size:=by simpa using bH.length _ _ r1
 have D:=dN av x;have ay: ∀w w',(Instr.storeAt t (a.eval x) (a.eval y)).run P w=.ok () w'->(execOp a.eval ⟨dst,.store t x y,ty,pos,after,guard⟩).run P w=.ok .skip w':=fun w w' hw=>by
  simp_all [execOp]
 split at h
 .rename_i id f ab
  rw[ab]at D;split at h
  .rename_i E cs z
   split at h
   .rename_i bd X
    obtain⟨p1,rfl⟩:=Hl X;rw[<-W]at z;simp only[bP]at D;have hv:=D.2.2 _ _ z;obtain⟨hB,us,h3,h4,h5⟩:=s.obj id _ z;have bf:cs.length=us.size:=by simpa using bH.length _ _ h4
    have G:=OE (o:=f) hT hk h3 (v:=a.eval y) (by rw[<-hl,ax]) (by omega) r2;rw[<-hv]at G;have J:(dJ.box E cs).like (c.mu id) (.box E (cs.take f++m++cs.drop (f+m.length))) (c.mu id):=rfl;have M:c.w.heap.size<=(c.w.setRow (c.mu id).blk (us.toList.take f++(a.eval y).cells.toList++us.toList.drop (f+(a.eval y).cells.size)).toArray).heap.size:=by simp
    have N: ∀b,b<c.w.heap.size->(dJ.box E cs).blk (c.mu id)≠a6 b->(c.w.setRow (c.mu id).blk (us.toList.take f++(a.eval y).cells.toList++us.toList.drop (f+(a.eval y).cells.size)).toArray).heap[b]? =c.w.heap[b]? :=
     fun b _ ad=>setRow_other _ _ _ _ (fun e=>ad (by simp[dJ.blk,e]))
    have O: ∀b,(dJ.box E (cs.take f++m++cs.drop (f+m.length))).blk (c.mu id)=a6 b->(dJ.box E cs).blk (c.mu id)=a6 b\/c.w.heap.size<=b:=fun b A=>.inl A;have S: ∀(b:Nat) (L:Loop),(dJ.box E cs).blk (c.mu id)=a6 b->c.w.heap[b]? =a6 (Obj.loop L)-> ∃L':Loop,(c.w.setRow (c.mu id).blk (us.toList.take f++(a.eval y).cells.toList++us.toList.drop (f+(a.eval y).cells.size)).toArray).heap[b]? =a6 (Obj.loop L'):=fun b L A U=>absurd U ((s.obj id _ z).no_loop (by simp) A);have Y:=Cx.Le.put (w:=c.w.setRow (c.mu id).blk (us.toList.take f++(a.eval y).cells.toList++us.toList.drop (f+(a.eval y).cells.size)).toArray) s z J M N O S;have ah:Below W0.heap.size W0 (c.w.setRow (c.mu id).blk (us.toList.take f++(a.eval y).cells.toList++us.toList.drop (f+(a.eval y).cells.size)).toArray):=
     s.bel.trans ⟨rfl,rfl,rfl,by simp,fun k hk=>setRow_other _ _ _ _ (by omega)⟩
    refine⟨c.put id _ (c.mu id) _,_,h,⟨by simp[Cx.put,W],au,rfl,rfl,s.put z J ah M N O S ?_,Y⟩,ay _ _ G⟩;refine⟨by simp only[Cx.put,upd_same];exact hB,(us.toList.take f++(a.eval y).cells.toList++us.toList.drop (f+(a.eval y).cells.size)).toArray, ?_, ?_, ?_⟩
    .simp only[Cx.put,upd_same]
     grind [setRow_heap]
    .grind [bH.append,bH.take,bH.drop,bH.le]
    grind
   .cases h
  .cases h
 .rename_i id aH i f ab
  rw[ab]at D;split at h
  .rename_i e u j I
   rw[<-W]at I;replace h:=dB h;obtain⟨al,h⟩:=h;have al:u=aH:=by simpa using al
   subst al;replace h:=dB h;obtain⟨V,h⟩:=h;have V:i<j.length:=by simpa [O1] using V
   split at h
   .rename_i cs X
    split at h
    .rename_i x' aI
     simp only[bP]at D;obtain⟨B,n',aJ,q1,q2⟩:=(D.2.2 _ _ _ I).2 rfl;obtain⟨aO,e0,zs,an,U,aP⟩:=s.obj id _ I;rcases an.2 with ⟨Z,e2⟩|⟨g,bg,l,Z,e2,e3,e4,e5,e6,e7⟩
     .omega
     rw[q1]at Z;simp only[Value.slice.injEq,Option.some.injEq,Addr.mk.injEq,and_true]at Z;obtain⟨rfl,rfl,rfl⟩:=Z;obtain⟨d,d1,d2,p,q,d3,d4⟩:=gp.at_ i j zs V U;have aQ:j.getD i e.dflt=j[i]:=by simp[List.getD,V]
     rw[aQ]at X;obtain⟨p1,rfl⟩:=Hl X;have hf:=DU (c:=c) e _ _ d2;have bi:=bH.length _ _ hf;have bn:f+m.length<=d.length:=by omega
     have aS:=bH.append _ _ _ _ (bH.append _ _ _ _ (bH.take f _ _ hf) r1) (bH.drop (f+m.length) _ _ hf);have az:=oL aI aS;have aU:=fB.length _ _ _ az;have ao:l.toList=p++d++q++l.toList.drop (j.length*e.size):=by
      grind [List.take_append_drop]
     have z:l.size=j.length*e.size+(l.toList.drop (j.length*e.size)).length:=by
      have h1:=congrArg List.length ao;have h2:=congrArg List.length d3;rw[an.1]at h2
      grind
     have aB:=congrArg List.length d3;rw[an.1]at aB;simp only[ai]at aB;have G:=OE (o:=i*e.size+f) hT hk e3 (v:=a.eval y) (by rw[<-hl,ax]) (by omega) r2;rw[<-q2]at G;have aV:l.toList.take (i*e.size+f)++(a.eval y).cells.toList++l.toList.drop (i*e.size+f+(a.eval y).cells.size)=p++(d.take f++(a.eval y).cells.toList++d.drop (f+m.length))++q++l.toList.drop (j.length*e.size):=by
      have t1:l.toList.take (i*e.size+f)=p++d.take f:=by
       rw[ao,ag,ag,List.take_append,List.take_of_length_le (by omega),d4,Nat.add_sub_cancel_left,List.take_append_of_le_length (by omega)]
      have t2:l.toList.drop (i*e.size+f+(a.eval y).cells.size)=d.drop (f+m.length)++q++l.toList.drop (j.length*e.size):=by
       conv=>lhs;rw[ao]
       rw[ag,ag,List.drop_append,aK (by omega),aA,d4,List.drop_append,List.drop_append];have z1:i*e.size+f+(a.eval y).cells.size-i*e.size=f+m.length:=by omega
       have z2:f+m.length-d.length=0:=by omega
       rw[z1,z2];simp
      rw[t1,t2];simp
     rw[aV]at G;have aW:=gp.set x' (d.take f++(a.eval y).cells.toList++d.drop (f+m.length)) aU az i j p d q V (by grind) d4 d1;generalize d.take f++(a.eval y).cells.toList++d.drop (f+m.length)=d' at*;have J:(dJ.arr e u j).like (c.mu id) (.arr e u (ik j i x')) (c.mu id):=⟨ae _,fun _=>⟨rfl,rfl⟩⟩;have aY:(dJ.arr e u j).blk (c.mu id)=a6 B:=by simp[dJ.blk,q1,Value.ownBlock]
     have M:c.w.heap.size<=(c.w.setRow B (p++d'++q++l.toList.drop (j.length*e.size)).toArray).heap.size:=by simp
     have N: ∀b,b<c.w.heap.size->(dJ.arr e u j).blk (c.mu id)≠a6 b->(c.w.setRow B (p++d'++q++l.toList.drop (j.length*e.size)).toArray).heap[b]? =c.w.heap[b]? :=
      fun b _ ad=>setRow_other _ _ _ _ (fun e=>ad (by rw[aY,e]))
     have O: ∀b,(dJ.arr e u (ik j i x')).blk (c.mu id)=a6 b->(dJ.arr e u j).blk (c.mu id)=a6 b\/c.w.heap.size<=b:=fun b A=>.inl A;have S: ∀(b:Nat) (L:Loop),(dJ.arr e u j).blk (c.mu id)=a6 b->c.w.heap[b]? =a6 (Obj.loop L)-> ∃L':Loop,(c.w.setRow B (p++d'++q++l.toList.drop (j.length*e.size)).toArray).heap[b]? =a6 (Obj.loop L'):=fun b L A U=>absurd U ((s.obj id _ I).no_loop (by simp) A);have Y:=Cx.Le.put (w:=c.w.setRow B (p++d'++q++l.toList.drop (j.length*e.size)).toArray) s I J M N O S;have ah:Below W0.heap.size W0 (c.w.setRow B (p++d'++q++l.toList.drop (j.length*e.size)).toArray):=
      s.bel.trans ⟨rfl,rfl,rfl,by simp,fun k hk=>setRow_other _ _ _ _ (by omega)⟩
     refine⟨c.put id _ (c.mu id) _,_,h,⟨by simp[Cx.put,W],au,rfl,rfl,s.put I J ah M N O S ?_,Y⟩,ay _ _ G⟩;refine⟨aO,e0,p++d'++q, ?_,gp.mono (fB.mono Y.free e) _ _ aW,aP⟩;have aZ:(p++d'++q).length=j.length*e.size:=by
      grind
     simp only[Cx.put,upd_same,ik,List.length_set];refine⟨aZ,.inr ⟨B,aJ,_,q1,e2,setRow_heap c.w _ l _ e0 _ e3,e4,e5, ?_, ?_⟩⟩
     all_goals grind
    .cases h
   .cases h
  .cases h
 .cases h
theorem Hg {w:World} {B:Nat} {e:TypeId} {size n:Nat} {v d:Value} {i:List Value} (h:w.ownsRow B e size v n i) {hi:Int} (D:0<=hi) (E:hi<=n) (s:ja size v (a6 (0,hi)) d):
  w.ownsRow B e size d hi.toNat (i.take (hi.toNat*size))/\ ∀b,d.ownBlock=a6 b->v.ownBlock=a6 b:=by
 obtain⟨a,m,cp,j,_,_,G,u⟩:=s;have hk:hi.toNat<=n:=by omega
 have q:(i.take (hi.toNat*size)).length=hi.toNat*size:=by
  rw[List.length_take,h.1];simp_all
 rcases h.2 with ⟨f,l⟩|⟨g,I,x,f,l,y,J,z,A,K⟩
 .rw[j]at f;cases f;subst l;have:hi.toNat=0:=by omega
  have o:d=.slice a7 0 0:=by rw[u,this];rfl
  subst o;refine⟨⟨q,.inl ⟨rfl,this⟩⟩,fun b p=>by cases p⟩
 .rw[j]at f;cases f;have o:d=.slice (a6 ⟨g,0,a7⟩) hi.toNat cp:=by
   grind [Addr.add]
  subst o;subst j;refine⟨⟨q,.inr ⟨g,cp,x,rfl,l,y,by omega,z,A, ?_⟩⟩,fun b p=>p⟩
  grind
theorem avZ {st:St} {c':Cx} {j:St} (hd:Dk W0 c st c' j) {id off i:Nat} {l:TypeId} {cs:List bK} {e:Ty} {w:Nat} {xs:List e.den} {hi:Int} (al:id≠i)
  (s:dM j.hp id=a6 (.box l cs)) (g:dM j.hp i=a6 (.arr e w xs)) (an:cs.getD off .undef=.slc i w (a6 (0,hi))):
  ∃u,Dk W0 c st u {j with hp:=iT (iT j.hp i (.arr e (w+1) (xs.take hi.toNat))) id (.box l (cs.set off (.slc i (w+1) a7)))}/\u.w=c'.w:=by
 have m:=hd.ok;rw[<-hd.hp]at s g;obtain⟨hB,us,h3,v,G⟩:=m.obj id _ s;have ao:cs.length=us.toList.length:=bH.length _ _ v;have au:off<cs.length:=by
  grind
 have av:off<us.toList.length:=by omega
 have I:bP c' (.slc i w (a6 (0,hi))) us.toList[off]:=by
  have:=bH.getD v off;simp_all
 obtain⟨J,K,M,x,d,N⟩:=m.obj i _ g;have o:=I;simp only[bP]at o;have y:=(o.2.2 _ _ _ g).2 rfl;have⟨O,S⟩:0<=hi/\hi<=bG xs:=by
  obtain⟨a1,n1,f,z,_,U,V,_⟩:=y;obtain⟨a2,c2,W,_⟩:=ry x;rw[W]at z;cases z;exact⟨U,V⟩
 obtain⟨aw,A⟩:=Hg x O S y;have hk:(dJ.arr e w xs).like (c'.mu i) (.arr e (w+1) (xs.take hi.toNat)) ⟨(c'.mu i).blk,us.toList[off]⟩:=⟨by omega,fun e=>by omega⟩;have B:=Cx.Le.put (w:=c'.w) m g hk (ae _) (fun _ _ _=>rfl) (fun b h=>.inl (A b h)) (fun b L _ d=>⟨L,d⟩);have p:=Cx.Ok.put (w:=c'.w) m g hk m.bel (ae _) (fun _ _ _=>rfl) (fun b h=>.inl (A b h)) (fun b L _ d=>⟨L,d⟩) (by
  refine⟨J,K,M.take (hi.toNat*e.size), ?_,gp.take _ _ _ (gp.mono (fB.mono B.free e) _ _ d),N⟩;simp_all [bG,Cx.put,upd_same])
 have ax:bP (c'.put i (dJ.arr e (w+1) (List.take hi.toNat xs)) ⟨(c'.mu i).blk,us.toList[off]⟩ c'.w) (.slc i (w+1) a7) us.toList[off]:=by
  simp only[bP];refine⟨o.1,.inl ⟨_,Cx.put_get g⟩,fun t' u' ay X=> ?_⟩;rw[Cx.put_get g]at X;simp_all [ja,Cx.put,upd_same]
 have D:dM (c'.put i (dJ.arr e (w+1) (List.take hi.toNat xs)) ⟨(c'.mu i).blk,us.toList[off]⟩ c'.w).hp id=a6 (.box l cs):=by
  simp only[Cx.put,jf]
  grind
 have az:(c'.put i (dJ.arr e (w+1) (List.take hi.toNat xs)) ⟨(c'.mu i).blk,us.toList[off]⟩ c'.w).mu id=c'.mu id:=by
  simp_all [Cx.put,upd_ne]
 generalize q:c'.put i (dJ.arr e (w+1) (List.take hi.toNat xs)) ⟨(c'.mu i).blk,us.toList[off]⟩ c'.w=f at*;have Y:f.w=c'.w:=by rw[<-q];rfl
 have Z:f.hp=iT c'.hp i (.arr e (w+1) (xs.take hi.toNat)):=by rw[<-q];rfl
 have ab:f.nxt=c'.nxt:=by rw[<-q];rfl
 have E:(dJ.box l cs).like (f.mu id) (.box l (cs.set off (.slc i (w+1) a7))) (f.mu id):=rfl;have ad:=Cx.Le.put (w:=f.w) p D E (ae _) (fun _ _ _=>rfl) (fun b h=>.inl h) (fun b L _ d=>⟨L,d⟩);have ah:=Cx.Ok.put (w:=f.w) p D E p.bel (ae _) (fun _ _ _=>rfl) (fun b h=>.inl h) (fun b L _ d=>⟨L,d⟩) (by
  refine⟨by simp_all [Cx.put,upd_same],us,by simp_all [Cx.put,upd_same], ?_,G⟩
  grind [bH.le,bH.setL])
 refine⟨_,⟨?_, ?_,hd.fr,hd.stk,ah,(hd.le.trans B).trans ad⟩,Y⟩
 .simp only[Cx.put];rw[Z,hd.hp]
 .show f.nxt=j.nxt;rw[ab,hd.nxt]
theorem amB {g:gG} {st:St} {x y:bK} {K:St->Option R} {c':Cx} {f:St} (hd:Dk W0 c st c' f) (h:aco g f x y K=a6 r): ∃d e,K e=a6 r/\Dk W0 c st d e/\d.w=c'.w:=by
 have same:K f=a6 r-> ∃d e,K e=a6 r/\Dk W0 c st d e/\d.w=c'.w:=fun h=>⟨c',f,h,hd,rfl⟩;unfold aco at h;split at h
 .split at h
  .split at h
   .rw[cond_eq_ite]at h;split at h
    .rename_i i
     simp only[af,Bool.not_eq_true']at i;split at h
     .rename_i l m
      split at h
      .rename_i o
       rw[cond_eq_ite]at h;split at h
       .rename_i j
        simp only[af,beq_iff_eq]at j
        grind [aj,avZ]
       .exact same h
      .exact same h
     .exact same h
    .exact same h
   .exact same h
  .exact same h
 .exact same h
theorem awU (hT:TOk P T) (l:c.Ok W0) {cl:Bool} {call:gy R} {o:Oper} {st:St} {a:Act} {K:bK->St->Option R} {x y:Operand} (m:c.hp=st.hp) (p:c.nxt=st.nxt) (q:bH c st.fr a.tmps.toList)
  (d:o.op=.store t x y) (h:dZ T cl call o st K=a6 r):H9 P W0 c st o a K r:=by
 obtain⟨e,E,f,g,i,j⟩:=o;simp only at d;subst d;simp only[dZ]at h;obtain⟨G,I,s,hd,u⟩:=ar4 (dst:=e) (ty:=f) (pos:=g) (after:=i) (guard:=j) hT l m p q h;obtain⟨v,z,A,B,D⟩:=amB hd s;exact⟨_,undef,v,z,A,B,by simp[bP],.inr ⟨by rw[D];exact u,rfl⟩⟩
theorem Vt (w:World) (t d ty:TypeId) (B size n:Nat) (v:Value) (f:List Value) (e:TypeId) (h:w.ownsRow B e size v n f) (i:P.underlying ty=a6 (.pointer d)):
  ∃u w',(Builtin.unsafeSliceData_ #[t] ty #[v]).run P w=.ok u w'/\Below w.heap.size w w'/\u.oneCell'=true/\(∃p,u=.pointer p)/\ ∀a m cp,v=.slice a m cp->m≠0->u=.pointer a:=by
 rcases h.2 with ⟨rfl,rfl⟩|⟨g,j,l,rfl,_,o,s,_⟩
 .exact⟨_,w,Lib.run_unsafeSliceData_nil w _ _ 0 0,Below.refl _ _,rfl,⟨_,rfl⟩,fun a m cp h q=>by simp_all⟩
 .by_cases hc:j=0
  .subst hc;refine⟨_,_,Lib.run_unsafeSliceData_zero w _ _ d i ⟨g,0,a7⟩ n (e,l.size) (by simp[World.shape?,o]),nS _ _,rfl,⟨_,rfl⟩,fun a m cp h q=> ?_⟩;cases h;omega
  .exact⟨_,w,Lib.run_unsafeSliceData_row w _ _ _ _ _ hc,Below.refl _ _,rfl,⟨_,rfl⟩,fun a m cp h _=>by cases h;rfl⟩
theorem ade (hT:TOk P T) (q:c.Ok W0) {cl:Bool} {call:gy R} {o:Oper} {st:St} {a:Act} {K:bK->St->Option R} {args:Array Operand} {i:Array TypeId} (s:c.hp=st.hp) (E:c.nxt=st.nxt) (G:bH c st.fr a.tmps.toList)
  (x:o.op=.call {callee:=.builtin .unsafeSliceData,args:=args,argTypes:=i}) (h:dZ T cl call o st K=a6 r):H9 P W0 c st o a K r:=by
 obtain⟨I,op,j,J,L,M⟩:=o;simp only at x;subst x;simp only[dZ,jY]at h;split at h<;>try (cases h;done)
 all_goals try (rename_i y _;cases y;done)
 rename_i id an y f
 split at h<;>try (cases h;done)
 rename_i t z
 split at h<;>try (cases h;done)
 rename_i e v N d
 rw[cond_eq_ite]at h;split at h
 .rename_i A
  simp only[af,beq_iff_eq]at A;obtain⟨rfl,ao,O⟩:=A;obtain⟨i⟩:=i;simp only at z;subst z;obtain⟨S⟩:=args
  match S with
  |[]=>simp at f
  |_::_::_=>simp at f
  |[l]=>
   simp only[ak,List.map_nil,List.cons.injEq,and_true]at f;have m:=dN G l;rw[f]at m;simp only[bP]at m;rw[<-s]at d;have B:=(m.2.2 _ _ _ d).2 rfl;simp only[ja]at B;obtain⟨_,U,V,W,hL,au⟩:=q.obj id _ d;obtain⟨X,Y⟩:=hT.isPtr O;obtain⟨u,p,Z,D,ab,hp,ad⟩:=Vt c.w t X j W0.heap.size e.size N.length (c.mu id).v V U W Y;refine⟨_,u,c.at_ p,st,h,⟨s,E,rfl,rfl,q.ext D,Cx.Le.ext D⟩, ?_,.inl ?_⟩
   .simp only[bP];refine⟨ab,.inl ⟨_,d⟩,fun t' u' ah g=> ?_⟩;have g:dM c.hp id=a6 (.arr t' u' ah):=g;rw[d]at g;cases g;exact⟨ae _,fun _=>⟨hp,ad⟩⟩
   .have:(execOp a.eval ⟨I,.call {callee:=.builtin .unsafeSliceData,args:=[l].toArray,argTypes:=[t].toArray},j,J,L,M⟩).run P c.w=
      ((Builtin.unsafeSliceData_ #[t] j #[a.eval l]).run P c.w).andThen fun v p=>.ok (.value v) p:=by
     simp[execOp,resolve,invoke,builtin,Sem.run_bind]
    rw[this,B,Z];rfl
 .cases h
theorem avH {w:World} {fr:Nat->Prop} (xs:List Int) (d:List Value) (h:gp (fB w fr (.int .u8)) 1 xs d):d=xs.map (.int .u8):=BP xs d h
theorem KQ (w:World): ∀(xs:List Int) (a:Addr) (d:ByteArray),(∀j x,xs[j]? =a6 x->w.cell? (a.add j)=a6 (.int .u8 x))->(loadBytes a d xs.length).run P w=.ok (xs.foldl (fun r n=>r.push (UInt8.ofNat n.toNat)) d) w
 |[],a,d,_=>by simp[loadBytes]
 |x::xs,a,d,h=>by
  have f:w.cell? a=a6 (.int .u8 x):=by
   have:=h 0 x rfl
   assumption
  have g:=KQ w xs (a.add 1) (d.push (UInt8.ofNat x.toNat)) fun j y e=>by
   have:=h (j+1) y (by simpa using e)
   grind [Addr.add]
  simp_all [loadBytes]
theorem Ue {d it ty e:TypeId} (hp:P.underlying d=a6 (.pointer e)) (h:P.cellsOf e=1) (w:World) (g cells:Nat) (i:w.shape? g=a6 (e,cells)) (xs:List Int) (l:xs≠[]) (B:xs.length<=cells) (D:xs.length<=9223372036854775807)
  (m: ∀j x,xs[j]? =a6 x->w.cell? ((⟨g,0,a7⟩:Addr).add j)=a6 (.int .u8 x)):
  (Builtin.unsafeString_ #[d,it] ty #[.pointer (a6 ⟨g,0,a7⟩),.int .i64 xs.length]).run P w=.ok (.string ⟨(ofBytes xs).toArray⟩) (w.freeze ⟨g,0,a7⟩ xs.length):=by
 have o:xs.length≠0:=by simpa using l
 have p:=KQ (P:=P) w xs ⟨g,0,a7⟩ .empty m;have q:=Lib.liesAt_bytes (P:=P) h (cells/P.cellsOf e) xs.length (by simp_all);have u: ¬(9223372036854775807:Int)<(xs.length:Int):=by omega
 have v:Builtin.unsafeString_ #[d,it] ty #[.pointer (a6 ⟨g,0,a7⟩),.int .i64 xs.length]=
   (do
    let n<-asInt (.int .i64 xs.length)
    if n<0 then runtimePanic (.error "unsafe.String: len out of range")
    if n>IntKind.i64.max then unsupported (.unsafePointer "String: a length above the largest int")
    if n=0 then pure (.string .empty)
    else if<-variablesAt ⟨g,0,a7⟩ (<-elemOf d) n.toNat then do
     let s<-loadBytes ⟨g,0,a7⟩ .empty n.toNat
     freeze ⟨g,0,a7⟩ n.toNat
     pure (.string s)
    else unsupported (.unsafePointer "String: not so many bytes at ptr")):=rfl
 rw[v];have y:IntKind.i64.max=9223372036854775807:=rfl;have z: ¬(xs.length:Int)<0:=by omega
 have f:=Me xs [];have A:(⟨([]:List UInt8).toArray⟩:ByteArray)=.empty:=rfl;rw[A]at f;simp[asInt,asIntOf,y,u,z,o,variablesAt,i,elemOf,run_underlying hp,q,p];exact f
theorem ada (d:c.Ok W0) {st:St} (u:c.hp=st.hp) (x:c.nxt=st.nxt) {id f:Nat} {e:Ty} {xs:List e.den} (i:dM c.hp id=a6 (.arr e f xs)) {w':World} (j:c.w.heap.size<=w'.heap.size)
  (m: ∀b,(c.mu id).v.ownBlock≠a6 b->w'.heap[b]? =c.w.heap[b]?) (l:w'.os=c.w.os/\w'.tape=c.w.tape/\w'.output=c.w.output):
  ∃c',Dk W0 c st c' {st with hp:=iT st.hp id .dead}/\c'.w=w':=by
 have o:(dJ.arr e f xs).like (c.mu id) .dead (c.mu id):=trivial;have p: ∀(b:Nat) (L:Loop),(dJ.arr e f xs).blk (c.mu id)=a6 b->c.w.heap[b]? =a6 (Obj.loop L)-> ∃y:Loop,w'.heap[b]? =a6 (Obj.loop y):=fun b L g z=>absurd z ((d.obj id _ i).no_loop (by simp) g);have q: ∀b,dJ.dead.blk (c.mu id)=a6 b->(dJ.arr e f xs).blk (c.mu id)=a6 b\/c.w.heap.size<=b:=fun b g=>by cases g
 have s: ∀b,b<c.w.heap.size->(dJ.arr e f xs).blk (c.mu id)≠a6 b->w'.heap[b]? =c.w.heap[b]? :=fun b _ A=>m b A;have B:Below W0.heap.size W0 w':=by
  refine⟨l.1.trans d.bel.os,l.2.1.trans d.bel.tape,l.2.2.trans d.bel.output,aG d.bel.size j,fun b g=>(m b fun h=> ?_).trans (d.bel.block b g)⟩;have:=((d.obj id _ i).lt (b:=b) h).1;omega
 have D:=Cx.Le.put (w:=w') d i o j s q p;exact⟨c.put id .dead (c.mu id) w',⟨by simp[Cx.put,u],x,rfl,rfl,d.put i o B j s q p trivial,D⟩,rfl⟩
theorem SA (hT:TOk P T) (y:c.Ok W0) {cl:Bool} {call:gy R} {o:Oper} {st:St} {a:Act} {K:bK->St->Option R} {args:Array Operand} {z:Array TypeId} (A:c.hp=st.hp) (U:c.nxt=st.nxt) (V:bH c st.fr a.tmps.toList)
  (W:o.op=.call {callee:=.builtin .unsafeString,args:=args,argTypes:=z}) (h:dZ T cl call o st K=a6 r):H9 P W0 c st o a K r:=by
 obtain⟨ao,op,l,au,av,aw⟩:=o;simp only at W;subst W;simp only[dZ,jY]at h;split at h<;>try (cases h;done)
 all_goals try (rename_i u _;cases u;done)
 rename_i id aU n u f
 split at h<;>try (cases h;done)
 rename_i B m X
 split at h<;>try (cases h;done)
 rename_i v d q
 rw[cond_eq_ite]at h;split at h
 .rename_i Y
  simp only[af,beq_iff_eq]at Y;obtain⟨rfl,ax⟩:=Y;replace h:=gu h;obtain⟨D,h⟩:=h;have D:n=(d.length:Int):=by simpa [bT,bG] using D
  subst D;obtain⟨z⟩:=z;simp only at X;subst X;obtain⟨al⟩:=args
  match al with
  |[]=>simp at f
  |[_]=>simp at f
  |_::_::_::_=>simp at f
  |[E,G]=>
   simp only[ak,List.map_nil,List.cons.injEq,and_true]at f;have I:=dN V E;have i:=dN V G;rw[f.1]at I;rw[f.2]at i;simp only[bP]at I i;have i:=i.int_inv;rw[<-A]at q;obtain⟨hp,ay⟩:=(I.2.2 _ _ _ q).2 rfl;obtain⟨_,e0,Z,ab,hL,J⟩:=y.obj id _ q;have J:=J rfl;obtain⟨az,aB⟩:=hT.isBytes ax;have ad:(execOp a.eval ⟨ao,.call {callee:=.builtin .unsafeString,args:=[E,G].toArray,argTypes:=[B,m].toArray},l,au,av,aw⟩).run P c.w=
     ((Builtin.unsafeString_ #[B,m] l #[a.eval E,a.eval G]).run P c.w).andThen fun v L=>.ok (.value v) L:=by
    simp[execOp,resolve,invoke,builtin,Sem.run_bind]
   have aF:Z=d.map (.int .u8):=BP d Z hL;by_cases hx:d=[]
   .subst hx;obtain⟨p,hp⟩:=hp;obtain⟨M,N,O⟩:=ada y A U q (w':=c.w) (ae _) (fun _ _=>rfl) ⟨rfl,rfl,rfl⟩;refine⟨_,.string .empty,M,_,h,N, ?_,.inl ?_⟩
    .simp only[bP];exact VD.str_mk
    .rw[ad,hp,i];have:=Lib.run_unsafeString_none (P:=P) c.w B m l p;simp only[aX,Int.natCast_zero]at this ⊢;rw[this,O];rfl
   .have s:d.length≠0:=by simpa using hx
    rcases ab.2 with ⟨_,h0⟩|⟨g,aH,ah,S,aV,hg,aW,aI,an,aY⟩
    .exact absurd h0 s
    .have hp:=ay _ _ _ S s;have aJ: ∀b,(c.mu id).v.ownBlock≠a6 b->(c.w.freeze ⟨g,0,a7⟩ d.length).heap[b]? =c.w.heap[b]? :=fun b u=>by
      have aO:g≠b:=fun e=>u (by rw[S,<-e];rfl);unfold World.freeze;rw[aq s];simp only[Array.getElem?_modify];rw[aq aO]
     have aP:(c.w.freeze ⟨g,0,a7⟩ d.length).heap.size=c.w.heap.size:=by
      unfold World.freeze;rw[aq s];simp
     have aQ:(c.w.freeze ⟨g,0,a7⟩ d.length).os=c.w.os/\(c.w.freeze ⟨g,0,a7⟩ d.length).tape=c.w.tape/\(c.w.freeze ⟨g,0,a7⟩ d.length).output=c.w.output:=by
      unfold World.freeze;rw[aq s];exact⟨rfl,rfl,rfl⟩
     obtain⟨M,N,O⟩:=ada y A U q (w':=c.w.freeze ⟨g,0,a7⟩ d.length) (Nat.le_of_eq aP.symm) aJ aQ;refine⟨_,.string ⟨(ofBytes d).toArray⟩,M,_,h,N, ?_,.inl ?_⟩
     .simp only[bP];exact VD.str_mk
     .rw[ad,hp,i];have aS: ∀j x,d[j]? =a6 x->c.w.cell? ((⟨g,0,a7⟩:Addr).add j)=a6 (.int .u8 x):=fun j x hj=>by
       have:=ab.cells (g:=g) (by rw[S];rfl) j (.int .u8 x) (by rw[aF];simp[hj]);exact this
      have an:ah.size=aH:=by simpa [Ty.size] using an
      rw[Ue (ty:=l) (it:=m) az aB c.w g ah.size (by rw[<-J];simp[World.shape?,hg]) d hx (by omega) (by unfold maxLen at aI;omega) aS,O];rfl
 .cases h
end
end
section
open Option renaming some → a6, none → a7
open Bool renaming and_eq_true → af
open List renaming map_cons → ak, cons_append → aW
open Go.RowKit
theorem RG {d l:IntKind} {a:Int}: ∀(f:List MapEntry) (g:List (Int×Int)) (i:Nat),f.map (fun e=>(e.key,e.val))=g.map (fun p=>(Value.int d p.1,Value.int l p.2))->
  (Eg g a=a7/\Instr.findNow (.int d) (.int d a) f i=a6 a7/\ ∀b cl,(f++[(⟨.int d a,.int l b,cl⟩:MapEntry)]).map (fun e=>(e.key,e.val))=(vz g a b).map (fun p=>(Value.int d p.1,Value.int l p.2)))\/
  ∃v j,Eg g a=a6 v/\Instr.findNow (.int d) (.int d a) f i=a6 (a6 (i+j,.int l v))/\(∃o,f[j]? =a6 o/\o.key=.int d a)/\
   ∀b,(f.modify j (fun e=>{e with key:=.int d a,val:=.int l b})).map (fun e=>(e.key,e.val))=(vz g a b).map (fun p=>(Value.int d p.1,Value.int l p.2))
 |[],[],i,_=>.inl ⟨rfl,rfl,fun b cl=>rfl⟩
 |[],_::_,_,h=>by simp at h
 |_::_,[],_,h=>by simp at h
 |e::f,(k,v)::g,i,h=>by
  simp only[ak,List.cons.injEq,Prod.mk.injEq]at h;obtain⟨⟨s,x⟩,u⟩:=h;have q:Instr.sameNow (.int d) (.int d a) e.key=a6 (a==k):=by rw[s];simp[Instr.sameNow]
  by_cases hak:a=k
  .subst hak;refine .inr ⟨v,0,by simp[Eg,bT], ?_,⟨e,rfl,s⟩,fun b=> ?_⟩
   .simp[Instr.findNow,q,x]
   .simp[vz,bT,u]
  .have m:(a==k)=false:=by simpa using hak
   rw[m]at q;rcases RG (a:=a) f g (i+1) u with ⟨g1,g2,g3⟩|⟨y,j,g1,g2,⟨o,g3,g4⟩,g5⟩
   .refine .inl ⟨by simp[Eg,bT,m,g1],by simp[Instr.findNow,q,g2],fun b cl=> ?_⟩;have:=g3 b cl;simp only[vz,bT,m,ac,aW,ak,List.cons.injEq,Prod.mk.injEq];simp_all
   .refine .inr ⟨y,j+1,by simp[Eg,bT,m,g1], ?_,⟨o,by simpa using g3,g4⟩,fun b=> ?_⟩
    .grind [Instr.findNow]
    .have:=g5 b;simp only[vz,bT,m,ac,List.modify_succ_cons,ak,List.cons.injEq,Prod.mk.injEq];simp_all
section
variable {P:Program} {T:TT} {W0:World} {c:Cx} {R:Type} {r:R} {t:TypeId}
theorem Tf (hT:TOk P T) {a b:IntKind} (h:T.mapOf t=a6 (a,b)): ∃k e,P.underlying t=a6 (.map k e)/\P.underlying k=a6 (.int a)/\ ∃i,P.info? e=a6 i/\i.zero=a6 (.int b 0):=by
 unfold TT.mapOf at h;replace h:=dB h;obtain⟨hk,h⟩:=h;split at h
 .rename_i k e g
  replace h:=dB h;obtain⟨d,h⟩:=h;simp only[af]at d;split at h
  .rename_i m o j l
   cases h;obtain⟨i,z,f,_⟩:=hT.info d.2;exact⟨k,e,hT.map hk g,hT.int d.1 j,i,f,hT.zero_int d.2 l f⟩
  .cases h
 .cases h
theorem aCW (g:c.Ok W0) {st:St} (h:c.hp=st.hp) (h2:c.nxt=st.nxt) {id n':Nat} (j:dM st.hp id=a7) (m:st.nxt<=id) (s:st.nxt<=n') (d e:IntKind):
  ∃c',Dk W0 c st c' {st with hp:=(id,.mp d e [])::st.hp,nxt:=n'}/\c'.w=c.w.alloc (.map #[] 0)/\bP c' (.mpv id) (.map (a6 c.w.heap.size)):=by
 have hk:=AZ h h2 j m;have f:=nS c.w (.map #[] 0);have i: ∀b,dJ.blk (.mp d e []) ⟨c.w.heap.size,undef⟩=a6 b->c.w.heap.size<=b:=fun b f=>by
  simp_all [dJ.blk]
 have p:=Cx.Le.push (o:=.mp d e []) (l:=⟨c.w.heap.size,undef⟩) (nxt:=n') (w:=c.w.alloc (.map #[] 0)) hk (by omega) f.size f.block i;have q:(c.push id (.mp d e []) ⟨c.w.heap.size,undef⟩ n' (c.w.alloc (.map #[] 0))).ORel W0.heap.size id (.mp d e []):=by
  refine⟨by simp[Cx.push,upd_same];exact g.size,#[],0, ?_,rfl⟩;simp only[Cx.push,upd_same];exact heap_alloc_new c.w _
 refine⟨_,⟨?_,rfl,rfl,rfl,g.push hk (by omega) f i q,p⟩,rfl, ?_⟩
 .simp[Cx.push,h]
 .simp only[bP];refine⟨rfl,.inl ⟨.mp d e [],by simp[Cx.push,dY]⟩,fun _ _ _ _=>by simp[Cx.push,upd_same]⟩
theorem amX (hT:TOk P T) (e:c.Ok W0) {cl:Bool} {call:gy R} {o:Oper} {st:St} {a:Act} {K:bK->St->Option R} {f:Option Operand} (g:c.hp=st.hp) (i:c.nxt=st.nxt) (d:o.op=.makeMap t f)
  (h:dZ T cl call o st K=a6 r):H9 P W0 c st o a K r:=by
 obtain⟨y,z,A,B,D,E⟩:=o;simp only at d;subst d;simp only[dZ]at h;split at h
 .rename_i j l G
  obtain⟨id,I,m,p,q,u⟩:=jc h;obtain⟨J,v,L,x⟩:=aCW e g i m p q j l;refine qW (s:=Instr.makeMap t a7) rfl u v x (by simp_all [Instr.makeMap])
 .cases h
theorem ar2 (hT:TOk P T) (f:c.Ok W0) {cl:Bool} {call:gy R} {o:Oper} {st:St} {a:Act} {K:bK->St->Option R} {x y:Operand} {ok:Bool} (g:c.hp=st.hp) (q:c.nxt=st.nxt) (z:bH c st.fr a.tmps.toList) (A:o.op=.lookup t x y ok)
  (h:dZ T cl call o st K=a6 r):H9 P W0 c st o a K r:=by
 obtain⟨Z,op,ty,ab,ad,ae⟩:=o;simp only at A;subst A;simp only[dZ]at h;split at h
 .rename_i kk vk id L M
  split at h
  .rename_i ag d N B n l O
   replace h:=dB h;obtain⟨hk,h⟩:=h;simp only[af,decide_eq_true_eq]at hk;obtain⟨rfl,rfl,rfl⟩:=hk;obtain⟨kt,S,D,e,i,U,V⟩:=Tf hT L;have m:=dN z x;rw[M]at m;simp only[bP]at m;rw[<-g]at l;have E:=m.2.2 _ _ _ l;obtain⟨hB,W,ah,G,X⟩:=f.obj id _ l;have p:=dN z y;rw[O]at p;simp only[bP]at p;have I:=p.int_inv;have Y:(zeroValue S).run P c.w=.ok (.int d 0) c.w:=by simp[zeroValue,typeInfo,U,V]
   have J:MapKept.IsKey (.int B) (.int B n):=rfl;rcases RG (a:=n) W.toList N 0 X with ⟨g1,g2,_⟩|⟨v,j,g1,g2,_,_⟩
   .simp only[qH,asL,g1]at h;refine qW (s:=Instr.lookup t (a.eval x) (a.eval y) ok) (u:=if ok then .tuple #[.int d 0,.bool false]else .int d 0) rfl h (Dk.refl f g q) ?_ ?_
    .cases ok
     .simp_all [bP,VD.int_mk]
     .simp only[aa,bP,if_true];exact⟨_,rfl,by simp_all [bH,bP,VD.int_mk,VD.bool_mk]⟩
    .rw[E,I];simp[Instr.lookup,run_underlying D,MapKept.run_getObj_map G,MapKept.run_checkKey e J,MapKept.run_findKey e g2,Y,Result.andThen]
   .simp only[qH,asL,g1]at h;refine qW (s:=Instr.lookup t (a.eval x) (a.eval y) ok) (u:=if ok then .tuple #[.int d v,.bool true]else .int d v) rfl h (Dk.refl f g q) ?_ ?_
    .cases ok
     .simp_all [bP,VD.int_mk]
     .simp only[aa,bP,if_true];exact⟨_,rfl,by simp_all [bH,bP,VD.int_mk,VD.bool_mk]⟩
    .rw[E,I];simp[Instr.lookup,run_underlying D,MapKept.run_getObj_map G,MapKept.run_checkKey e J,MapKept.run_findKey e g2,Result.andThen]
  .cases h
 .cases h
theorem adc (hT:TOk P T) (u:c.Ok W0) {cl:Bool} {call:gy R} {o:Oper} {st:St} {a:Act} {K:bK->St->Option R} {x y z:Operand} (S:c.hp=st.hp) (ae:c.nxt=st.nxt) (G:bH c st.fr a.tmps.toList) (U:o.op=.mapUpdate t x y z)
  (h:dZ T cl call o st K=a6 r):H9 P W0 c st o a K r:=by
 obtain⟨ag,op,ty,ah,ai,aj⟩:=o;simp only at U;subst U;simp only[dZ]at h;split at h
 .rename_i kk vk id hm al
  split at h
  .rename_i az aA q f n m b s hn A
   replace h:=dB h;obtain⟨hk,h⟩:=h;simp only[af,decide_eq_true_eq]at hk;obtain⟨rfl,rfl,rfl,rfl⟩:=hk;obtain⟨kt,et,V,D,i,u3,u4⟩:=Tf hT hm;have I:=dN G x;rw[al]at I;simp only[bP]at I;rw[<-S]at s;have hv:=I.2.2 _ _ _ s;obtain⟨hB,E,J,B,h4⟩:=u.obj id _ s;have M:=dN G y;rw[hn]at M;simp only[bP]at M;have an:=M.int_inv;have N:=dN G z;rw[A]at N;simp only[bP]at N;have ao:=N.int_inv;have O:MapKept.IsKey (.int f) (.int f n):=rfl;have W: ∃g l,(Instr.mapUpdate t (a.eval x) (a.eval y) (a.eval z)).run P c.w=.ok () {c.w with heap:=c.w.heap.setIfInBounds (c.mu id).blk (.map g l)}/\g.toList.map (fun e=>(e.key,e.val))=(vz q n b).map (fun p=>(Value.int f p.1,Value.int m p.2)):=by
    rw[hv,an,ao];rcases RG (a:=n) E.toList q 0 h4 with ⟨g1,g2,g3⟩|⟨v,j,g1,g2,⟨e0,g3,g4⟩,g5⟩
    .exact⟨E.push ⟨.int f n,.int m b,J⟩,J+1,by
      simp[Instr.mapUpdate,run_underlying V,MapKept.run_getObj_map B,MapKept.run_checkKey D O,MapKept.run_findKey D g2,MapKept.run_setObj_map _ B,Result.andThen],by
      simp_all⟩
    .have hj:E[j]? =a6 e0:=by simpa using g3
     exact⟨E.modify j (fun e'=>{e' with key:=.int f n,val:=.int m b}),J,by
      simp[Instr.mapUpdate,run_underlying V,MapKept.run_getObj_map B,MapKept.run_checkKey D O,MapKept.run_findKey D g2,hj,g4,MapKept.run_keyThatStays O,MapKept.run_setObj_map _ B,Result.andThen],by
      simp_all⟩
   obtain⟨g,l,W,au⟩:=W;have av:(execOp a.eval ⟨ag,.mapUpdate t x y z,ty,ah,ai,aj⟩).run P c.w=.ok .skip {c.w with heap:=c.w.heap.setIfInBounds (c.mu id).blk (.map g l)}:=by
    simp_all [execOp]
   have iT:=MapKept.heap_set (o':=Obj.map g l) B;have X:(dJ.mp f m q).like (c.mu id) (.mp f m (vz q n b)) (c.mu id):=rfl;have Y:c.w.heap.size<=({c.w with heap:=c.w.heap.setIfInBounds (c.mu id).blk (.map g l)}:World).heap.size:=by simp
   have Z: ∀d,d<c.w.heap.size->(dJ.mp f m q).blk (c.mu id)≠a6 d->({c.w with heap:=c.w.heap.setIfInBounds (c.mu id).blk (.map g l)}:World).heap[d]? =c.w.heap[d]? :=
    fun d _ aw=>iT.2 d (fun e=>aw (by simp[dJ.blk,e]))
   have ab: ∀d,(dJ.mp f m (vz q n b)).blk (c.mu id)=a6 d->(dJ.mp f m q).blk (c.mu id)=a6 d\/c.w.heap.size<=d:=fun d A=>.inl A;have ad: ∀(d:Nat) (L:Loop),(dJ.mp f m q).blk (c.mu id)=a6 d->c.w.heap[d]? =a6 (Obj.loop L)-> ∃L':Loop,({c.w with heap:=c.w.heap.setIfInBounds (c.mu id).blk (.map g l)}:World).heap[d]? =a6 (Obj.loop L'):=fun d L A hL=>absurd hL ((u.obj id _ s).no_loop (by simp) A);have ax:=Cx.Le.put (w:={c.w with heap:=c.w.heap.setIfInBounds (c.mu id).blk (.map g l)}) u s X Y Z ab ad;have ay:Below W0.heap.size W0 {c.w with heap:=c.w.heap.setIfInBounds (c.mu id).blk (.map g l)}:=
    u.bel.trans ⟨rfl,rfl,rfl,by simp,fun k hk=>iT.2 k (by omega)⟩
   refine⟨_,undef,c.put id _ (c.mu id) _,_,h,⟨by simp[Cx.put,S],ae,rfl,rfl,u.put s X ay Y Z ab ad ?_,ax⟩,by simp[bP],.inr ⟨av,rfl⟩⟩;refine⟨by simp only[Cx.put,upd_same];exact hB,g,l, ?_,au⟩;simp_all [Cx.put,upd_same]
  .cases h
 .cases h
end
end
section
open Option renaming some → a6, none → a7
open Nat renaming le_refl → ae, le_trans → aG
open Go.RowKit
def FW (rd:Option Nat):Fence:={Fence.wide with round:=rd}
theorem aIq:FW a7=Fence.wide:=rfl
theorem aJM (rd:Option Nat) (f:FuncId):(FW rd).fn f:=trivial
theorem uh (rd:Option Nat) {n:Nat}:(FW rd).depth.isSome=true->1<=n:=fun h=>by simp[FW,Fence.wide]at h
theorem aFM (rd:Option Nat):(FW rd).round=rd:=rfl
theorem aIr (rd:Option Nat) (n:Nat):(FW rd).room n:=fun _ h=>by simp[FW,Fence.wide]at h
def mkD (r:Nat):Deferred:={target:=.collected r,args:= #[]}
def Dl (c:Cx):List (List bK)->List (Array Value)->Prop
 |[],[]=>True
 |f::d,t::e=>bH c f t.toList/\Dl c d e
 |_,_=>False
theorem Dl.le {c c':Cx} (h:c.Le c'): ∀(e:List (List bK)) (g:List (Array Value)),Dl c e g->Dl c' e g
 |[],[],_=>trivial
 |f::e,t::g,d=>⟨bH.le h _ _ d.1,Dl.le h e g d.2⟩
 |[],_::_,d=>d.elim
 |_::_,[],d=>d.elim
structure Cx.Mono (c c':Cx):Prop where
 mks: ∀r,r∈c.mks->r∈c'.mks
 lp: ∀(b:Nat) (L:Loop),c.w.heap[b]? =a6 (Obj.loop L)-> ∃L':Loop,c'.w.heap[b]? =a6 (Obj.loop L')
 size:c.w.heap.size<=c'.w.heap.size
 bar:c'.bar=c.bar
 out: ∀b,c.out b->c'.out b/\c'.w.heap[b]? =c.w.heap[b]?
theorem Cx.Le.mono {c c':Cx} (h:c.Le c'):c.Mono c':=⟨h.mks,h.lp,h.size,h.bar,h.out⟩
theorem Cx.Mono.refl (c:Cx):c.Mono c:=⟨fun _ h=>h,fun b L h=>⟨L,h⟩,ae _,rfl,fun _ h=>⟨h,rfl⟩⟩
theorem Cx.Mono.trans {a b c:Cx} (h:a.Mono b) (k:b.Mono c):a.Mono c:=
 ⟨fun r e=>k.mks r (h.mks r e),fun b L f=>let⟨g,i⟩:=h.lp b L f;k.lp b g i,aG h.size k.size,k.bar.trans h.bar,fun x d=>⟨(k.out x (h.out x d).1).1,(k.out x (h.out x d).1).2.trans (h.out x d).2⟩⟩
structure iM (W0:World) (b0:Nat) (rd:Option Nat) (c:Cx) (st:St) (a:Act) (ats:List (Array Value)):Prop where
 hp:c.hp=st.hp
 nxt:c.nxt=st.nxt
 ok:c.Ok W0
 fr:bH c st.fr a.tmps.toList
 stk:Dl c st.stk ats
 df: ∃ds:List Nat,a.defers=ds.map mkD/\ds.Nodup/\ ∀r∈ds,r∈c.mks/\b0<=r
 rd: ∀l,rd=a6 l-> ∃L:Loop,c.w.heap[l]? =a6 (Obj.loop L)
section
variable {P:Program} {T:TT} {W0:World} {b0 n:Nat} {rd:Option Nat} {c:Cx} {R:Type} {r:R} {st:St} {a:Act} {ats:List (Array Value)}
theorem atp (a:Act) (dst:Option Nat) (v:Value) (fr:List bK) (z:bK) (h:bH c fr a.tmps.toList) (e:bP c z v):bH c (match dst with|some d=>fr.set d z|none=>fr) (a.put dst v).tmps.toList:=by
 grind [Act.put,bH.set]
theorem aDV (st:St) (dst:Option Nat) (z:bK):(st.put dst z).fr=(match dst with|some d=>st.fr.set d z|none=>st.fr)/\(st.put dst z).hp=st.hp/\(st.put dst z).nxt=st.nxt/\(st.put dst z).stk=st.stk:=by
 cases dst<;>exact⟨rfl,rfl,rfl,rfl⟩
theorem put_defers (a:Act) (dst:Option Nat) (v:Value):(a.put dst v).defers=a.defers:=by cases dst<;>rfl
theorem iM.put (h:iM W0 b0 rd c st a ats) {dst:Option Nat} {z:bK} {v:Value} (d:bP c z v):iM W0 b0 rd c (st.put dst z) (a.put dst v) ats:=by
 obtain⟨e,f,g,i⟩:=aDV st dst z;exact⟨h.hp.trans f.symm,h.nxt.trans g.symm,h.ok,by rw[e];exact atp a dst v _ z h.fr d,by rw[i];exact h.stk,by rw[put_defers];exact h.df,h.rd⟩
theorem iM.did (h:iM W0 b0 rd c st a ats) {c':Cx} {d:St} (hd:Dk W0 c st c' d):iM W0 b0 rd c' d a ats:=
 ⟨hd.hp,hd.nxt,hd.ok,by rw[hd.fr];exact bH.le hd.le _ _ h.fr,by rw[hd.stk];exact Dl.le hd.le _ _ h.stk,
  let⟨g,i,j,e⟩:=h.df;⟨g,i,j,fun r f=>⟨hd.le.mks r (e r f).1,(e r f).2⟩⟩,fun l m=>let⟨L,o⟩:=h.rd l m;hd.le.lp l L o⟩
def After (W0:World) (b0:Nat) (rd:Option Nat) (c:Cx) (ats:List (Array Value)) (K:St->Option R) (r:R) (f:Act) (w':World):Prop:=
 ∃d e,K e=a6 r/\iM W0 b0 rd d e f ats/\c.Mono d/\d.w=w'
def mi (P:Program) (W0:World) (n:Nat) (call:gy R):Prop:=
 ∀(b0:Nat) (rd:Option Nat) (f:bK) (g:List bK) (l:Option Nat) (st:St) (K:bK->St->Option R) (r:R),call f g l st K=a6 r->
  ∀(c:Cx) (a:Act) (ats:List (Array Value)) (h:Value) (i:Array Value),iM W0 b0 rd c st a ats->bP c f h->bH c g i.toList->
   ∀(o:Oper) (next:Act->World->Prop) (Q:Exit->Act->World->Prop),(∀e z u j,K z j=a6 r->iM W0 b0 rd e j a ats->bP e z u->c.Mono e->next (a.put o.dst u) e.w)->
    o.uponIn (FW rd) n P a next Q ((do let d<-Deferred.ofValue h i;invoke d.target d.args:Sem Next).run P c.w)
def qV:Op->Bool
 |.defer _=>true
 |_=>false
theorem xM {o:Oper} (h:qV o.op=false) (rd:Option Nat) (d:Operand->Value):Oper.semAt rd d o=execOp d o:=
 Oper.semAt_eq rd d o fun c e=>by rw[e]at h;cases h
theorem qN (o:Oper) (w:World) (d:Operand->Value): ∀f,o.about P w d=a6 f->(FW rd).fn f:=fun _ _=>trivial
theorem nN {o:Oper} {K:bK->St->Option R} (hd:qV o.op=false) (h:H9 P W0 c st o a K r) (g:iM W0 b0 rd c st a ats) {next:Act->World->Prop} {Q:Exit->Act->World->Prop}
  (i: ∀c' z u e,K z e=a6 r->iM W0 b0 rd c' e a ats->bP c' z u->c.Mono c'->next (a.put o.dst u) c'.w):o.wpIn (FW rd) n P a c.w next Q:=by
 obtain⟨z,u,c',e,j,f,l,d⟩:=h;refine⟨qN o c.w _, ?_⟩;rw[xM hd];have:=i c' z u e j (g.did f) l f.le.mono;rcases d with d|⟨d,rfl⟩
 .rw[d];exact this
 .rw[d];exact this
theorem TB (hT:TOk P T) {cl:Bool} {call:gy R} (I:mi P W0 n call) {o:Oper} {K:bK->St->Option R} (h:dZ T cl call o st K=a6 r) (d:iM W0 b0 rd c st a ats) {next:Act->World->Prop} {Q:Exit->Act->World->Prop}
  (e: ∀c' z u B,K z B=a6 r->iM W0 b0 rd c' B a ats->bP c' z u->c.Mono c'->next (a.put o.dst u) c'.w):o.wpIn (FW rd) n P a c.w next Q:=by
 by_cases hq:iw o.op=true
 .obtain⟨z,u,J,s,L⟩:=A8 hT d.ok hq d.hp d.fr h;have hd:qV o.op=false:=by cases ho:o.op<;>simp_all [iw,jI,qV]
  exact nN hd ⟨z,u,c,st,J,Dk.refl d.ok d.hp d.nxt,s,.inl (L c.w (Below.refl _ _))⟩ d e
 .cases ho:o.op with
  |alloc t=>exact nN (by rw[ho];rfl) (awT hT d.ok d.hp d.nxt ho h) d e
  |box t x=>exact nN (by rw[ho];rfl) (aGZ hT d.ok d.hp d.nxt d.fr ho h) d e
  |buildSlice t k O=>exact nN (by rw[ho];rfl) (YM hT d.ok d.hp d.nxt d.fr ho h) d e
  |makeSlice t l cp=>exact nN (by rw[ho];rfl) (adb hT d.ok d.hp d.nxt d.fr ho h) d e
  |store t x y=>exact nN (by rw[ho];rfl) (awU hT d.ok d.hp d.nxt d.fr ho h) d e
  |makeFunc fn first v=>
   obtain⟨dst,A,g,i,j,p⟩:=o;simp only at ho;subst ho;simp only[dZ]at h;split at h
   .rename_i f D
    obtain⟨S⟩:=first
    simp only at D;subst D;refine nN rfl ⟨_,.func (.func f) #[] (v.map a.eval),c,st,h,Dk.refl d.ok d.hp d.nxt, ?_,.inl ?_⟩ d e
    .simp only[bP];refine⟨_,rfl, ?_⟩;have:=bH.map_eval (c:=c) d.fr v.toList;simpa using this
    simp_all [execOp,Instr.makeFunc]
   .rename_i l f U
    replace h:=dB h;obtain⟨V,h⟩:=h;have M:v= #[]:=by
     simp_all
    subst M;refine nN rfl ⟨_,.func (.func f) (first.map a.eval) #[],c,st,h,Dk.refl d.ok d.hp d.nxt, ?_,.inl ?_⟩ d e
    .simp only[bP];refine⟨_,rfl, ?_⟩;have:=bH.map_eval (c:=c) d.fr first.toList;simpa using this
    simp_all [execOp,Instr.makeFunc]
   .cases h
  |makeMap t W=>exact nN (by rw[ho];rfl) (amX hT d.ok d.hp d.nxt ho h) d e
  |lookup t x y k=>exact nN (by rw[ho];rfl) (ar2 hT d.ok d.hp d.nxt d.fr ho h) d e
  |mapUpdate t x y z=>exact nN (by rw[ho];rfl) (adc hT d.ok d.hp d.nxt d.fr ho h) d e
  |call N=>
   obtain⟨E,q,G⟩:=N;cases E with
   |builtin b=>
    cases b with
    |append=>exact nN (by rw[ho];rfl) (ar1 hT d.ok d.hp d.nxt d.fr ho h) d e
    |unsafeSliceData=>exact nN (by rw[ho];rfl) (ade hT d.ok d.hp d.nxt d.fr ho h) d e
    |unsafeString=>exact nN (by rw[ho];rfl) (SA hT d.ok d.hp d.nxt d.fr ho h) d e
    |len=>rw[ho]at hq;exact absurd rfl hq
    |min=>rw[ho]at hq;exact absurd rfl hq
    |max=>rw[ho]at hq;exact absurd rfl hq
    |_=>
     obtain⟨dst,A,g,i,j,p⟩:=o;simp only at ho;subst ho;simp[dZ,jY]at h
   |invoke x m=>
    simp_all [dZ]
   |value f=>
    obtain⟨dst,A,g,i,j,p⟩:=o;simp only at ho;subst ho;simp only[dZ]at h;refine⟨qN _ c.w _, ?_⟩;rw[xM rfl];have s:=I b0 rd _ _ dst st K r h c a ats (a.eval f) (q.map a.eval) d (dN d.fr f) (by
     have:=bH.map_eval (c:=c) d.fr q.toList;simpa using this) ⟨dst,.call {callee:=.value f,args:=q,argTypes:=G},g,i,j,p⟩ next Q e
    exact s
  |_=>
   obtain⟨dst,A,g,i,j,p⟩:=o;simp only at ho;subst ho
   first
    |(simp[iw,jI]at hq;done)
    |(simp[dZ]at h;done)
theorem I9 (ops:Array Oper) (j d:Nat) (h:(ops[j]?).bind (·.dst)=a6 d) (tmps:Array Value):yielded ops tmps j=(match tmps[d]? with|some (.bool b)=>a6 b|_=>a7):=by
 grind [yielded]
theorem MW (hT:TOk P T) {cl:Bool} {call:gy R} (s:mi P W0 n call) (ops:Array Oper) {K:St->Option R} {Q:Exit->Act->World->Prop}: ∀(l:List Oper) (c:Cx) (st:St) (a:Act),ig T cl call ops K l st=a6 r->iM W0 b0 rd c st a ats->
  (∀c' g p,K g=a6 r->iM W0 b0 rd c' g p ats->c.Mono c'->Q .normal p c'.w)->wpListIn (FW rd) n P ops Q l a c.w
 |[],c,st,a,h,e,q=>by
  simp only[ig]at h;exact q c st a h e (Cx.Mono.refl c)
 |o::l,c,st,a,h,e,q=>by
  simp only[ig]at h;have Y: ∀(c:Cx) (st:St) (a:Act),iM W0 b0 rd c st a ats->(∀c' g p,K g=a6 r->iM W0 b0 rd c' g p ats->c.Mono c'->Q .normal p c'.w)->dZ T cl call o st (fun v st=>ig T cl call ops K l (st.put o.dst v))=a6 r->
    o.wpIn (FW rd) n P a c.w (wpListIn (FW rd) n P ops Q l) Q:=fun c st a e q h=>
   TB hT s h e fun c' z u g E G I J=>MW hT s ops l c' (g.put o.dst z) (a.put o.dst u) E (G.put I) fun L M N k1 k2 k3=>q L M N k1 k2 (J.trans k3)
  have y: ∀(st:St),iM W0 b0 rd c st a ats->ig T cl call ops K l (st.put o.dst (.tup []))=a6 r->(∀f,o.about P c.w a.eval=a6 f->(FW rd).fn f)/\wpListIn (FW rd) n P ops Q l (a.put o.dst undef) c.w:=fun st e h=>
   ⟨qN o c.w _,MW hT s ops l c (st.put o.dst (.tup [])) (a.put o.dst undef) h (e.put (by simp only[bP];exact⟨#[],rfl,by simp[bH]⟩)) q⟩
  simp only[wpListIn];cases hg:o.guard with
  |none=>
   rw[hg]at h;rw[am (by simp[Region.wanted,hg])]
   grind
  |some O=>
   obtain⟨j,S⟩:=O;rw[hg]at h;simp only at h;split at h
   .cases h
   .rename_i d hd
    have i:=I9 ops j d hd a.tmps;have m:=e.fr.getD d;have U:=bH.length _ _ e.fr;rw[Array.length_toList]at U;split at h
    .rename_i b A
     rw[A]at m;simp only[bP]at m;have V:=m.bool_inv;have Z:d<a.tmps.size:=by
      grind
     have B:a.tmps[d]? =a6 (.bool b):=by
      simp_all
     rw[B]at i;simp only at i;have W:a.put (a6 d) (.bool b)=a:=by
      simp only[Act.put];obtain⟨ab,ad⟩:=Array.getElem?_eq_some_iff.1 B;have:a.tmps.setIfInBounds d (.bool b)=a.tmps:=by
       grind
      rw[this]
     have D:iM W0 b0 rd c (st.put (a6 d) (.val .bool b)) a ats:=by
      have:=e.put (dst:=a6 d) (z:=.val .bool b) (v:=.bool b) (by simp_all [bP]);rwa [W]at this
     cases b<;>cases S<;>(try simp only[aa,ac]at h)
     .rw[am (by simp[Region.wanted,hg,i])]
      grind
     .rw[aq (by simp[Region.wanted,hg,i])];exact y _ D h
     .rw[aq (by simp[Region.wanted,hg,i])];exact y _ D h
     .rw[am (by simp[Region.wanted,hg,i])]
      grind
    .rename_i A
     rw[A]at m;simp only[bP]at m;obtain⟨vs,V,_⟩:=m;have X:yielded ops a.tmps j=a7:=by
      rw[i];cases he:a.tmps[d]? with
      |none=>rfl
      |some x=>
       simp_all
     rw[aq (by simp[Region.wanted,hg,X])];exact y st e h
    .cases h
end
end
section
open List renaming map_cons → ak, mem_cons_of_mem → au, mem_append_right → bu
open Nat renaming le_refl → ae
open Go.RowKit
structure Cx.Keeps (c c':Cx) (l:List Nat):Prop where
 free: ∀b,c.free b->c'.free b/\c'.w.heap[b]? =c.w.heap[b]?
 ref: ∀id∈l,c.known id->c'.known id
 obj: ∀id∈l,∀o',dM c'.hp id=some o'-> ∃o,dM c.hp id=some o/\o.like (c.mu id) o' (c'.mu id)
theorem Cx.Keeps.sub {c c':Cx} {l m:List Nat} (h:c.Keeps c' l) (e: ∀i∈m,i∈l):c.Keeps c' m:=⟨h.free,fun i d=>h.ref i (e i d),fun i d=>h.obj i (e i d)⟩
theorem Cx.Keeps.left {c c':Cx} {l m:List Nat} (h:c.Keeps c' (l++m)):c.Keeps c' l:=h.sub fun i d=>List.mem_append_left _ d
theorem Cx.Keeps.right {c c':Cx} {l m:List Nat} (h:c.Keeps c' (l++m)):c.Keeps c' m:=h.sub fun i d=>bu _ d
mutual
theorem bP.keeps {c c':Cx}: ∀(v:bK) (x:Value),c.Keeps c' (refs v)->bP c v x->bP c' v x
 |.undef,_,_,_=>by simp[bP]
 |.val t x,v,h,d=>by
  simp only[bP]at d ⊢;exact⟨fun e=>let⟨cs,j,g⟩:=d.1 e;⟨cs,j,fB.mono h.free t x _ g⟩,fun e=>fB.mono h.free t x _ (d.2 e)⟩
 |.nils,_,_,d=>by assumption
 |.emp,_,_,d=>by assumption
 |.lst t x b,v,h,d=>by
  simp only[bP]at d ⊢;exact⟨⟨fun e=>let⟨cs,j,g⟩:=d.1.1 e;⟨cs,j,fB.mono h.free (.list t) x _ g⟩,fun e=>fB.mono h.free (.list t) x _ (d.1.2 e)⟩,d.2⟩
 |.nilp,_,_,d=>by assumption
 |.nilfn,_,_,d=>by assumption
 |.tup l,v,h,d=>by simp only[bP]at d ⊢;obtain⟨s,j,g⟩:=d;exact⟨s,j,bH.keeps l _ (by simpa [refs] using h) g⟩
 |.agg l,v,h,d=>by simp only[bP]at d ⊢;obtain⟨s,j,g,y⟩:=d;exact⟨s,j,bH.keeps l _ (by simpa [refs] using h) g,y⟩
 |.cellp t x,v,h,d=>by
  simp only[bP]at d ⊢;obtain⟨b,o,D,j,g,y,E⟩:=d;exact⟨b,o,D,j,(h.free b g).1,y.of_block (h.free b g).2,fB.mono h.free t x _ E⟩
 |.ptr id G,v,h,d=>by
  simp only[bP]at d ⊢;obtain⟨m,d⟩:=d;refine⟨m,h.ref id (by simp[refs]) d.1,fun t cs q=> ?_⟩;obtain⟨o,j,g⟩:=h.obj id (by simp[refs]) _ q;cases o<;>simp only[dJ.like]at g;simp_all
 |.slf id,v,h,d=>by
  simp only[bP]at d ⊢;obtain⟨m,d⟩:=d;refine⟨m,h.ref id (by simp[refs]) d.1,fun t cs q=> ?_⟩;obtain⟨o,j,g⟩:=h.obj id (by simp[refs]) _ q;cases o<;>simp only[dJ.like]at g;simp_all
 |.sd id z,v,h,d=>by
  simp only[bP]at d ⊢;obtain⟨m,d⟩:=d;refine⟨m,h.ref id (by simp[refs]) d.1,fun t u A q=> ?_⟩;obtain⟨o,j,g⟩:=h.obj id (by simp[refs]) _ q;cases o with
  |arr t' v' B=>
   grind [dJ.like]
  |box _ _=>simp[dJ.like]at g
  |lp _ _ _ _ _ _ _ _=>simp[dJ.like]at g
  |dead=>simp[dJ.like]at g
  |mp _ _ _=>simp[dJ.like]at g
 |.slc id z I,v,h,d=>by
  simp only[bP]at d ⊢;obtain⟨m,d⟩:=d;refine⟨m,h.ref id (by simp[refs]) d.1,fun t u A q=> ?_⟩;obtain⟨o,j,g⟩:=h.obj id (by simp[refs]) _ q;cases o with
  |arr t' v' B=>
   grind [dJ.like]
  |box _ _=>simp[dJ.like]at g
  |lp _ _ _ _ _ _ _ _=>simp[dJ.like]at g
  |dead=>simp[dJ.like]at g
  |mp _ _ _=>simp[dJ.like]at g
 |.ep id z i G,v,h,d=>by
  simp only[bP]at d ⊢;obtain⟨m,d⟩:=d;refine⟨m,h.ref id (by simp[refs]) d.1,fun t u A q=> ?_⟩;obtain⟨o,j,g⟩:=h.obj id (by simp[refs]) _ q;cases o with
  |arr t' v' B=>
   grind [dJ.like]
  |box _ _=>simp[dJ.like]at g
  |lp _ _ _ _ _ _ _ _=>simp[dJ.like]at g
  |dead=>simp[dJ.like]at g
  |mp _ _ _=>simp[dJ.like]at g
 |.fn f l,v,h,d=>by simp only[bP]at d ⊢;obtain⟨s,j,g⟩:=d;exact⟨s,j,bH.keeps l _ (by simpa [refs] using h) g⟩
 |.mfn f l,v,h,d=>by simp only[bP]at d ⊢;obtain⟨s,j,g⟩:=d;exact⟨s,j,bH.keeps l _ (by simpa [refs] using h) g⟩
 |.mpv id,v,h,d=>by
  simp only[bP]at d ⊢;obtain⟨m,d⟩:=d;refine⟨m,h.ref id (by simp[refs]) d.1,fun J K L q=> ?_⟩;obtain⟨o,j,g⟩:=h.obj id (by simp[refs]) _ q;cases o<;>simp only[dJ.like]at g;simp_all
 |.yld id,v,h,d=>by
  simp only[bP]at d ⊢;obtain⟨m,d⟩:=d;refine⟨m,h.ref id (by simp[refs]) d.1,fun f M N jk O S n p q=> ?_⟩;obtain⟨o,j,g⟩:=h.obj id (by simp[refs]) _ q;cases o<;>simp only[dJ.like]at g;simp_all
theorem bH.keeps {c c':Cx}: ∀(l:List bK) (xs:List Value),c.Keeps c' (lF l)->bH c l xs->bH c' l xs
 |[],[],_,_=>by simp[bH]
 |v::l,x::xs,h,d=>by
  simp only[lF]at h;simp only[bH]at d ⊢;exact⟨bP.keeps v x h.left d.1,bH.keeps l xs h.right d.2⟩
 |[],_::_,_,d=>by simp[bH]at d
 |_::_,[],_,d=>by simp[bH]at d
end
theorem Dl.keeps {c c':Cx}: ∀(e:List (List bK)) (g:List (Array Value)),c.Keeps c' (sH e)->Dl c e g->Dl c' e g
 |[],[],_,_=>trivial
 |f::e,t::g,h,d=>by
  simp only[sH]at h;exact⟨bH.keeps _ _ h.left d.1,Dl.keeps e g h.right d.2⟩
 |[],_::_,_,d=>d.elim
 |_::_,[],_,d=>d.elim
theorem jR (p:Nat->Bool): ∀(h:gG) (i:Nat),dM (h.filter fun e=>p e.1) i=if p i=true then dM h i else none
 |[],i=>by simp[dM]
 |(k,o)::h,i=>by
  rw[List.filter_cons];by_cases hk:p k=true
  .simp only[hk,if_true,dY,jR p h i]
   grind
  .rw[aq hk,jR p h i,dY]
   grind
theorem xy: ∀(h:gG) (i:Nat) (o:dJ),dM h i=some o->(i,o)∈h
 |[],i,o,d=>by simp[dM]at d
 |(k,e)::h,i,o,d=>by
  rw[dY]at d;split at d
  .simp_all
  .exact au _ (xy h i o d)
theorem Ba: ∀(h:gG) (e:Nat×dJ),e∈h-> ∀i∈e.2.refs,i∈xK h
 |[],e,d,i,f=>by simp at d
 |(k,o)::h,e,d,i,f=>by
  simp only[xK,List.mem_append];rcases List.mem_cons.1 d with g|g
  .simp_all
  .right;exact Ba h e g i f
theorem uF {d l:List Nat} (h:Ej d l=true): ∀i∈l,i∉d:=by
 intro i e hd;have:=List.all_eq_true.1 h i e;simp only[Bool.not_eq_true',YP]at this;have f:d.any (Nat.beq i)=true:=List.any_eq_true.2 ⟨i,hd,by simp⟩;simp_all
theorem Cx.keeps_filter {c:Cx} {p:Nat->Bool} {l:List Nat} (m: ∀i∈l,i∉((c.hp.filter fun e=> !p e.1).map (·.1))):c.Keeps {c with hp:=c.hp.filter fun e=>p e.1} l:=by
 refine⟨fun b g=>⟨⟨g.1, ?_,g.2.2⟩,rfl⟩,fun i h hk=> ?_,fun i h j d=> ?_⟩
 .rintro ⟨i,o,f,q⟩;rw[jR]at f;split at f
  .exact g.2.1 ⟨i,o,f,q⟩
  .cases f
 .rcases hk with ⟨o,d⟩|hk
  .left;refine⟨o, ?_⟩;rw[jR];split
   .exact d
   .rename_i hp
    exfalso;refine m i h (List.mem_map.2 ⟨(i,o),List.mem_filter.2 ⟨xy _ _ _ d,by simp[hp]⟩,rfl⟩)
  .exact .inr hk
 .rw[jR]at d;split at d
  .exact⟨j,d,j.like_refl _⟩
  .cases d
section
variable {P:Program} {T:TT} {W0:World} {b0 n:Nat} {rd:Option Nat} {c:Cx} {R:Type} {r:R} {st:St} {a:Act} {ats:List (Array Value)}
theorem TC (c:Cx) (p:Nat->Bool): ∀b,c.out b->({c with hp:=c.hp.filter fun e=>p e.1}:Cx).out b/\({c with hp:=c.hp.filter fun e=>p e.1}:Cx).w.heap[b]? =c.w.heap[b]? :=fun b f=>⟨⟨f.1,(by
 rintro ⟨i,o,d,g⟩;simp only at d g;rw[jR]at d;split at d
 .exact f.2.1 ⟨i,o,d,g⟩
 .cases d),f.2.2⟩,rfl⟩
theorem Cx.Ok.filter (l:c.Ok W0) {p:Nat->Bool} (hk:c.Keeps {c with hp:=c.hp.filter fun e=>p e.1} (xK (c.hp.filter fun e=>p e.1))):({c with hp:=c.hp.filter fun e=>p e.1}:Cx).Ok W0:=by
 have sub: ∀i o,dM (c.hp.filter fun e=>p e.1) i=some o->dM c.hp i=some o:=fun i o h=>by
  simp_all [jR]
 refine⟨l.bel,fun i o y=> ?_,fun i j o q b d g=>l.inj i j o q b (sub i o d) (sub j q g),l.mks,fun b u=>⟨(l.bar b u).1,(fun⟨i,o,d,g⟩=>(l.bar b u).2.1 ⟨i,o,sub i o d,g⟩),(l.bar b u).2.2⟩,l.phi⟩;have m:=l.obj i o (sub i o y);have z:=xy _ _ _ y;cases o with
 |box e cs=>
  obtain⟨d,A,g,s,v⟩:=m;exact⟨d,A,g,bH.keeps _ _ (hk.sub fun j x=>Ba _ _ z j x) s,v⟩
 |arr t ver D=>
  obtain⟨m,e,B,d,g,s⟩:=m;exact⟨m,e,B,d,gp.mono (fB.mono hk.free t) _ _ g,s⟩
 |lp f fr ps jk bd ky n p=>
  obtain⟨m,d,L,g,s,v⟩:=m;exact⟨m,d,L,g,bH.keeps _ _ (hk.sub fun j x=>Ba _ _ z j x) s,v⟩
 |dead=>trivial
 |mp kk vk E=>exact m
theorem iM.gc (d:iM W0 b0 rd c st a ats) {f:Nat} {v:bK} {u:Value} (m:bP c v u) {g:St} (h:gc f v st=some g):
  ∃c',iM W0 b0 rd c' g a ats/\bP c' v u/\c.Mono c'/\c'.w=c.w/\g.stk=st.stk/\g.fr=st.fr:=by
 obtain⟨fr,stk,o,q⟩:=st;simp only[Go.Proofs.YtkichehglnecnaaGreatDoor.gc]at h;rw[cond_eq_ite]at h;split at h
 .rename_i j
  cases h;have l:=d.hp;simp only at l;subst l;have s: ∀p:Nat->Bool,Ej ((c.hp.filter fun e=> !p e.1).map (·.1)) (refs v++lF fr++sH stk++xK (c.hp.filter fun e=>p e.1))=true->
    ∃c',iM W0 b0 rd c' ⟨fr,stk,c.hp.filter fun e=>p e.1,q⟩ a ats/\bP c' v u/\c.Mono c'/\c'.w=c.w/\stk=stk/\fr=fr:=fun p j=>by
   have x:=uF j;have hk:=Cx.keeps_filter (c:=c) (p:=p) x;exact⟨{c with hp:=c.hp.filter fun e=>p e.1},⟨rfl,d.nxt,d.ok.filter (p:=p) hk.right,bH.keeps _ _ hk.left.left.right d.fr,Dl.keeps _ _ hk.left.right d.stk,d.df,d.rd⟩,bP.keeps _ _ hk.left.left.left m,⟨fun _ h=>h,fun b L h=>⟨L,h⟩,ae _,rfl,TC c p⟩,rfl,rfl,rfl⟩
  exact s (fun i=>Nat.blt i f||YP (att (c.hp.filter fun e=> !Nat.blt e.1 f) 3 (refs v++lF fr++sH stk++xK (c.hp.filter fun e=>Nat.blt e.1 f))) i) j
 .cases h
theorem acU (f:dJ->dJ): ∀(h:gG) (i:Nat),dM (h.map fun e=>(e.1,f e.2)) i=(dM h i).map f
 |[],i=>rfl
 |(k,o)::h,i=>by
  simp only[ak,dY,acU f h i];split<;>rfl
def Cx.anew (c:Cx):Cx:={c with hp:=c.hp.map fun e=>(e.1,e.2.anew c.hp)}
theorem dJ.anew_blk (h:gG) (o:dJ) (l:Loc):(o.anew h).blk l=o.blk l:=by cases o<;>rfl
theorem Cx.anew_get (c:Cx) (i:Nat):dM c.anew.hp i=(dM c.hp i).map (dJ.anew c.hp):=acU _ _ _
theorem Cx.anew_free (c:Cx): ∀b,c.free b->c.anew.free b/\c.anew.w.heap[b]? =c.w.heap[b]? :=fun b d=>⟨⟨d.1,by
 rintro ⟨i,o,e,f⟩;rw[Cx.anew_get]at e;obtain⟨g,h,rfl⟩:=Option.map_eq_some_iff.1 e;rw[dJ.anew_blk]at f;exact d.2.1 ⟨i,g,h,f⟩,d.2.2⟩,rfl⟩
theorem Cx.anew_out (c:Cx): ∀b,c.out b->c.anew.out b/\c.anew.w.heap[b]? =c.w.heap[b]? :=fun b d=>⟨⟨d.1,(by
 rintro ⟨i,o,e,f⟩;rw[Cx.anew_get]at e;obtain⟨g,h,rfl⟩:=Option.map_eq_some_iff.1 e;rw[dJ.anew_blk]at f;exact d.2.1 ⟨i,g,h,f⟩),d.2.2⟩,rfl⟩
theorem Cx.anew_known (c:Cx) {i:Nat} (h:c.known i):c.anew.known i:=by
 rcases h with ⟨o,d⟩|h
 .exact .inl ⟨_,by rw[Cx.anew_get,d];rfl⟩
 .exact .inr h
theorem DY {h:gG} {id d:Nat} (hf:RV h id d=true): ∃t xs,dM h id=some (.arr t d xs):=by
 simp only[RV,aAK]at hf
 grind
mutual
theorem bP.anew {c:Cx}: ∀(v:bK) (x:Value),bP c v x->bP c.anew (Go.Proofs.YtkichehglnecnaaGreatDoor.anew c.hp v) x
 |.undef,_,_=>by simp[bP,Go.Proofs.YtkichehglnecnaaGreatDoor.anew]
 |.val t x,v,d=>by
  simp only[bP,Go.Proofs.YtkichehglnecnaaGreatDoor.anew]at d ⊢;exact⟨fun e=>let⟨cs,h,g⟩:=d.1 e;⟨cs,h,fB.mono c.anew_free t x _ g⟩,fun e=>fB.mono c.anew_free t x _ (d.2 e)⟩
 |.nils,_,d=>by simpa only[bP,Go.Proofs.YtkichehglnecnaaGreatDoor.anew] using d
 |.emp,_,d=>by simpa only[bP,Go.Proofs.YtkichehglnecnaaGreatDoor.anew] using d
 |.lst t x b,v,d=>by
  simp only[bP,Go.Proofs.YtkichehglnecnaaGreatDoor.anew]at d ⊢;exact⟨⟨fun e=>let⟨cs,h,g⟩:=d.1.1 e;⟨cs,h,fB.mono c.anew_free (.list t) x _ g⟩,fun e=>fB.mono c.anew_free (.list t) x _ (d.1.2 e)⟩,d.2⟩
 |.nilp,_,d=>by simpa only[bP,Go.Proofs.YtkichehglnecnaaGreatDoor.anew] using d
 |.nilfn,_,d=>by simpa only[bP,Go.Proofs.YtkichehglnecnaaGreatDoor.anew] using d
 |.tup l,v,d=>by simp only[bP,Go.Proofs.YtkichehglnecnaaGreatDoor.anew]at d ⊢;obtain⟨q,h,g⟩:=d;exact⟨q,h,bH.anew l _ g⟩
 |.agg l,v,d=>by simp only[bP,Go.Proofs.YtkichehglnecnaaGreatDoor.anew]at d ⊢;obtain⟨q,h,g,z⟩:=d;exact⟨q,h,bH.anew l _ g,z⟩
 |.cellp t x,v,d=>by
  simp only[bP,Go.Proofs.YtkichehglnecnaaGreatDoor.anew]at d ⊢;obtain⟨b,o,J,h,g,z,K⟩:=d;exact⟨b,o,J,h,(c.anew_free b g).1,z.of_block (c.anew_free b g).2,fB.mono c.anew_free t x _ K⟩
 |.ptr id L,v,d=>by
  simp only[bP,Go.Proofs.YtkichehglnecnaaGreatDoor.anew]at d ⊢;obtain⟨m,d⟩:=d;refine⟨m,c.anew_known d.1,fun t cs j=> ?_⟩;rw[Cx.anew_get]at j;obtain⟨o,h,g⟩:=Option.map_eq_some_iff.1 j;cases o<;>simp only[dJ.anew,reduceCtorEq]at g;exact d.2 _ _ h
 |.slf id,v,d=>by
  simp only[bP,Go.Proofs.YtkichehglnecnaaGreatDoor.anew]at d ⊢;obtain⟨m,d⟩:=d;refine⟨m,c.anew_known d.1,fun t cs j=> ?_⟩;rw[Cx.anew_get]at j;obtain⟨o,h,g⟩:=Option.map_eq_some_iff.1 j;cases o<;>simp only[dJ.anew,reduceCtorEq]at g;exact d.2 _ _ h
 |.sd id B,v,d=>by
  simp only[bP,Go.Proofs.YtkichehglnecnaaGreatDoor.anew]at d ⊢;rw[cond_eq_ite];split
  .rename_i y
   obtain⟨D,E,s⟩:=DY y;simp only[bP];obtain⟨m,d⟩:=d;refine⟨m,c.anew_known d.1,fun t u G j=>⟨Nat.zero_le _,fun I=> ?_⟩⟩;exact(d.2 _ _ _ s).2 rfl
  .simp[bP]
 |.slc id B M,v,d=>by
  simp only[bP,Go.Proofs.YtkichehglnecnaaGreatDoor.anew]at d ⊢;rw[cond_eq_ite];split
  .rename_i y
   obtain⟨D,E,s⟩:=DY y;simp only[bP];obtain⟨m,d⟩:=d;refine⟨m,c.anew_known d.1,fun t u G j=>⟨Nat.zero_le _,fun I=> ?_⟩⟩;rw[Cx.anew_get,s]at j;simp only[Option.map_some,dJ.anew,Option.some.injEq,dJ.arr.injEq]at j;obtain⟨A,_,_⟩:=j;rw[<-A];exact(d.2 _ _ _ s).2 rfl
  .simp[bP]
 |.ep id B i L,v,d=>by
  simp only[bP,Go.Proofs.YtkichehglnecnaaGreatDoor.anew]at d ⊢;rw[cond_eq_ite];split
  .rename_i y
   obtain⟨D,E,s⟩:=DY y;simp only[bP];obtain⟨m,d⟩:=d;refine⟨m,c.anew_known d.1,fun t u G j=>⟨Nat.zero_le _,fun I=> ?_⟩⟩;rw[Cx.anew_get,s]at j;simp only[Option.map_some,dJ.anew,Option.some.injEq,dJ.arr.injEq]at j;obtain⟨A,_,_⟩:=j;rw[<-A];exact(d.2 _ _ _ s).2 rfl
  .simp[bP]
 |.fn f l,v,d=>by simp only[bP,Go.Proofs.YtkichehglnecnaaGreatDoor.anew]at d ⊢;obtain⟨q,h,g⟩:=d;exact⟨q,h,bH.anew l _ g⟩
 |.mfn f l,v,d=>by simp only[bP,Go.Proofs.YtkichehglnecnaaGreatDoor.anew]at d ⊢;obtain⟨q,h,g⟩:=d;exact⟨q,h,bH.anew l _ g⟩
 |.mpv id,v,d=>by
  simp only[bP,Go.Proofs.YtkichehglnecnaaGreatDoor.anew]at d ⊢;obtain⟨m,d⟩:=d;refine⟨m,c.anew_known d.1,fun N O S j=> ?_⟩;rw[Cx.anew_get]at j;obtain⟨o,h,g⟩:=Option.map_eq_some_iff.1 j;cases o<;>simp only[dJ.anew,reduceCtorEq]at g;exact d.2 _ _ _ h
 |.yld id,v,d=>by
  simp only[bP,Go.Proofs.YtkichehglnecnaaGreatDoor.anew]at d ⊢;obtain⟨m,d⟩:=d;refine⟨m,c.anew_known d.1,fun f U V jk W X n p j=> ?_⟩;rw[Cx.anew_get]at j;obtain⟨o,h,g⟩:=Option.map_eq_some_iff.1 j;cases o<;>simp only[dJ.anew,reduceCtorEq]at g;exact d.2 _ _ _ _ _ _ _ _ h
theorem bH.anew {c:Cx}: ∀(l:List bK) (xs:List Value),bH c l xs->bH c.anew (Af c.hp l) xs
 |[],[],_=>by simp[bH,Af]
 |v::l,x::xs,d=>by
  simp only[bH,Af]at d ⊢;exact⟨bP.anew v x d.1,bH.anew l xs d.2⟩
 |[],_::_,d=>by simp[bH]at d
 |_::_,[],d=>by simp[bH]at d
end
theorem Dl.anew {c:Cx}: ∀(e:List (List bK)) (g:List (Array Value)),Dl c e g->Dl c.anew (e.map (Af c.hp)) g
 |[],[],_=>trivial
 |f::e,t::g,d=>⟨bH.anew _ _ d.1,Dl.anew e g d.2⟩
 |[],_::_,d=>d.elim
 |_::_,[],d=>d.elim
theorem iM.anew (d:iM W0 b0 rd c st a ats): ∃c',iM W0 b0 rd c' (XE st) a ats/\c.Mono c'/\c'.w=c.w:=by
 obtain⟨z,K,M,N⟩:=st;have v:=d.hp;simp only at v;subst v;refine⟨c.anew,⟨rfl,d.nxt,⟨d.ok.bel,fun i o x=> ?_,fun i j o q b g l m u=> ?_,d.ok.mks,fun b A=>(Cx.anew_out c b (d.ok.bar b A)).1,d.ok.phi⟩,bH.anew _ _ d.fr,Dl.anew _ _ d.stk,d.df,d.rd⟩,⟨fun _ h=>h,fun b L h=>⟨L,h⟩,ae _,rfl,Cx.anew_out c⟩,rfl⟩
 .rw[Cx.anew_get]at x;obtain⟨y,g,rfl⟩:=Option.map_eq_some_iff.1 x;have s:=d.ok.obj i y g;cases y with
  |box e cs=>
   obtain⟨g,B,l,m,u⟩:=s;exact⟨g,B,l,bH.anew _ _ m,u⟩
  |arr t ver O=>
   obtain⟨s,e,D,g,l,m⟩:=s;exact⟨s,e,D,g,gp.mono (fB.mono c.anew_free t) _ _ l,m⟩
  |lp f z ps jk bd ky n p=>
   obtain⟨s,g,L,l,m,u⟩:=s;exact⟨s,g,L,l,bH.anew _ _ m,u⟩
  |dead=>trivial
  |mp kk vk S=>exact s
 .rw[Cx.anew_get]at g l;obtain⟨E,G,rfl⟩:=Option.map_eq_some_iff.1 g;obtain⟨I,J,rfl⟩:=Option.map_eq_some_iff.1 l;rw[dJ.anew_blk]at m u;exact d.ok.inj i j E I b G J m u
theorem AL {l:List Nat}: ∀(i:Nat) (fr:List bK) (xs:List Value),bH c fr xs->bH c (Ha l i fr) xs
 |i,[],[],_=>by simp[bH,Ha]
 |i,v::fr,x::xs,h=>by
  simp only[bH,Ha]at h ⊢;refine⟨?_,AL (i+1) fr xs h.2⟩;rw[cond_eq_ite]
  grind [bP]
 |i,[],_::_,h=>by simp[bH]at h
 |i,_::_,[],h=>by simp[bH]at h
end
end
end Go.Proofs.YtkichehglnecnaaGreatDoor
