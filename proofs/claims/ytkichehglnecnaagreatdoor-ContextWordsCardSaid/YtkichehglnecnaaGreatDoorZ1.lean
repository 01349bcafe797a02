/- Parts of the proof, joined and shortened by a program: the plain machine, the functions as it prints them, and the mathematics over them. -/
import Derived.Calls
import Derived.Still
import Derived.Orders
import Derived.Laws.Sem
import Derived.Test.YtkichehglnecnaaGreatDoorProg
import Derived.WalkKit
import Derived.WalkSmall
import Derived.Below
import Derived.Laws.AppendOwn
import Derived.Lib.LaidTab
import Derived.Lib.ItoaNum
import Derived.KernelRfl
import Derived.Laws.StructEq
import Derived.Laws.Slices
import Derived.Laws.Cells
import Derived.Laws.Strings
import Derived.Laws.MakeOwn
import Derived.Laws.BytesString
import Derived.Maps.AppendAt
import Derived.Lib.AppendStr
import Derived.Lib.UnsafeStr
import Derived.MapKept
import Derived.TacticsIn
import Derived.RangeFuncIn
import Derived.RangeFuncLeaves
import Derived.Sort.QuietThIn
set_option linter.unusedVariables false
set_option linter.unusedSimpArgs false
set_option maxRecDepth 100000
set_option maxHeartbeats 4000000
namespace Go.Proofs.YtkichehglnecnaaGreatDoor
section
open Option renaming some → a6, none → a7
theorem aa.{u} {d:Sort u} (a b:d):cond true a b=a:=rfl
theorem ac.{u} {d:Sort u} (a b:d):cond false a b=b:=rfl
theorem am.{u} {c:Prop} {h:Decidable c} (d:c) {f:Sort u} {t e:f}:ite c t e=t:=if_pos d
theorem aq.{u} {c:Prop} {h:Decidable c} (d:¬c) {f:Sort u} {t e:f}:ite c t e=e:=if_neg d
inductive Ty where
 |unit
 |bool
 |int (k:IntKind)
 |str
 |list (t:Ty)
 |pair (a b:Ty)
 deriving DecidableEq
@[reducible] def Ty.den:Ty->Type
 |.unit=>Unit
 |.bool=>Bool
 |.int _=>Int
 |.str=>List UInt8
 |.list t=>List t.den
 |.pair a b=>a.den×b.den
def Ty.dflt:(t:Ty)->t.den
 |.unit=>()
 |.bool=>false
 |.int _=>0
 |.str=>[]
 |.list _=>[]
 |.pair a b=>(a.dflt,b.dflt)
def Ty.size:Ty->Nat
 |.unit=>0
 |.pair a b=>a.size+b.size
 |_=>1
def Ty.isAgg:Ty->Bool
 |.unit=>true
 |.pair _ _=>true
 |_=>false
def lM {t':Ty} (t:Ty) (x:t'.den):Option t.den:=if h:t'=t then a6 (cast (congrArg Ty.den h) x)else a7
def Ty.same:(t:Ty)->t.den->t.den->Bool
 |.unit,_,_=>true
 |.bool,x,y=>x==y
 |.int _,x,y=>x==y
 |.str,x,y=>x==y
 |.list _,_,_=>false
 |.pair a b,x,y=>a.same x.1 y.1&&b.same x.2 y.2
def Ty.comparable:Ty->Bool
 |.list _=>false
 |.pair a b=>a.comparable&&b.comparable
 |_=>true
def sub {d:Type} (l:List d) (lo hi:Int):List d:=(l.take hi.toNat).drop lo.toNat
inductive bZ where
 |undef
 |val (t:Ty) (x:t.den)
 |nils
 |nilp
 |nilfn
 |tup (l:List bZ)
 |agg (l:List bZ)
 |cellp (t:Ty) (x:t.den)
 |ptr (id off:Nat)
 |slc (id ver:Nat) (view:Option (Int×Int))
 |ep (id ver:Nat) (i:Nat) (off:Nat)
 |fn (f:FuncId) (caps:List bZ)
 |mfn (f:FuncId) (fst:List bZ)
 |mpv (id:Nat)
 |yld (id:Nat)
 |emp
 |lst (t:Ty) (x:List t.den) (nil:Bool)
 |slf (id:Nat)
 |sd (id ver:Nat)
inductive Ex where
 |normal
 |exit (id:Nat)
 |goto (l:Nat)
 |ret
inductive dV where
 |box (t:TypeId) (cells:List bZ)
 |arr (t:Ty) (ver:Nat) (xs:List t.den)
 |lp (f:FuncId) (fr:List bZ) (ps:List Nat) (asg bd:Code) (key:Option Nat) (state:Nat) (pend:Option Ex)
 |dead
 |mp (kk vk:IntKind) (es:List (Int×Int))
abbrev iw:=List (Nat×dV)
def dW:iw->Nat->Option dV
 |[],_=>a7
 |(k,o)::h,i=>bif k==i then a6 o else dW h i
def jB:iw->Nat->dV->iw
 |[],_,_=>[]
 |(k,o)::h,i,d=>bif k==i then(k,d)::h else(k,o)::jB h i d
structure St where
 fr:List bZ
 stk:List (List bZ)
 hp:iw
 nxt:Nat
inductive TK where
 |bool|str|other
 |int (k:IntKind)
 |slice (e:TypeId)
 |struct (fs:List (Nat×TypeId))
 |fn
 |ptr (e:TypeId)
 |map (k e:TypeId)
structure TI where
 known:Bool
 k:TK
 size:Nat
 bytes:Nat
 ty:Option Ty
 zero:List bZ
 eq:Bool
 bld:Bool:=false
 keep:Bool:=false
instance:Inhabited TI:=⟨⟨false,.other,0,0,a7,[],false,false,false⟩⟩
inductive TT where
 |nil
 |node (k:Nat) (i:TI) (l r:TT)
def TT.at:TT->TypeId->TI
 |.nil,_=>default
 |.node k i l r,t=>bif Nat.beq k t then i else bif Nat.blt t k then l.at t else r.at t
def TI.isAgg (i:TI):Bool:=match i.k with|.struct _=>true|_=>false
def flat:(t:Ty)->t.den->List bZ
 |.unit,_=>[]
 |.pair a b,x=>flat a x.1++flat b x.2
 |.bool,x=>[.val .bool x]
 |.int k,x=>[.val (.int k) x]
 |.str,x=>[.val .str x]
 |.list t,x=>[.val (.list t) x]
def bZ.cells:bZ->Option (List bZ)
 |.val t x=>a6 (flat t x)
 |.agg l=>a6 l
 |.undef=>a7
 |.tup _=>a7
 |v=>a6 [v]
def leaf (t:Ty):bZ->Option t.den
 |.val t' x=>lM t x
 |.nils=>match t with|.list _=>a6 []|_=>a7
 |_=>a7
def mk:(t:Ty)->List bZ->Option (t.den×List bZ)
 |.unit,l=>a6 ((),l)
 |.pair a b,l=>
  match mk a l with
  |some (x,d)=>match mk b d with
   |some (y,e)=>a6 ((x,y),e)
   |none=>a7
  |none=>a7
 |.bool,c::l=>match leaf .bool c with|some x=>a6 (x,l)|none=>a7
 |.int k,c::l=>match leaf (.int k) c with|some x=>a6 (x,l)|none=>a7
 |.str,c::l=>match leaf .str c with|some x=>a6 (x,l)|none=>a7
 |.list t,c::l=>match leaf (.list t) c with|some x=>a6 (x,l)|none=>a7
 |_,[]=>a7
def KC (t:Ty) (l:List bZ):Option t.den:=
 match mk t l with
 |some (x,[])=>a6 x
 |_=>a7
def bZ.isNils:bZ->Bool
 |.nils=>true
 |_=>false
def norm (i:TI) (l:List bZ):bZ:=
 match i.k with
 |.struct _=>match i.ty with
  |some t=>match KC t l with
   |some x=>bif i.keep&&l.any bZ.isNils then .agg l else .val t x
   |none=>.agg l
  |none=>.agg l
 |_=>match l with
  |[v]=>v
  |_=>.undef
def afE {d:Type} (xs:List d):Option (Int×Int)->List d
 |none=>xs
 |some (lo,e)=>sub xs lo e
def EL (hp:iw) (t:Ty) (id d:Nat) (e:Option (Int×Int)):Option (List t.den):=
 match dW hp id with
 |some (.arr t' v f)=>bif v==d then(match lM (.list t) (t':=.list t') f with|some ys=>a6 (afE ys e)|none=>a7)else a7
 |_=>a7
def bZ.as (hp:iw) (t:Ty):bZ->Option t.den
 |.val t' x=>lM t x
 |.nils=>match t with|.list _=>a6 []|_=>a7
 |.emp=>match t with|.list _=>a6 []|_=>a7
 |.lst e xs _=>lM (t':=.list e) t xs
 |.slc id ver d=>match t with|.list e=>EL hp e id ver d|_=>a7
 |.agg l=>bif t.isAgg then KC t l else a7
 |_=>a7
def abS:(t:Ty)->t.den->Nat->bZ
 |.pair a _,x,0=>.val a x.1
 |.pair _ b,x,n+1=>abS b x.2 n
 |_,_,_=>.undef
def VU:(t:Ty)->t.den->Nat->bZ
 |.pair a _,x,0=>.cellp a x.1
 |.pair _ b,x,n+1=>VU b x.2 n
 |_,_,_=>.undef
def zF:Value->bZ
 |.bool b=>.val .bool b
 |.int k n=>.val (.int k) n
 |.string s=>.val .str s.data.toList
 |.slice a7 0 0=>.nils
 |.pointer a7=>.nilp
 |.nilFunc=>.nilfn
 |_=>.undef
def abD:Value->bZ
 |.agg cs=>bif cs.toList.all Value.oneCell' then .agg (cs.toList.map zF)else .undef
 |.tuple _=>.undef
 |v=>zF v
def iH (fr:List bZ):Operand->bZ
 |.tmp t=>fr.getD t .undef
 |.const v=>abD v
 |.global _=>.undef
 |.func f=>.fn f []
def mJ:Nat:=140737488355328
def cO (k:IntKind) (a b:Int):Int:=k.wrap (a+b)
def eP (k:IntKind) (a b:Int):Int:=k.wrap (a-b)
def arM (k:IntKind) (a b:Int):Int:=k.wrap (a*b)
def aLy (k:IntKind) (a b:Int):Int:=k.wrap (a.tdiv b)
def atE (d:BinOp) (k:IntKind) (a b:Int):Int:=
 let x:=BitVec.ofInt k.bits a
 let y:=BitVec.ofInt k.bits b
 match d with
 |.and=>k.wrap (x&&& y).toNat
 |.or=>k.wrap (x|||y).toNat
 |.xor=>k.wrap (x^^^y).toNat
 |_=>k.wrap (x&&& ~~~y).toNat
def aD3 (k:IntKind) (a b:Int):Int:=k.wrap (a*2^(min b.toNat k.bits))
def aD4 (k:IntKind) (a b:Int):Int:=a.fdiv (2^(min b.toNat k.bits))
def iF (a b:Int):Bool:=decide (a<b)
def leI (a b:Int):Bool:=decide (a<=b)
def bY (a b:Int):Bool:=a==b
def bK {d:Type} (l:List d):Int:=(l.length:Int)
def TC (a b:Nat):Bool:=decide (a<b)
def eqN (a b:Nat):Bool:=Nat.beq a b
def leN (a b:Nat):Bool:=decide (a<=b)
def LQ (a b:Int):Int:=if b<a then b else a
def Fh (a b:Int):Int:=if b>a then b else a
def cu (s:List UInt8) (i:Int):Int:=((s.getD i.toNat 0).toNat:Int)
def ed {e:Type} (l:List e) (d:e) (i:Int):e:=l.getD i.toNat d
def gp (a b:List UInt8):Bool:=a==b
def ltS (a b:List UInt8):Bool:=Op.bytesLess a b
def cZ (l:List UInt8):List Int:=l.map fun b=>(b.toNat:Int)
def ofBytes (l:List Int):List UInt8:=l.map fun n=>UInt8.ofNat n.toNat
def aOq (l:List UInt8):Bool:=decide (l.length<=mJ)
def eu {d:Type} (l:List d) (e:Nat):Bool:=decide (l.length*e<=mJ)
def gy {d:Type} (l:List d) (i:Int):Bool:=decide (0<=i)&&decide (i<(l.length:Int))
def eY (n lo hi:Int):Bool:=decide (0<=lo)&&(decide (lo<=hi)&&decide (hi<=n))
def iR {d:Type} (l:List d) (i:Nat) (x:d):List d:=l.set i x
def Cf (d:BinOp) (k:IntKind) (a b:Int):bZ:=
 match d with
 |.add=>.val (.int k) (cO k a b)
 |.sub=>.val (.int k) (eP k a b)
 |.mul=>.val (.int k) (arM k a b)
 |.eql=>.val .bool (bY a b)
 |.neq=>.val .bool (!bY a b)
 |.lss=>.val .bool (iF a b)
 |.leq=>.val .bool (leI a b)
 |.gtr=>.val .bool (iF b a)
 |.geq=>.val .bool (leI b a)
 |_=>.undef
def abr (d:BinOp) (a b:List UInt8):bZ:=
 match d with
 |.eql=>.val .bool (gp a b)
 |.neq=>.val .bool (!gp a b)
 |.lss=>.val .bool (ltS a b)
 |.leq=>.val .bool (ltS a b||gp a b)
 |.gtr=>.val .bool (!(ltS a b||gp a b))
 |.geq=>.val .bool (!ltS a b)
 |_=>.undef
def TT.eqOk (T:TT):Nat->TypeId->Bool
 |0,_=>false
 |n+1,t=>(T.at t).known&&(match(T.at t).k with
  |.bool|.int _|.str=>true
  |.struct d=>(T.at t).eq&&d.all fun f=>T.eqOk n f.2
  |_=>false)
section
variable {R:Type}
def nT (b:Bool) (k:Option R):Option R:=cond b k a7
def agb (T:TT) (d:BinOp) (t:TypeId) (x y:bZ) (K:bZ->Option R):Option R:=
 match x,y with
 |.val (.int k) a,.val (.int f) b=>
  if k=f then
   match d with
   |.quo=>nT (!bY b 0) (K (.val (.int k) (aLy k a b)))
   |.rem=>nT (!bY b 0) (K (.val (.int k) (a.tmod b)))
   |.add|.sub|.mul|.eql|.neq|.lss|.leq|.gtr|.geq=>K (Cf d k a b)
   |.and|.or|.xor|.andNot=>K (.val (.int k) (atE d k a b))
   |.shl=>nT (leI 0 b) (K (.val (.int k) (aD3 k a b)))
   |.shr=>nT (leI 0 b) (K (.val (.int k) (aD4 k a b)))
  else
   match d with
   |.shl=>nT (leI 0 b) (K (.val (.int k) (aD3 k a b)))
   |.shr=>nT (leI 0 b) (K (.val (.int k) (aD4 k a b)))
   |_=>a7
 |.val .bool a,.val .bool b=>
  bif(T.at t).known then
   match(T.at t).k,d with
   |.bool,.eql=>K (.val .bool (a==b))
   |.bool,.neq=>K (.val .bool (!(a==b)))
   |_,_=>a7
  else a7
 |.val .str a,.val .str b=>
  match d with
  |.add=>nT (decide (a.length+b.length<=mJ)) (K (.val .str (a++b)))
  |.eql|.neq|.lss|.leq|.gtr|.geq=>K (abr d a b)
  |_=>a7
 |.lst _ _ b,.nils=>bif(T.at t).known then(match(T.at t).k,d with
  |.slice _,.eql=>K (.val .bool b)
  |.slice _,.neq=>K (.val .bool (!b))
  |_,_=>a7)else a7
 |x,y=>
  bif !T.eqOk 6 t then a7 else
  match(T.at t).k,(T.at t).ty with
  |.struct _,a6 e=>
   match x.as [] e,y.as [] e,d with
   |some a,a6 b,.eql=>K (.val .bool (e.same a b))
   |some a,a6 b,.neq=>K (.val .bool (!e.same a b))
   |_,_,_=>a7
  |_,_=>a7
def Hm:List (Int×Int)->Int->Option Int
 |[],_=>a7
 |(k,v)::l,a=>bif bY a k then a6 v else Hm l a
def nV (l:List (Int×Int)) (a:Int):Int:=match Hm l a with
 |some v=>v
 |none=>0
def ax0 (l:List (Int×Int)) (a:Int):Bool:=match Hm l a with
 |some _=>true
 |none=>false
def xe:List (Int×Int)->Int->Int->List (Int×Int)
 |[],a,b=>[(a,b)]
 |(k,v)::l,a,b=>bif bY a k then(k,b)::l else(k,v)::xe l a b
def TT.mapOf (T:TT) (t:TypeId):Option (IntKind×IntKind):=bif(T.at t).known then(match(T.at t).k with
 |.map k e=>bif(T.at k).known&&(T.at e).known then(match(T.at k).k,(T.at e).k with
  |.int a,.int b=>a6 (a,b)
  |_,_=>a7)else a7
 |_=>a7)else a7
def azj (hp:iw) (x y:bZ):Bool:=match x with
 |.slc id ver _=>(match y with
  |.nils=>(match dW hp id with
   |some (.arr _ v d)=>v==ver&&TC 0 d.length
   |_=>false)
  |_=>false)
 |_=>false
def ays (hp:iw) (x y:bZ):Bool:=match x with
 |.ptr id _=>(match y with
  |.nilp=>(match dW hp id with
   |some (.box _ _)=>true
   |_=>false)
  |_=>false)
 |_=>false
def VQ (T:TT) (hp:iw) (d:BinOp) (t:TypeId) (x y:bZ) (K:bZ->Option R):Option R:=
 bif azj hp x y then(bif(T.at t).known then(match(T.at t).k,d with
  |.slice _,.eql=>K (.val .bool false)
  |.slice _,.neq=>K (.val .bool true)
  |_,_=>a7)else a7)else bif ays hp x y then(bif(T.at t).known then(match(T.at t).k,d with
  |.ptr _,.eql=>K (.val .bool false)
  |.ptr _,.neq=>K (.val .bool true)
  |_,_=>a7)else a7)else agb T d t x y K
def avM (d:UnOp) (x:bZ) (K:bZ->Option R):Option R:=
 match d,x with
 |.not,.val .bool b=>K (.val .bool (!b))
 |.neg,.val (.int k) a=>K (.val (.int k) (eP k 0 a))
 |_,_=>a7
def Ho (cl:Bool) (st:St) (dst:Option Nat):Nat:=cond cl st.nxt<|1000000*st.stk.length+dst.getD 0
def alloc (cl:Bool) (dst:Option Nat) (o:dV) (st:St) (K:Nat->St->Option R):Option R:=
 match dW st.hp (Ho cl st dst)with
 |some _=>a7
 |none=>bif st.nxt.ble (Ho cl st dst)then K (Ho cl st dst) {st with hp:=(Ho cl st dst,o)::st.hp,nxt:=bif cl then Ho cl st dst+1 else st.nxt}else a7
def Nb (cs:List bZ) (off k:Nat):Option (List bZ):=cond ((off+k).ble cs.length) (a6 ((cs.drop off).take k)) a7
def putCells (cs:List bZ) (off:Nat) (vs:List bZ):Option (List bZ):=cond ((off+vs.length).ble cs.length) (a6 (cs.take off++vs++cs.drop (off+vs.length))) a7
def PY (T:TT) (hp:iw) (t:TypeId) (a:bZ) (K:bZ->Option R):Option R:=
 bif !(T.at t).known then a7 else
 match a with
 |.cellp u x=>match(T.at t).ty with
  |some e=>match lM e x with
   |some y=>K (.val e y)
   |none=>a7
  |none=>a7
 |.ptr id d=>match dW hp id with
  |some (.box _ cs)=>match Nb cs d (T.at t).size with
   |some l=>K (norm (T.at t) l)
   |none=>a7
  |_=>a7
 |.ep id ver i d=>match dW hp id with
  |some (.arr u v f)=>bif v==ver then
    (bif TC i f.length then
     (match Nb (flat u (f.getD i u.dflt)) d (T.at t).size with
     |some l=>K (norm (T.at t) l)
     |none=>a7)else a7)else a7
  |_=>a7
 |_=>a7
def Ny (T:TT) (st:St) (t:TypeId) (a v:bZ) (K:St->Option R):Option R:=
 match v.cells with
 |none=>a7
 |some d=>
  bif(T.at t).known&&d.length==(T.at t).size then
   match a with
   |.ptr id e=>match dW st.hp id with
    |some (.box bt cs)=>match putCells cs e d with
     |some g=>K {st with hp:=jB st.hp id (.box bt g)}
     |none=>a7
    |_=>a7
   |.ep id ver i e=>match dW st.hp id with
    |some (.arr u w f)=>bif w==ver then
      (bif TC i f.length then
       (match putCells (flat u (f.getD i u.dflt)) e d with
       |some cs=>match KC u cs with
        |some x=>K {st with hp:=jB st.hp id (.arr u w (iR f i x))}
        |none=>a7
       |none=>a7)else a7)else a7
    |_=>a7
   |_=>a7
  else a7
def agc (f:iw) (st:St) (a v:bZ) (K:St->Option R):Option R:=
 match a,v with
 |.ptr id d,.slc i _ (a6 _)=>match dW f id with
  |some (.box _ g)=>match g.getD d .undef with
   |.slc i0 _ a7=>bif Nat.beq i0 i&& !Nat.beq i id then
     (match dW st.hp id,dW st.hp i with
     |some (.box bt cs),a6 (.arr e w j)=>match cs.getD d .undef with
      |.slc i1 w1 (a6 (lo,l))=>bif Nat.beq i1 i&&(w1==w&&lo==0)then
        K {st with hp:=jB (jB st.hp i (.arr e (w+1) (j.take l.toNat))) id (.box bt (cs.set d (.slc i (w+1) a7)))}else K st
      |_=>K st
     |_,_=>K st)else K st
   |_=>K st
  |_=>K st
 |_,_=>K st
def Ns (T:TT) (d:List (Nat×TypeId)) (cs:List bZ):List (Nat×bZ)->Option (List bZ)
 |[]=>a6 cs
 |(i,v)::g=>match d[i]?,v.cells with
  |some (j,e),a6 f=>bif(T.at e).known&&f.length==(T.at e).size then
    (match putCells cs j f with
    |some l=>Ns T d l g
    |none=>a7)else a7
  |_,_=>a7
def Nv (e:Ty) (xs:List e.den):List (Nat×bZ)->Option (List e.den)
 |[]=>a6 xs
 |(i,v)::d=>match v.as [] e with
  |some x=>bif TC i xs.length then Nv e (xs.set i x) d else a7
  |none=>a7
def intOf:bZ->Option Int
 |.val (.int _) n=>a6 n
 |_=>a7
def bound (d:Int):Option bZ->Option Int
 |none=>a6 d
 |some v=>intOf v
def TT.rowOf (T:TT) (t:TypeId) (size:Nat):Bool:=
 match(T.at t).k with
 |.slice e=>(T.at t).known&&((T.at e).known&&((T.at e).size==size&&(TC 0 size&&TC 0 (T.at e).bytes)))
 |_=>false
def TT.isPtr (T:TT) (t:TypeId):Bool:=
 match(T.at t).k with
 |.ptr _=>(T.at t).known
 |_=>false
def TT.isBytes (T:TT) (t:TypeId):Bool:=
 match(T.at t).k with
 |.ptr e=>(T.at t).known&&((T.at e).known&&(match(T.at e).ty with|some (.int .u8)=>Nat.beq (T.at e).size 1|_=>false))
 |_=>false
def TT.isStr (T:TT) (t:TypeId):Bool:=
 match(T.at t).k with
 |.str=>(T.at t).known
 |_=>false
def Nw (T:TT) (hp:iw) (t:TypeId) (x:bZ) (lo hi f:Option bZ) (K:bZ->Option R):Option R:=
 match x,f with
 |.val .str s,a7=>match bound 0 lo,bound (bK s) hi with
  |some l,a6 h=>nT (T.isStr t&&eY (bK s) l h) (K (.val .str (sub s l h)))
  |_,_=>a7
 |.val (.list e) d,a7=>match bound 0 lo,bound (bK d) hi with
  |some l,a6 h=>nT (T.rowOf t e.size&&eY (bK d) l h) (K (.val (.list e) (sub d l h)))
  |_,_=>a7
 |.val (.list e) d,a6 m=>match bound 0 lo,hi.bind intOf,intOf m with
  |some l,a6 h,a6 k=>nT (T.rowOf t e.size&&(l==0&&(h==0&&k==0))) (K .emp)
  |_,_,_=>a7
 |.nils,a7=>match bound 0 lo,bound 0 hi with
  |some l,a6 h=>nT (T.rowOf t (T.at (match(T.at t).k with|.slice e=>e|_=>0)).size&&(bY l 0&&bY h 0)) (K .nils)
  |_,_=>a7
 |.slc id ver a7,a7=>match dW hp id with
  |some (.arr e v d)=>bif v==ver then
    (match bound 0 lo,bound (bK d) hi with
    |some l,a6 h=>nT (T.rowOf t e.size&&eY (bK d) l h) (K (.slc id ver (a6 (l,h))))
    |_,_=>a7)else a7
  |_=>a7
 |_,_=>a7
def TT.fieldAt (T:TT) (t:TypeId) (f:Nat):Option (Nat×TypeId):=
 match(T.at t).k with
 |.struct e=>bif(T.at t).known then
   (match e[f]? with
   |some (g,d)=>bif(T.at d).known&&TC 0 (T.at d).size then a6 (g,d)else a7
   |none=>a7)else a7
 |_=>a7
def wS (T:TT) (hp:iw) (t:TypeId) (x:bZ) (f:Nat) (K:bZ->Option R):Option R:=
 match T.fieldAt t f with
 |some (d,_)=>match x with
  |.cellp u x=>match(T.at t).ty with
   |some e=>match lM e x with
    |some y=>K (VU e y f)
    |none=>a7
   |none=>a7
  |.ptr id o=>match dW hp id with
   |some (.box _ _)=>K (.ptr id (o+d))
   |_=>a7
  |.ep id ver i o=>match dW hp id with
   |some (.arr _ v _)=>bif v==ver then K (.ep id ver i (o+d))else a7
   |_=>a7
  |_=>a7
 |none=>a7
def Nu (T:TT) (t:TypeId) (x:bZ) (f:Nat) (K:bZ->Option R):Option R:=
 match T.fieldAt t f with
 |some (g,d)=>match x with
  |.val u x=>match(T.at t).ty with
   |some e=>match lM e x with
    |some y=>K (abS e y f)
    |none=>a7
   |none=>a7
  |.agg l=>match Nb l g (T.at d).size with
   |some cs=>K (norm (T.at d) cs)
   |none=>a7
  |_=>a7
 |none=>a7
def wU (T:TT) (hp:iw) (t:TypeId) (x i:bZ) (K:bZ->Option R):Option R:=
 match intOf i with
 |none=>a7
 |some i=>match x with
  |.val (.list e) d=>nT (T.rowOf t e.size&&gy d i) (K (.cellp e (ed d e.dflt i)))
  |.slc id ver f=>match dW hp id with
   |some (.arr e v d)=>bif v==ver then
     (match f with
     |none=>nT (T.rowOf t e.size&&gy d i) (K (.ep id ver i.toNat 0))
     |some (lo,g)=>nT (T.rowOf t e.size&&(decide (0<=i)&&iF (lo+i) g)) (K (.ep id ver (lo+i).toNat 0)))else a7
   |_=>a7
  |_=>a7
def agd (T:TT) (hp:iw) (t:TypeId) (x:bZ) (K:bZ->Option R):Option R:=
 match x with
 |.val .str s=>nT (T.isStr t) (K (.val (.int .i64) (bK s)))
 |.val (.list e) d=>nT (T.rowOf t e.size) (K (.val (.int .i64) (bK d)))
 |.nils=>nT (T.rowOf t (T.at (match(T.at t).k with|.slice e=>e|_=>0)).size) (K (.val (.int .i64) 0))
 |.slc id ver f=>match dW hp id with
  |some (.arr e v d)=>bif v==ver then
    nT (T.rowOf t e.size) (match f with
    |none=>K (.val (.int .i64) (bK d))
    |some (lo,g)=>K (.val (.int .i64) (g-lo)))else a7
  |_=>a7
 |_=>a7
def Nr (T:TT) (cl:Bool) (dst:Option Nat) (t:TypeId) (s x:bZ) (st:St) (K:bZ->St->Option R):Option R:=
 match(T.at t).k with
 |.slice g=>match(T.at g).ty with
  |some e=>match x.as st.hp (.list e)with
   |none=>a7
   |some d=>match s with
    |.nils=>nT (T.rowOf t e.size&&eu d (T.at g).bytes) (alloc cl dst (.arr e 0 d) st fun id st=>K (.slc id 0 a7) st)
    |.emp=>nT (T.rowOf t e.size&&eu d (T.at g).bytes) (bif TC 0 d.length then alloc cl dst (.arr e 0 d) st fun id st=>K (.slc id 0 a7) st else K .emp st)
    |.slc id ver j=>match dW st.hp id with
     |some (.arr e' v f)=>bif v==ver then
       (match lM (t':=.list e') (.list e) f with
       |some f=>match j with
        |none=>nT (T.rowOf t e.size&&eu (f++d) (T.at g).bytes) (K (.slc id (ver+1) a7) {st with hp:=jB st.hp id (.arr e (ver+1) (f++d))})
        |some (lo,i)=>nT (T.rowOf t e.size&&(bY lo 0&&eu (f.take i.toNat++d) (T.at g).bytes))
          (K (.slc id (ver+1) a7) {st with hp:=jB st.hp id (.arr e (ver+1) (f.take i.toNat++d))})
       |none=>a7)else a7
     |_=>a7
    |_=>a7
  |none=>a7
 |_=>a7
def DR (T:TT) (cl:Bool) (dst:Option Nat) (t t':TypeId) (s x:bZ) (st:St) (K:bZ->St->Option R):Option R:=
 match(T.at t).k,x with
 |.slice d,.val .str y=>match(T.at d).ty with
  |some (.int .u8)=>bif T.isStr t'&&T.rowOf t 1&&Nat.beq (T.at d).bytes 1 then
    (match s with
    |.nils=>nT (aOq y) (alloc cl dst (.arr (.int .u8) 0 (cZ y)) st fun id st=>K (.slc id 0 a7) st)
    |.slc id ver f=>match dW st.hp id with
     |some (.arr (.int .u8) v e)=>bif v==ver then
       (match f with
       |none=>nT (eu (e++cZ y) 1) (K (.slc id (ver+1) a7) {st with hp:=jB st.hp id (.arr (.int .u8) (ver+1) (e++cZ y))})
       |some _=>a7)else a7
     |_=>a7
    |_=>a7)else a7
  |_=>a7
 |_,_=>a7
def DT (T:TT) (s d:TypeId) (x:bZ) (hp:iw) (K:bZ->Option R):Option R:=
 bif !((T.at s).known&&(T.at d).known)then a7 else
 match(T.at s).k,(T.at d).k,x with
 |.int _,.int k,.val (.int _) n=>K (.val (.int k) (k.wrap n))
 |.str,.str,.val .str s=>K (.val .str s)
 |.slice e,.str,x=>match(T.at e).k with
  |.int .u8=>match x.as hp (.list (.int .u8))with
   |some f=>nT (T.at e).known (K (.val .str (ofBytes f)))
   |none=>a7
  |_=>a7
 |_,_,_=>a7
abbrev gX (R:Type):=bZ->List bZ->Option Nat->St->(bZ->St->Option R)->Option R
def EF (k:IntKind):List bZ->Option (List Int)
 |[]=>a6 []
 |.val (.int d) a::l=>if k=d then match EF k l with
   |some l=>a6 (a::l)
   |none=>a7
  else a7
 |_=>a7
def lJ (T:TT) (cl:Bool) (o:Oper) (b:Builtin) (d:List TypeId) (args:List bZ) (st:St) (K:bZ->St->Option R):Option R:=
 match b,args with
 |.len,[x]=>match d with
  |[t]=>agd T st.hp t x fun v=>K v st
  |_=>a7
 |.min,.val (.int k) a::l=>match EF k l with
  |some l=>K (.val (.int k) (l.foldl LQ a)) st
  |none=>a7
 |.max,.val (.int k) a::l=>match EF k l with
  |some l=>K (.val (.int k) (l.foldl Fh a)) st
  |none=>a7
 |.append,[s,x]=>match d with
  |[t,g]=>bif t==g then Nr T cl o.dst t s x st K else DR T cl o.dst t g s x st K
  |_=>a7
 |.unsafeSliceData,[.slc id f a7]=>match d with
  |[t]=>match dW st.hp id with
   |some (.arr e v _)=>bif v==f&&(T.rowOf t e.size&&T.isPtr o.type)then K (.sd id f) st else a7
   |_=>a7
  |_=>a7
 |.unsafeString,[.sd id f,.val (.int .i64) n]=>match d with
  |[j,_]=>match dW st.hp id with
   |some (.arr (.int .u8) v i)=>bif v==f&&T.isBytes j then nT (bY n (bK i)) (K (.val .str (ofBytes i)) {st with hp:=jB st.hp id .dead})else a7
   |_=>a7
  |_=>a7
 |_,_=>a7
def fF (T:TT) (cl:Bool) (call:gX R) (o:Oper) (st:St) (K:bZ->St->Option R):Option R:=
 match o.op with
 |.move x|.assign x=>K (iH st.fr x) st
 |.pick c a b=>match iH st.fr c with
  |.val .bool t=>bif t then K (iH st.fr a) st else K (iH st.fr b) st
  |_=>a7
 |.alloc t=>bif(T.at t).known then
   (match(T.at t).k,(T.at t).zero with
   |.slice j,[.nils]=>match(T.at j).ty with
    |some e=>bif TC 0 e.size then alloc cl (a6 (o.dst.getD 0+500000)) (.arr e 0 []) st fun i st=>alloc cl o.dst (.box t [.slc i 0 a7]) st fun id st=>K (.ptr id 0) st
     else a7
    |none=>alloc cl o.dst (.box t (T.at t).zero) st fun id st=>K (.ptr id 0) st
   |.struct _,[.nilp,.nils]=>bif(T.at t).bld then
     alloc cl (a6 (o.dst.getD 0+500000)) (.arr (.int .u8) 0 []) st fun i st=>alloc cl o.dst (.box t [.slf (Ho cl st o.dst),.slc i 0 a7]) st fun id st=>K (.ptr id 0) st
    else alloc cl o.dst (.box t (T.at t).zero) st fun id st=>K (.ptr id 0) st
   |_,z=>alloc cl o.dst (.box t z) st fun id st=>K (.ptr id 0) st)else a7
 |.box t x=>match(iH st.fr x).cells with
  |some E=>bif(T.at t).known&&E.length==(T.at t).size then alloc cl o.dst (.box t E) st fun id st=>K (.ptr id 0) st else a7
  |none=>a7
 |.build t A=>bif !(T.at t).known then a7 else
  match(T.at t).k with
  |.struct I=>match Ns T I (T.at t).zero (A.toList.map fun p=>(p.1,iH st.fr p.2))with
   |some cs=>K (norm (T.at t) cs) st
   |none=>a7
  |_=>a7
 |.buildSlice t n A=>match(T.at t).k with
  |.slice j=>match(T.at j).ty with
   |some e=>match KC e (T.at j).zero with
    |some d=>bif T.rowOf t e.size&&leN (n*e.size) 1000000 then
      (match Nv e (List.replicate n d) (A.toList.map fun p=>(p.1,iH st.fr p.2))with
      |some J=>alloc cl o.dst (.arr e 0 J) st fun id st=>K (.slc id 0 a7) st
      |none=>a7)else a7
    |none=>a7
   |none=>a7
  |_=>a7
 |.load t a=>PY T st.hp t (iH st.fr a) fun v=>K v st
 |.store t a v=>Ny T st t (iH st.fr a) (iH st.fr v) fun L=>agc st.hp L (iH st.fr a) (iH st.fr v) fun st=>K .undef st
 |.nilCheck x=>match iH st.fr x with
  |.ptr id B=>match dW st.hp id with
   |some (.box _ _)=>K (.ptr id B) st
   |_=>a7
  |.cellp t x=>K (.cellp t x) st
  |.ep id ver i B=>match dW st.hp id with
   |some (.arr _ v _)=>bif v==ver then K (.ep id ver i B) st else a7
   |_=>a7
  |_=>a7
 |.binOp op t x y _=>VQ T st.hp op t (iH st.fr x) (iH st.fr y) fun v=>K v st
 |.unOp op _ x=>avM op (iH st.fr x) fun v=>K v st
 |.makeMap t r=>match r,T.mapOf t with
  |none,a6 (q,g)=>alloc cl o.dst (.mp q g []) st fun id st=>K (.mpv id) st
  |_,_=>a7
 |.mapUpdate t m k x=>match T.mapOf t,iH st.fr m with
  |some (q,g),.mpv id=>match dW st.hp id,iH st.fr k,iH st.fr x with
   |some (.mp kk' vk' u),.val (.int D) a,.val (.int M) b=>
    bif decide (kk'=q)&&(decide (D=q)&&(decide (vk'=g)&&decide (M=g)))then K .undef {st with hp:=jB st.hp id (.mp q g (xe u a b))}else a7
   |_,_,_=>a7
  |_,_=>a7
 |.lookup t m k ok=>match T.mapOf t,iH st.fr m with
  |some (q,g),.mpv id=>match dW st.hp id,iH st.fr k with
   |some (.mp kk' vk' u),.val (.int D) a=>
    bif decide (kk'=q)&&(decide (D=q)&&decide (vk'=g))then
     K (bif ok then .tup [.val (.int g) (nV u a),.val .bool (ax0 u a)]else .val (.int g) (nV u a)) st else a7
   |_,_=>a7
  |_,_=>a7
 |.convert s d x=>DT T s d (iH st.fr x) st.hp fun v=>K v st
 |.makeFunc f first G=>match f,first.toList with
  |.func f,[]=>K (.fn f (G.toList.map (iH st.fr))) st
  |.func f,l=>bif G.toList.isEmpty then K (.mfn f (l.map (iH st.fr))) st else a7
  |_,_=>a7
 |.makeSlice t l c=>match(T.at t).k with
  |.slice j=>match(T.at j).ty,intOf (iH st.fr l),intOf (iH st.fr c)with
   |some e,a6 l,a6 c=>match KC e (T.at j).zero with
    |some d=>nT (T.rowOf t e.size&&(decide (0<=l)&&(decide (l<=c)&&decide (c.toNat*(T.at j).bytes<=mJ))))
      (alloc cl o.dst (.arr e 0 (List.replicate l.toNat d)) st fun id st=>K (.slc id 0 a7) st)
    |none=>a7
   |_,_,_=>a7
  |_=>a7
 |.slice t x lo hi N=>Nw T st.hp t (iH st.fr x) (lo.map (iH st.fr)) (hi.map (iH st.fr)) (N.map (iH st.fr)) fun v=>K v st
 |.fieldAddr t x f=>wS T st.hp t (iH st.fr x) f fun v=>K v st
 |.field t x f=>Nu T t (iH st.fr x) f fun v=>K v st
 |.indexAddr t x i=>wU T st.hp t (iH st.fr x) (iH st.fr i) fun v=>K v st
 |.index t x i=>match iH st.fr x,intOf (iH st.fr i)with
  |.val .str s,a6 i=>nT (T.isStr t&&gy s i) (K (.val (.int .u8) (cu s i)) st)
  |_,_=>a7
 |.extract x n=>match iH st.fr x with
  |.tup l=>match l[n]? with
   |some v=>K v st
   |none=>a7
  |_=>a7
 |.call c=>match c.callee with
  |.builtin b=>lJ T cl o b c.argTypes.toList (c.args.toList.map (iH st.fr)) st K
  |.value f=>call (iH st.fr f) (c.args.toList.map (iH st.fr)) o.dst st K
  |_=>a7
 |_=>a7
def St.put (st:St) (dst:Option Nat) (v:bZ):St:=
 match dst with
 |some d=>{st with fr:=st.fr.set d v}
 |none=>st
def iP (T:TT) (cl:Bool) (call:gX R) (ops:Array Oper) (K:St->Option R):List Oper->St->Option R
 |[],st=>K st
 |o::e,st=>
  match o.guard with
  |none=>fF T cl call o st fun v st=>iP T cl call ops K e (st.put o.dst v)
  |some (j,f)=>match(ops[j]?).bind (·.dst)with
   |none=>a7
   |some d=>match st.fr.getD d .undef with
    |.val .bool b=>
     bif b then
      (bif f then fF T cl call o (st.put (a6 d) (.val .bool true)) fun v st=>iP T cl call ops K e (st.put o.dst v)
      else iP T cl call ops K e ((st.put (a6 d) (.val .bool true)).put o.dst (.tup [])))
     else
      (bif f then iP T cl call ops K e ((st.put (a6 d) (.val .bool false)).put o.dst (.tup []))
      else fF T cl call o (st.put (a6 d) (.val .bool false)) fun v st=>iP T cl call ops K e (st.put o.dst v))
    |.tup []=>iP T cl call ops K e (st.put o.dst (.tup []))
    |_=>a7
mutual
def refs:bZ->List Nat
 |.ptr id _=>[id]
 |.slc id _ _=>[id]
 |.ep id _ _ _=>[id]
 |.slf id=>[id]
 |.sd id _=>[id]
 |.yld id=>[id]
 |.tup l=>ni l
 |.agg l=>ni l
 |.fn _ l=>ni l
 |.mfn _ l=>ni l
 |.mpv id=>[id]
 |_=>[]
def ni:List bZ->List Nat
 |[]=>[]
 |v::l=>refs v++ni l
end
def uZ:List (List bZ)->List Nat
 |[]=>[]
 |l::d=>ni l++uZ d
def dV.refs:dV->List Nat
 |.box _ cs=>ni cs
 |.lp _ fr _ _ _ _ _ _=>ni fr
 |_=>[]
def Ag:iw->List Nat
 |[]=>[]
 |(_,o)::h=>o.refs++Ag h
def acB (l:List Nat) (i:Nat):Bool:=l.any (Nat.beq i)
def ayy (h:iw):Nat->List Nat->List Nat
 |0,l=>l
 |n+1,l=>ayy h n (l++Ag (h.filter fun e=>acB l e.1))
def Hr (d l:List Nat):Bool:=l.all fun i=> !acB d i
def gc (d:Nat) (v:bZ) (st:St):Option St:=
 let i:=st.hp.filter fun e=>Nat.blt e.1 d
 let new:=st.hp.filter fun e=> !Nat.blt e.1 d
 let f:=ayy new 3 (refs v++ni st.fr++uZ st.stk++Ag i)
 let g:=st.hp.filter fun e=>Nat.blt e.1 d||acB f e.1
 let j:=((st.hp.filter fun e=> !(Nat.blt e.1 d||acB f e.1)).map (·.1))
 bif Hr j (refs v++ni st.fr++uZ st.stk++Ag g)then a6 {st with hp:=g}else a7
def aF8 (h:iw) (id:Nat):Option Nat:=
 match dW h id with
 |some (.arr _ v _)=>a6 v
 |_=>a7
def Wl (h:iw) (id d:Nat):Bool:=match aF8 h id with
 |some v=>v==d
 |none=>false
mutual
def anew (h:iw):bZ->bZ
 |.slc id d e=>bif Wl h id d then .slc id 0 e else .undef
 |.ep id d i g=>bif Wl h id d then .ep id 0 i g else .undef
 |.sd id d=>bif Wl h id d then .sd id 0 else .undef
 |.tup l=>.tup (DC h l)
 |.agg l=>.agg (DC h l)
 |.fn f l=>.fn f (DC h l)
 |.mfn f l=>.mfn f (DC h l)
 |v=>v
def DC (h:iw):List bZ->List bZ
 |[]=>[]
 |v::l=>anew h v::DC h l
end
def dV.anew (h:iw):dV->dV
 |.box t cs=>.box t (DC h cs)
 |.lp f fr ps a b k n p=>.lp f (DC h fr) ps a b k n p
 |.arr t _ d=>.arr t 0 d
 |o=>o
def abg (st:St):St:=
 {st with fr:=DC st.hp st.fr,stk:=st.stk.map (DC st.hp),hp:=st.hp.map fun e=>(e.1,e.2.anew st.hp)}
structure fJ where
 slots:List Nat
 owns:List (Nat×Ty)
 after:List Nat
 aowns:List (Nat×Ty)
 rets:List Nat
 give:List (Nat×Ty)
def KA (l:List Nat):Nat->List bZ->List bZ
 |_,[]=>[]
 |i,v::r=>(bif acB l i then v else .undef)::KA l (i+1) r
def BJ (s:Nat) (t:Ty) (st:St):Option St:=
 match st.fr.getD s .undef with
 |.nils=>match dW st.hp (1000000*st.stk.length+800000+s)with
  |some _=>a7
  |none=>bif st.nxt.ble (1000000*st.stk.length+800000+s)&&Nat.blt 0 t.size then
    a6 {st with fr:=st.fr.set s (.slc (1000000*st.stk.length+800000+s) 0 a7),hp:=(1000000*st.stk.length+800000+s,.arr t 0 [])::st.hp}else a7
 |.slc id ver d=>match dW st.hp id with
  |some (.arr u w e)=>bif w==ver then
    (match d with
    |none=>a6 st
    |some (lo,f)=>bif lo==0 then
      a6 {st with fr:=st.fr.set s (.slc id (ver+1) a7),hp:=jB st.hp id (.arr u (ver+1) (e.take f.toNat))}else a7)else a7
  |_=>a7
 |_=>a7
def aww (k:Nat) (o:dV):iw->iw
 |[]=>[(k,o)]
 |(j,p)::h=>bif Nat.ble j k then(k,o)::(j,p)::h else(j,p)::aww k o h
def ny:iw->iw
 |[]=>[]
 |(k,o)::h=>aww k o (ny h)
def Xr (id off:Nat) (t:Ty) (st:St):Option St:=
 match dW st.hp id with
 |some (.box bt cs)=>match cs.getD off .undef with
  |.nils=>match t with
   |.pair .unit d=>a6 {st with hp:=jB st.hp id (.box bt (cs.set off (.val (.list d) [])))}
   |t=>match dW st.hp (id+500000+2000*off)with
    |some _=>a7
    |none=>bif st.nxt.ble (id+500000+2000*off)&&Nat.blt 0 t.size then
      a6 {st with hp:=jB ((id+500000+2000*off,.arr t 0 [])::st.hp) id (.box bt (cs.set off (.slc (id+500000+2000*off) 0 a7)))}else a7
  |_=>a6 st
 |_=>a6 st
def TW (id off:Nat) (t:Ty) (st:St):Option St:=
 match Xr id off t st with
 |some st=>a6 {st with hp:=ny st.hp}
 |none=>a7
def G5 (s:Nat) (t:Ty) (st:St):Option St:=
 match st.fr.getD s .undef with
 |.nils=>a6 {st with fr:=st.fr.set s (.val (.list t) [])}
 |.emp=>a6 {st with fr:=st.fr.set s (.val (.list t) [])}
 |.slc id ver a7=>match dW st.hp id with
  |some (.arr u w d)=>bif w==ver&&Hr ((st.hp.filter fun e=> !(!Nat.beq e.1 id)).map (·.1)) (ni (st.fr.set s .undef)++uZ st.stk++Ag (st.hp.filter fun e=> !Nat.beq e.1 id))then
    a6 {st with fr:=st.fr.set s (.val (.list u) d),hp:=st.hp.filter fun e=> !Nat.beq e.1 id}else a7
  |_=>a7
 |.slc _ _ (a6 _)=>a7
 |_=>a6 st
def Us (s:Nat) (t:Ty) (st:St):Option St:=
 match st.fr.getD s .undef with
 |.slc id ver a7=>bif Nat.beq id (1000000*st.stk.length+800000+s)then a6 {st with hp:=ny st.hp}else
  match dW st.hp id with
  |some (.arr u w d)=>bif st.nxt.ble (1000000*st.stk.length+800000+s)&&Hr [id,1000000*st.stk.length+800000+s] (ni (st.fr.set s .undef)++uZ st.stk++Ag (st.hp.filter fun e=> !(Nat.beq e.1 id||Nat.beq e.1 (1000000*st.stk.length+800000+s))))then
    a6 {st with fr:=st.fr.set s (.slc (1000000*st.stk.length+800000+s) ver a7),hp:=ny ((1000000*st.stk.length+800000+s,.arr u w d)::st.hp.filter fun e=> !(Nat.beq e.1 id||Nat.beq e.1 (1000000*st.stk.length+800000+s)))}else a7
  |_=>a7
 |.ptr id 0=>bif Nat.beq id (1000000*st.stk.length+800000+s)then a6 {st with hp:=ny st.hp}else
  match dW st.hp id with
  |some (.box u d)=>bif st.nxt.ble (1000000*st.stk.length+800000+s)&&Hr [id,1000000*st.stk.length+800000+s] (ni (st.fr.set s .undef)++uZ st.stk++(ni d++Ag (st.hp.filter fun e=> !(Nat.beq e.1 id||Nat.beq e.1 (1000000*st.stk.length+800000+s)))))then
    a6 {st with fr:=st.fr.set s (.ptr (1000000*st.stk.length+800000+s) 0),hp:=ny ((1000000*st.stk.length+800000+s,.box u d)::st.hp.filter fun e=> !(Nat.beq e.1 id||Nat.beq e.1 (1000000*st.stk.length+800000+s)))}else a7
  |_=>a7
 |_=>match BJ s t st with
  |some st=>a6 {st with hp:=ny st.hp}
  |none=>a7
def I4:List (Nat×Ty)->St->Option St
 |[],st=>a6 st
 |(s,t)::l,st=>match G5 s t st with
  |some st=>I4 l st
  |none=>a7
def kw:List (Nat×Ty)->St->Option St
 |[],st=>a6 st
 |(s,.pair .unit t)::l,st=>match G5 s t st with
  |some st=>kw l st
  |none=>a7
 |(s,.pair (.list .unit) t)::l,st=>match TW (s/100) (s %100) t st with
  |some st=>kw l st
  |none=>a7
 |(s,.pair (.list .bool) t)::l,st=>match Us s t st with
  |some st=>kw l st
  |none=>a7
 |(s,t)::l,st=>match BJ s t st with
  |some st=>kw l st
  |none=>a7
def PE (d:List Nat) (e:List (Nat×Ty)) (st:St):Option St:=
 match(match e with
  |[]=>a6 {st with fr:=KA d 0 st.fr}
  |_=>gc (1000000*st.stk.length) .undef {st with fr:=KA d 0 st.fr})with
 |some st=>match kw e st with
  |some st=>match gc (1000000*st.stk.length) .undef st with
   |some st=>a6 (abg st)
   |none=>a7
  |none=>a7
 |none=>a7
def aAM (k:fJ) (st:St):Option St:=
 match I4 k.give {st with fr:=KA k.rets 0 st.fr}with
 |some st=>match gc (1000000*st.stk.length) .undef st with
  |some st=>a6 (abg st)
  |none=>a7
 |none=>a7
def iter (kp:Option fJ) (F:St->(Ex->St->Option R)->Option R):Nat->St->(Ex->St->Option R)->Option R
 |0,_,_=>a7
 |n+1,st,K=>F st fun d st=>match d with
  |.normal=>match kp with
   |none=>iter kp F n st K
   |some k=>match PE k.slots k.owns st with
    |some st=>iter kp F n st K
    |none=>a7
  |.ret=>match kp with
   |none=>K .ret st
   |some k=>match aAM k st with
    |some st=>K .ret st
    |none=>a7
  |d=>match kp with
   |none=>K d st
   |some k=>match PE k.after k.aowns st with
    |some st=>K d st
    |none=>a7
def dK:Code->Nat
 |.region id _ _=>id
 |.seq a _=>dK a
 |.block _ c=>dK c
 |.loop c=>dK c
 |.scope c=>dK c
 |.cond _ a _=>dK a
 |_=>0
def bT:Nat:=10000000000000000000000000000000000000000
def Ty.rigid:Ty->Bool
 |.list _=>false
 |.pair a b=>a.rigid&&b.rigid
 |_=>true
structure Sum where
 ps:List Ty
 rs:List (Ty×Bool)
 f:(ps.foldr Ty.pair Ty.unit).den->Option ((rs.map (·.1)).foldr Ty.pair Ty.unit).den
def DD (hp:iw):(ps:List Ty)->List bZ->Option (ps.foldr Ty.pair Ty.unit).den
 |[],[]=>a6 ()
 |t::d,v::e=>match v.as hp t with
  |some x=>match DD hp d e with
   |some y=>a6 (x,y)
   |none=>a7
  |none=>a7
 |_,_=>a7
def Ty.elem:Ty->Ty
 |.list t=>t
 |t=>t
def qQ (id:Nat):(rs:List (Ty×Bool))->((rs.map (·.1)).foldr Ty.pair Ty.unit).den->List bZ
 |[],_=>[]
 |(t,false)::rs,y=>.val t y.1::qQ id rs y.2
 |(_,true)::rs,y=>.slc id 0 a7::qQ id rs y.2
def BH:(rs:List (Ty×Bool))->((rs.map (·.1)).foldr Ty.pair Ty.unit).den->Option (Σ e:Ty,List e.den)
 |[],_=>a7
 |(_,false)::rs,y=>BH rs y.2
 |(.list e,true)::_,y=>a6 ⟨e,y.1⟩
 |(_,true)::_,_=>a7
def oH:bZ->Bool
 |.slc _ _ _=>true
 |.agg _=>true
 |_=>false
def QI:List bZ->bZ
 |[v]=>v
 |vs=>.tup vs
def news:List (Ty×Bool)->Nat
 |[]=>0
 |(_,false)::d=>news d
 |(_,true)::d=>news d+1
def bJ {d e:Type} (o:Option d) (k:d->Option e):Option e:=
 match o with
 |some x=>k x
 |none=>a7
def Sum.call (s:Sum) (cl:Bool) (args:List bZ) (dst:Option Nat) (st:St) (K:bZ->St->Option R):Option R:=
 bif s.rs.all (fun r=>r.1.rigid||(r.2&&r.1.elem.rigid))|| !args.any oH then
  match DD st.hp s.ps args with
  |some x=>bJ (s.f x) fun y=>match BH s.rs y with
   |none=>bif Nat.beq (news s.rs) 0 then K (QI (qQ 0 s.rs y)) st else a7
   |some ⟨e,d⟩=>bif Nat.beq (news s.rs) 1 then alloc cl (a6 (dst.getD 0+100000)) (.arr e 0 d) st fun id st=>K (QI (qQ id s.rs y)) st else a7
  |none=>a7
 else a7
structure fZ where
 bt:TypeId
 cs:List (Ty×Bool)
 ps:List Ty
 rs:List Ty
 f:((cs.map (·.1)).foldr Ty.pair Ty.unit).den->(ps.foldr Ty.pair Ty.unit).den->Option (((cs.map (·.1)).foldr Ty.pair Ty.unit).den×(rs.foldr Ty.pair Ty.unit).den)
def Np:(d:List Ty)->(d.foldr Ty.pair Ty.unit).den->List bZ
 |[],_=>[]
 |t::d,x=>.val t x.1::Np d x.2
def qL:List (Ty×Bool)->List bZ->List (Nat×Nat)
 |(_,true)::cs,.slc id ver _::d=>(id,ver)::qL cs d
 |_::cs,_::d=>qL cs d
 |_,_=>[]
def wQ:List (Ty×Bool)->List bZ->List Nat
 |(_,false)::cs,v::d=>refs v++wQ cs d
 |_::cs,_::d=>wQ cs d
 |_,_=>[]
def kS (hp:iw) (d:Bool):(cs:List (Ty×Bool))->List bZ->Option ((cs.map (·.1)).foldr Ty.pair Ty.unit).den
 |[],[]=>a6 ()
 |(t,false)::cs,v::f=>bif d&&(oH v&& !t.rigid)then a7 else match v.as hp t with
  |some x=>match kS hp d cs f with
   |some y=>a6 (x,y)
   |none=>a7
  |none=>a7
 |(.list e,true)::cs,.slc id ver a7::f=>match dW hp id with
  |some (.arr t v g)=>bif v==ver then(match lM (.list e) (t':=.list t) g with
   |some x=>match kS hp d cs f with
    |some y=>a6 (x,y)
    |none=>a7
   |none=>a7)else a7
  |_=>a7
 |_,_=>a7
def J5:(cs:List (Ty×Bool))->List (Nat×Nat)->((cs.map (·.1)).foldr Ty.pair Ty.unit).den->List bZ
 |[],_,_=>[]
 |(t,false)::cs,l,y=>.val t y.1::J5 cs l y.2
 |(_,true)::cs,(i,v)::l,y=>.slc i v a7::J5 cs l y.2
 |(_,true)::cs,[],y=>.undef::J5 cs [] y.2
def wM:(cs:List (Ty×Bool))->List (Nat×Nat)->((cs.map (·.1)).foldr Ty.pair Ty.unit).den->iw
 |[],_,_=>[]
 |(_,false)::cs,l,y=>wM cs l y.2
 |(.list e,true)::cs,(i,v)::l,y=>(i,.arr e v y.1)::wM cs l y.2
 |(_,true)::cs,l,y=>wM cs l y.2
def RQ:iw->iw->iw
 |[],h=>h
 |(i,o)::l,h=>RQ l (jB h i o)
def jA:List (Ty×Bool)->Nat->List (Nat×Nat)
 |[],_=>[]
 |(_,true)::cs,n=>(n,0)::jA cs (n+1)
 |(_,false)::cs,n=>jA cs n
def Xl:List Nat->Bool
 |[]=>true
 |i::l=> !acB l i&&Xl l
def fZ.rigid (s:fZ):Bool:=s.cs.all (fun c=>c.1.rigid||(c.2&&c.1.elem.rigid))&&s.rs.all Ty.rigid
def vM (cl:Bool):Nat->List (Ty×Bool)->List bZ->St->(List bZ->St->Option R)->Option R
 |n,(.list e,true)::cs,.nils::d,st,K=>bif TC 0 e.size then alloc cl (a6 n) (.arr e 0 []) st fun id st=>vM cl (n+1) cs d st fun l st=>K (.slc id 0 a7::l) st else a7
 |n,_::cs,v::d,st,K=>vM cl (n+1) cs d st fun l st=>K (v::l) st
 |_,_,l,st,K=>K l st
def fZ.go (s:fZ) (id:Nat) (d:List bZ) (st:St) (K:bZ->St->Option R):Option R:=
 match dW st.hp id with
 |some (.box t cells)=>
  bif Nat.beq t s.bt&&((Xl ((qL s.cs cells).map (·.1))&&Hr (id::(qL s.cs cells).map (·.1)) (ni d++wQ s.cs cells))&&(s.rigid|| !d.any oH))then
   match kS st.hp (!s.rigid) s.cs cells with
   |some x=>match DD st.hp s.ps d with
    |some y=>bJ (s.f x y) fun z=>K (QI (Np s.rs z.2))
      {st with hp:=jB (RQ (wM s.cs ((qL s.cs cells).map fun p=>(p.1,p.2+1)) z.1) st.hp) id (.box t (J5 s.cs ((qL s.cs cells).map fun p=>(p.1,p.2+1)) z.1))}
    |none=>a7
   |none=>a7
  else a7
 |_=>a7
def fZ.call (s:fZ) (cl:Bool) (args:List bZ) (st:St) (K:bZ->St->Option R):Option R:=
 match args with
 |.ptr id 0::d=>match dW st.hp id with
  |some (.box t cells)=>bif cells.any (fun v=>match v with|.nils=>true|_=>false)then
    vM cl (200000+20*(id %5000)) s.cs cells st fun cells st=>s.go id d {st with hp:=jB st.hp id (.box t cells)} K
   else s.go id d st K
  |_=>a7
 |_=>a7
inductive Job where
 |call (f:FuncId) (args:List bZ)
 |yield (id:Nat) (args:List bZ)
structure dD where
 V:Type
 A:V->Type
 B:V->Type
 get:St->Option V
 spec:(v:V)->Option (A v⊕B v)
 exA:V->Ex
 stA:St->(v:V)->A v->St
 stB:St->(v:V)->B v->St
 dep:Nat:=0
 exB:V->Ex:=fun _=>.ret
def dR {e i d:Type} (o:e⊕i) (f:e->d) (g:i->d):d:=
 match o with
 |.inl a=>f a
 |.inr b=>g b
structure Env where
 P:Program
 T:TT
 cl:Bool
 kp:FuncId->Nat->Option fJ
 sg:FuncId->Option Sum
 lp:FuncId->Nat->Option dD
 rf:FuncId->Nat->Bool:=fun _ _=>false
 bf:FuncId->Bool:=fun _=>false
 dp:Nat:=0
 sb:FuncId->Option fZ:=fun _=>a7
def Env.at (E:Env) (n:Nat):Env:={E with dp:=n}
def Vw (T:TT) (args:List bZ) (st:St) (K:bZ->St->Option R):Option R:=
 match args with
 |[.ptr id 0]=>match dW st.hp id with
  |some (.box t (.slf i:: .slc _ _ _::[]))=>bif Nat.beq i id&&((T.at t).known&&(T.at t).bld)then K (.tup []) st else a7
  |_=>a7
 |_=>a7
abbrev oQ (R:Type):=Job->St->(bZ->St->Option R)->Option R
structure abe where
 q:Job->St->Option bZ
 s:oQ St
 u:oQ Unit
def zD (E:Env) (f:oQ R):gX R:=fun j d l st K=>
 match j with
 |.fn g e=>match E.sg g with
  |some s=>s.call E.cl (d++e) l st K
  |none=>match E.sb g with
   |some s=>s.call E.cl (d++e) st K
   |none=>bif E.bf g then Vw E.T (d++e) st K else f (.call g (d++e)) st K
 |.mfn g i=>match E.sb g with
  |some s=>s.call E.cl (i++d) st K
  |none=>f (.call g (i++d)) st K
 |.yld id=>f (.yield id d) st K
 |_=>a7
def bZ.rigid:bZ->Bool
 |.val t _=>t.rigid
 |_=>false
def bZ.calm:bZ->Bool
 |.val _ _=>true
 |_=>false
def bZ.rigidR:bZ->Bool
 |.tup l=>l.all bZ.rigid
 |v=>v.rigid
def Zr (hp:iw):bZ->Option bZ
 |.val t x=>a6 (.val t x)
 |.nils=>a6 .nils
 |.slc id ver d=>match dW hp id with
  |some (.arr t v e)=>bif v==ver then a6 (.val (.list t) (afE e d))else a7
  |_=>a7
 |_=>a7
def Vh (hp:iw):List bZ->Option (List bZ)
 |[]=>a6 []
 |v::l=>match Zr hp v with
  |some v=>match Vh hp l with
   |some l=>a6 (v::l)
   |none=>a7
  |none=>a7
def VE (E:Env) (e:Job->St->Option bZ):gX R:=fun f d i st K=>
 match f with
 |.fn g []=>match E.sg g with
  |some s=>bif s.rs.all (fun r=> !r.2&&r.1.rigid)then s.call E.cl d i st K else a7
  |none=>match Vh st.hp d with
   |some d=>match e (.call g d) ⟨[],[],[],st.nxt⟩with
    |some v=>bif v.rigidR then K v st else a7
    |none=>a7
   |none=>a7
 |_=>a7
def kQ:Op->Bool
 |.move _|.assign _|.pick _ _ _|.load _ _|.nilCheck _|.binOp _ _ _ _ _|.unOp _ _ _|.slice _ _ _ _ _|.fieldAddr _ _ _|.field _ _ _|.indexAddr _ _ _|.index _ _ _|.extract _ _|.build _ _|.convert _ _ _=>true
 |.call c=>match c.callee with
  |.builtin .len=>true
  |.builtin .min=>true
  |.builtin .max=>true
  |.value _=>true
  |_=>false
 |_=>false
def iT:Op->Bool
 |.call c=>match c.callee with
  |.builtin .len=>true
  |.builtin .min=>true
  |.builtin .max=>true
  |_=>false
 |o=>kQ o
def MB:Op->Bool
 |.move _|.assign _|.pick _ _ _|.nilCheck _|.binOp _ _ _ _ _|.unOp _ _ _|.slice _ _ _ _ _|.fieldAddr _ _ _|.field _ _ _|.indexAddr _ _ _|.index _ _ _|.extract _ _=>true
 |.call c=>match c.callee with
  |.builtin .len=>true
  |.builtin .min=>true
  |.builtin .max=>true
  |_=>false
 |_=>false
def TR:Op->Bool
 |.move _|.assign _|.pick _ _ _|.load _ _|.index _ _ _|.extract _ _|.alloc _|.box _ _=>true
 |.call c=>match c.callee with
  |.builtin .len=>true
  |.builtin .unsafeSliceData=>true
  |_=>false
 |_=>false
def oG (ops:Array Oper):Bool:=ops.toList.all fun o=>match o.op with|.defer _=>false|.select _ _=>false|_=>true
def aag (l:List Nat) (i:Nat):Bool:=l.any (Nat.beq i)
def IJ (ops:Array Oper) (j:Nat) (D:List Nat):Bool:=match ops[j]? with
 |some d=>d.after.any fun e=>Region.binds .any e&&aag D e.on
 |none=>false
def aL2 (ops:Array Oper) (d:Array Bool) (n:Nat) (D:List Nat):List Nat:=(List.range n).foldl (fun D j=>cond (!d.getD j true&&(!aag D j&&IJ ops j D)) (j::D) D) D
def Yy (ops:Array Oper) (d:Array Bool) (i:Nat) (pure:Bool):Bool:=match ops[i]? with
 |some f=>let D:=aL2 ops d ops.size [i]
  aag D i&&(D.all (fun j=> !d.getD j true&&(Nat.beq j i||IJ ops j D))&&(List.range ops.size).all fun j=>d.getD j true||(aag D j||(match ops[j]? with
   |some e=>f.apart ops e&&(pure||TR e.op)
   |none=>true)))
 |none=>false
def ako (ops:Array Oper) (f:Op->Bool) (i:Nat):Bool:=match ops[i]? with
 |some o=>f o.op
 |none=>false
def zJ {d:Type} (f:d->d->Bool):List d->List d->Bool
 |[],[]=>true
 |x::l,y::m=>f x y&&zJ f l m
 |_,_=>false
def eqD:(t:Ty)->t.den->t.den->Bool
 |.unit,_,_=>true
 |.bool,x,y=>x==y
 |.int _,x,y=>bY x y
 |.str,x,y=>gp x y
 |.list t,x,y=>zJ (eqD t) x y
 |.pair a b,x,y=>eqD a x.1 y.1&&eqD b x.2 y.2
def ajp:Option (Int×Int)->Option (Int×Int)->Bool
 |none,a7=>true
 |some a,a6 b=>bY a.1 b.1&&bY a.2 b.2
 |_,_=>false
mutual
def YO (a b:bZ):Bool:=
 match a with
 |.undef=>match b with|.undef=>true|_=>false
 |.val t x=>match b with
  |.val u y=>(match lM t y with|some y=>eqD t x y|none=>false)
  |_=>false
 |.nils=>match b with|.nils=>true|_=>false
 |.nilp=>match b with|.nilp=>true|_=>false
 |.nilfn=>match b with|.nilfn=>true|_=>false
 |.emp=>match b with|.emp=>true|_=>false
 |.tup l=>match b with|.tup m=>Ls l m|_=>false
 |.agg l=>match b with|.agg m=>Ls l m|_=>false
 |.cellp t x=>match b with
  |.cellp u y=>(match lM t y with|some y=>eqD t x y|none=>false)
  |_=>false
 |.lst t x n=>match b with
  |.lst u y m=>n==m&&(match lM (.list t) (t':=.list u) y with|some y=>eqD (.list t) x y|none=>false)
  |_=>false
 |.ptr i o=>match b with|.ptr j p=>Nat.beq i j&&Nat.beq o p|_=>false
 |.slc i v w=>match b with|.slc j u x=>Nat.beq i j&&(Nat.beq v u&&ajp w x)|_=>false
 |.ep i v n o=>match b with|.ep j u m p=>Nat.beq i j&&(Nat.beq v u&&(eqN n m&&Nat.beq o p))|_=>false
 |.fn f l=>match b with|.fn g m=>Nat.beq f g&&Ls l m|_=>false
 |.mfn f l=>match b with|.mfn g m=>Nat.beq f g&&Ls l m|_=>false
 |.mpv i=>match b with|.mpv j=>Nat.beq i j|_=>false
 |.yld i=>match b with|.yld j=>Nat.beq i j|_=>false
 |.slf i=>match b with|.slf j=>Nat.beq i j|_=>false
 |.sd i v=>match b with|.sd j u=>Nat.beq i j&&Nat.beq v u|_=>false
def Ls:List bZ->List bZ->Bool
 |[],m=>match m with|[]=>true|_=>false
 |a::l,m=>match m with|b::m=>YO a b&&Ls l m|_=>false
end
def aGT (a b:Ex):Bool:=match a with
 |.normal=>match b with|.normal=>true|_=>false
 |.exit i=>match b with|.exit j=>Nat.beq i j|_=>false
 |.goto i=>match b with|.goto j=>Nat.beq i j|_=>false
 |.ret=>match b with|.ret=>true|_=>false
def avH:Option Ex->Option Ex->Bool
 |none,a7=>true
 |some a,a6 b=>aGT a b
 |_,_=>false
def eqO (a b:dV):Bool:=
 match a with
 |.box t l=>match b with|.box u m=>Nat.beq t u&&Ls l m|_=>false
 |.arr t v x=>match b with
  |.arr u w y=>Nat.beq v w&&(match lM (.list t) (t':=.list u) y with|some y=>eqD (.list t) x y|none=>false)
  |_=>false
 |.lp f fr ps _ _ k n p=>match b with
  |.lp g fs qs _ _ h m q=>Nat.beq f g&&(Ls fr fs&&(zJ Nat.beq ps qs&&((match k,h with|some k,a6 h=>Nat.beq k h|_,_=>false)&&(Nat.beq n m&&avH p q))))
  |_=>false
 |.dead=>match b with|.dead=>true|_=>false
 |.mp k v l=>match b with
  |.mp k' v' m=>decide (k=k')&&(decide (v=v')&&decide (l=m))
  |_=>false
def eqH:iw->iw->Bool
 |[],h=>match h with|[]=>true|_=>false
 |(i,a)::h,g=>match g with
  |(j,b)::g=>Nat.beq i j&&(eqO a b&&eqH h g)
  |[]=>false
def avJ (a b:St):Bool:=Ls a.fr b.fr&&(zJ Ls a.stk b.stk&&(eqH a.hp b.hp&&Nat.beq a.nxt b.nxt))
def YD (d:iw) (i:Nat) (a:dV):Option dV:=match a with
 |.lp f fr ps _ _ (a6 k) n p=>match dW d i with
  |some (.lp g _ _ asg bd (a6 h) _ _)=>bif Nat.beq f g&&Nat.beq k h then a6 (.lp f fr ps asg bd (a6 k) n p)else a7
  |_=>a7
 |.lp _ _ _ _ _ a7 _ _=>a7
 |a=>a6 a
def YA (d:iw):iw->Option iw
 |[]=>a6 []
 |(i,a)::h=>match YD d i a with
  |some a=>match YA d h with
   |some h=>a6 ((i,a)::h)
   |none=>a7
  |none=>a7
def vV:iw->Bool
 |[]=>true
 |(k,_)::h=> !h.any (fun e=>Nat.beq e.1 k)&&vV h
def Xd (d:iw):List (Option St)->Option St
 |some a::l=>bif(a6 a::l).all (fun b=>match b with|some b=>avJ a b&&vV b.hp|none=>false)then
   (match YA d a.hp with|some h=>a6 {a with hp:=h}|none=>a7)else a7
 |_=>a7
def tidy (cl:Bool) (st:St):St:=cond cl st {st with hp:=ny st.hp}
def wG (ops:Array Oper) (i k:Nat):Bool:=match ops[i]? with
 |some d=>d.after.any fun e=>Region.binds .any e&&Nat.beq e.on k
 |none=>false
def I8 (ops:Array Oper) (x y:Oper):Bool:=match y.dst with
 |some d=> !(x.looksAt ops).contains d&&x.dst !=a6 d
 |none=>true
def Qv (ops:Array Oper) (log:List Nat) (i:Nat):Bool:=match ops[i]? with
 |some d=>I8 ops {d with dst:=a7} d&&log.all fun k=>match ops[k]? with
  |some ok=>I8 ops ok d&&(wG ops i k||ok.apart ops d)
  |none=>false
 |none=>false
def aye (ops:Array Oper) (log:List Nat) (i:Nat):Bool:=match ops[i]? with
 |some d=>log.all fun k=>match ops[k]? with
  |some ok=>wG ops i k||ok.apart ops d
  |none=>false
 |none=>false
def qW (ops:Array Oper):List Nat->List bZ->List bZ
 |[],e=>e
 |i::l,e=>match(ops[i]?).bind (·.dst)with
  |some d=>(qW ops l e).set d .undef
  |none=>qW ops l e
def sameAt (dst:Option Nat) (z:bZ) (st:St):Bool:=match dst with
 |some d=>YO z (st.fr.getD d .undef)
 |none=>true
def OW (s:Sum):Bool:=s.rs.all fun r=> !r.2&&r.1.rigid
def J8 (sg:FuncId->Option Sum) (cl:Bool):gX R:=fun e d f st K=>match e with
 |.fn g []=>match sg g with
  |some s=>bif OW s&&d.all bZ.calm then s.call cl d f st K else a7
  |none=>a7
 |_=>a7
def yN (sg:FuncId->Option Sum) (o:Op):Bool:=match o with
 |.call c=>match c.callee with
  |.builtin _=>true
  |.value (.func g)=>match sg g with
   |some s=>OW s
   |none=>false
  |_=>false
 |_=>true
def U8:List (Option Unit)->Option R->Option R
 |[],k=>k
 |o::l,k=>bJ o fun _=>U8 l k
def settle (d:iw) (a:St):Option St:=match YA d a.hp with
 |some h=>a6 {a with hp:=h}
 |none=>a7
def jZ (o:Oper) (fr:List bZ):List bZ:=match o.op with
 |.call c=>match c.callee with
  |.value v=>iH fr v::c.args.toList.map (iH fr)
  |_=>[]
 |_=>[]
def acj (sg:FuncId->Option Sum) (ops:Array Oper) (fr:List bZ) (i:Nat):Bool:=match ops[i]? with
 |some o=>match jZ o fr with
  |.fn g []::e=>match sg g with
   |some s=>(OW s&&e.all bZ.calm)&&(match o.dst with|some d=>TC d fr.length|none=>true)
   |none=>false
  |_=>false
 |none=>false
def Dt (dst:Option Nat) (fr:List bZ):List bZ:=match dst with
 |some d=>[fr.getD d .undef]
 |none=>[]
def BM (T:TT) (cl:Bool) (call:gX R) (ops:Array Oper) (e:List bZ):List Nat->St->(St->Option R)->Option R
 |[],st,K=>K st
 |i::l,st,K=>match ops[i]? with
  |some d=>bif iT d.op then(fF T cl call d st fun z _=>bif sameAt d.dst z st then BM T cl call ops e l st K else a7)
   else bif Ls (jZ d e) (jZ d st.fr)&&Ls (Dt d.dst e) (Dt d.dst st.fr)then BM T cl call ops e l st K else a7
  |none=>a7
def wX (T:TT) (cl:Bool) (call:gX R) (ops:Array Oper) (j:Nat) (log:List Nat) (st:St) (K:St->Option R):Option R:=
 match ops[j]? with
 |some d=>bif d.guard.isNone&&aye ops log j then
   fF T cl call d {st with fr:=qW ops (log.filter fun i=> !wG ops j i) st.fr,stk:=st.fr::st.stk} fun z g=>match g.stk with
    |e::f=>BM T cl call ops st.fr (log.filter fun i=> !wG ops j i).reverse ({g with fr:=e,stk:=f}.put d.dst z) K
    |[]=>a7
  else a7
 |none=>a7
def og (T:TT) (cl:Bool) (sg:FuncId->Option Sum) (d:gX St) (e:gX Unit) (ops:Array Oper):Nat->{R:Type}->gX R->Array Bool->List Nat->St->(St->Option R)->Option R
  |0,_,_,_,_,_,_=>a7
  |n+1,_,call,f,log,st,K=>match Region.ready .any ops f with
    |[]=>K st
    |k::rs=>match(k::rs).find? fun i=>ako ops iT i&&Qv ops log i with
      |some i=>match ops[i]? with
        |some g=>bif g.guard.isNone&&Qv ops log i then
            fF T cl call g st fun z st=>og T cl sg d e ops n call (f.setIfInBounds i true) (i::log) (st.put g.dst z) K else a7
        |none=>a7
      |none=>match(k::rs).find? fun i=>acj sg ops st.fr i with
       |some i=>match ops[i]? with
        |some g=>bif g.guard.isNone&&Qv ops log i then
            fF T cl (J8 sg cl) g st fun z st=>og T cl sg d e ops n call (f.setIfInBounds i true) (i::log) (st.put g.dst z) K else a7
        |none=>a7
       |none=>match rs with
        |[]=>wX T cl call ops k log st fun st=>og T cl sg d e ops n call (f.setIfInBounds k true) log st K
        |_=>bif cl|| !ops.toList.all (fun o=>yN sg o.op)then(match Xd st.hp ((k::rs).map fun j=>wX T cl d ops j log st fun st=>og T cl sg d e ops n d (f.setIfInBounds j true) log st fun st=>a6 (tidy cl st))with
          |some st=>K st
          |none=>a7)else
          wX T cl call ops k log st fun l=>og T cl sg d e ops n call (f.setIfInBounds k true) log l fun st1=>
            bif vV (tidy cl st1).hp then(match settle st.hp (tidy cl st1)with
              |some m=>U8 (rs.map fun j=>wX T cl e ops j log st fun l=>og T cl sg d e ops n e (f.setIfInBounds j true) log l fun b=>
                  bif avJ (tidy cl st1) (tidy cl b)&&vV (tidy cl b).hp then a6 ()else a7) (K m)
              |none=>a7)else a7
def xm (ops:Array Oper):Nat->Array Bool->Option (List Nat)
 |0,d=>bif(Region.ready .any ops d).isEmpty then a6 []else a7
 |n+1,d=>match Region.ready .any ops d with
  |[]=>a6 []
  |k::e=>match(k::e).find? fun i=>ako ops MB i&&Yy ops d i true with
   |some i=>match xm ops n (d.setIfInBounds i true)with
    |some l=>a6 (i::l)
    |none=>a7
   |none=>match(k::e).find? fun i=>ako ops iT i&&Yy ops d i false with
    |some i=>match xm ops n (d.setIfInBounds i true)with
     |some l=>a6 (i::l)
     |none=>a7
    |none=>match e with
     |[]=>match xm ops n (d.setIfInBounds k true)with
      |some l=>a6 (k::l)
      |none=>a7
     |_=>a7
def alh (ops:Array Oper):Option (List Oper):=bif oG ops then(match xm ops ops.size (Array.replicate ops.size false)with
 |some l=>a6 (l.filterMap fun i=>ops[i]?)
 |none=>a7)else a7
def aI8 (sb:FuncId->Option fZ) (o:Op):Bool:=match o with
 |.call c=>match c.callee with
  |.value (.func g)=>(sb g).isNone
  |.value _=>false
  |_=>true
 |_=>true
def OU (ops:Array Oper):Bool:=ops.toList.all (fun o=>kQ o.op)&&Region.lexB .any ops
def aL6 (d:St->(Ex->St->Option R)->Option R) (K:Ex->St->Option R):Ex->St->Option R:=fun e st=>match e with
 |.normal=>d st K
 |e=>K e st
def xI (id:Nat) (K:Ex->St->Option R):Ex->St->Option R:=fun e st=>match e with
 |.exit i=>bif i==id then K .normal st else K (.exit i) st
 |e=>K e st
def zH (F:St->(Ex->St->Option R)->Option R):St->(Ex->St->Option R)->Option R:=fun st K=>F st fun e st=>match e with
 |.normal=>K (.exit 999999) st
 |.exit i=>bif Nat.beq i 999999 then a7 else K (.exit i) st
 |e=>K e st
def cutAt (E:Env) (f:FuncId) (k:Nat) (F:St->(Ex->St->Option R)->Option R) (st:St) (K:Ex->St->Option R):Option R:=
 match E.lp f k with
 |some L=>bif L.dep.ble E.dp then(match L.get st with
  |some v=>bJ (L.spec v) fun o=>dR o (fun a=>xI 999999 K (L.exA v) (L.stA st v a)) fun b=>xI 999999 K (L.exB v) (L.stB st v b)
  |none=>a7)else a7
 |none=>match E.kp f k with
  |none=>F st K
  |some d=>match PE d.slots d.owns st with
   |some st=>iter (a6 d) (zH F) bT st (xI 999999 K)
   |none=>a7
def axc (K:Ex->St->Option R):Ex->St->Option R:=fun e st=>match e with
 |.goto _=>a7
 |e=>K e st
def JA (k:Option fJ) (st:St):St:=match k with
 |some k=>{st with fr:=KA k.slots 0 st.fr}
 |none=>st
def run (E:Env) (d:oQ R) (i:abe) (f:FuncId):Code->St->(Ex->St->Option R)->Option R
 |.skip,st,K=>K .normal st
 |.label _,st,K=>K .normal st
 |.region id ops p,st,K=>
  let st:=JA (E.kp f (600000+id)) st
  bif p then(bif OU ops&&ops.toList.all (fun o=>iT o.op)then iP E.T E.cl (VE E i.q) ops (K .normal) ops.toList st else match alh ops with
   |some l=>iP E.T E.cl (zD E d) ops (K .normal) l st
   |none=>bif OU ops&&ops.toList.all (fun o=>aI8 E.sb o.op)then iP E.T E.cl (VE E i.q) ops (K .normal) ops.toList st else bif oG ops then og E.T E.cl E.sg (zD E i.s) (zD E i.u) ops (ops.size+1) (zD E d) (Array.replicate ops.size false) [] st (K .normal)else a7)
  else iP E.T E.cl (zD E d) ops (K .normal) ops.toList st
 |.seq a b,st,K=>run E d i f a st (aL6 (cutAt E f (800000+dK b) (run E d i f b)) K)
 |.cond c x y,st,K=>match iH st.fr c with
  |.val .bool b=>bif b then run E d i f x st K else run E d i f y st K
  |_=>a7
 |.block id c,st,K=>run E d i f c st (xI id K)
 |.loop c,st,K=>match E.lp f (dK c)with
  |some L=>bif L.dep.ble E.dp then(match L.get st with
   |some v=>bJ (L.spec v) fun o=>dR o (fun a=>K (L.exA v) (L.stA st v a)) fun b=>K (L.exB v) (L.stB st v b)
   |none=>a7)else a7
  |none=>match E.kp f (dK c)with
   |none=>iter a7 (run E d i f c) bT st K
   |some k=>match PE k.slots k.owns st with
    |some st=>iter (a6 k) (run E d i f c) bT st K
    |none=>a7
 |.exit id,st,K=>K (.exit id) st
 |.goto l,st,K=>K (.goto l) st
 |.ret,st,K=>K .ret st
 |.scope c,st,K=>run E d i f c st (axc K)
 |.rangeFunc fv ps asg m,st,K=>match iH st.fr fv with
  |.fn g z=>
   let st:=JA (E.kp f (500000+dK m)) st
   alloc E.cl (a6 (700000+ps.toList.headD 0)) (.lp f st.fr ps.toList asg m (bif E.rf f (dK m)then a6 (dK m)else a7) 0 a7) st fun id st=>
    d (.call g (.yld id::z)) {st with stk:=[.yld id]::st.stk} fun _ st=>match st.stk with
     |[.yld id]::j=>match dW st.hp id with
      |some (.lp _ _ _ _ _ _ 0 a7)=>K .normal {st with stk:=j,hp:=jB st.hp id .dead}
      |some (.lp _ _ _ _ _ _ 1 (a6 e))=>K e {st with stk:=j,hp:=jB st.hp id .dead}
      |_=>a7
     |_=>a7
  |_=>a7
 |.refuse _,_,_=>a7
def ve (T:TT) (st:St):List ResultVar->(List bZ->Option R)->Option R
 |[],K=>K []
 |.tmp t::l,K=>ve T st l fun d=>K (st.fr.getD t .undef::d)
 |.cell a t::l,K=>PY T st.hp t (st.fr.getD a .undef) fun v=>ve T st l fun d=>K (v::d)
def zk (fr:List bZ):List Nat->List bZ->List bZ
 |p::d,v::e=>zk (fr.set p v) d e
 |_,_=>fr
def pop (st:St) (K:St->Option R):Option R:=
 match st.stk with
 |d::e=>K {st with fr:=d,stk:=e}
 |[]=>a7
def Env.keyed (E:Env):Option Nat->Env
 |some _=>E
 |none=>{E with lp:=fun _ _=>a7,rf:=fun _ _=>false}
def lX (E:Env):Nat->{R:Type}->oQ R
 |0,_,_,_,_=>a7
 |n+1,R,.call f i,st,K=>match E.P.funcs[f]? with
  |none=>a7
  |some fn=>match fn.body with
   |none=>a7
   |some c=>bif i.length.ble fn.ntmps then
     (run (E.at n) (lX E n) ⟨fun j st=>lX E n (R:=bZ) j st fun v _=>a6 v,lX E n,lX E n⟩ f c {fr:=i++List.replicate (fn.ntmps-i.length) (.tup []),stk:=st.fr::st.stk,hp:=st.hp,nxt:=st.nxt} fun e d=>
      match e with
      |.normal|.ret=>ve E.T d fn.results.toList fun m=>
       let v:=match m with
        |[v]=>v
        |m=>.tup m
       match gc (bif E.cl then st.nxt else 1000000*d.stk.length) v {d with fr:=[]}with
       |some g=>pop g (K v)
       |none=>a7
      |_=>a7)else a7
 |n+1,R,.yield id i,st,K=>match dW st.hp id with
  |some (.lp f fr0 ps asg bd o 0 a7)=>bif i.length==ps.length then
    (run ((E.at n).keyed o) (lX E n) ⟨fun j st=>lX E n (R:=bZ) j st fun v _=>a6 v,lX E n,lX E n⟩ f asg {fr:=zk fr0 ps i,stk:=[.yld id]::st.fr::st.stk,hp:=st.hp,nxt:=st.nxt} fun e d=>match e,d.stk with
     |.normal,[.yld id]::_=>match dW d.hp id with
      |some (.lp f1 fr1 ps1 asg1 bd1 q 0 a7)=>run ((E.at n).keyed o) (lX E n) ⟨fun j st=>lX E n (R:=bZ) j st fun v _=>a6 v,lX E n,lX E n⟩ f bd {d with hp:=jB d.hp id (.lp f1 fr1 ps1 asg1 bd1 q 2 a7)} fun e g=>match g.stk with
       |[.yld id]::l=>match dW g.hp id with
        |some (.lp f2 fr2 ps2 asg2 bd2 p 2 a7)=>
         match gc (bif E.cl then st.nxt else 1000000*g.stk.length) .undef {g with fr:=[],stk:=l,hp:=jB g.hp id (match e with|.normal=>.lp f2 fr2 ps2 asg2 bd2 p 0 a7|e=>.lp f2 fr2 ps2 asg2 bd2 p 1 (a6 e))}with
         |some s=>pop s (K (.val .bool (match e with|.normal=>true|_=>false)))
         |none=>a7
        |_=>a7
       |_=>a7
      |_=>a7
     |_,_=>a7)else a7
  |_=>a7
end
end
section
open Option renaming some → a6, none → a7
open List renaming append_assoc → ah, length_append → ai, nil_append → aB, length_cons → aG, drop_of_length_le → aI, eq_nil_of_length_eq_zero → bF, take_of_length_le → bG
open Nat renaming le_refl → ae, lt_or_ge → aJ
open Tryz
open Go.RowKit
def qX:TypeId:=5
def Zw:TypeId:=51
def MG:Code->Nat->Option (Code×Code)
 |.rangeFunc _ _ asg d,k=>if dK d=k then a6 (asg,d)else match MG asg k with
  |some x=>a6 x
  |none=>MG d k
 |.seq a b,k=>match MG a k with
  |some x=>a6 x
  |none=>MG b k
 |.cond _ a b,k=>match MG a k with
  |some x=>a6 x
  |none=>MG b k
 |.block _ c,k=>MG c k
 |.loop c,k=>MG c k
 |.scope c,k=>MG c k
 |_,_=>a7
def aJj (P:Program) (f:FuncId) (k:Nat):Option (Code×Code):=
 match P.funcs[f]? with
 |some fn=>match fn.body with
  |some c=>MG c k
  |none=>a7
 |none=>a7
noncomputable def ut (f:FuncId) (k:Nat):Option (Code×Code):=aJj prog f k
def iK (w:World) (b o:Nat) (d:List Value):Prop:= ∀j (h:j<d.length),w.cell? ⟨b,o+j,a7⟩=a6 d[j]
theorem iK.of_block {w w':World} {b o:Nat} {d:List Value} (h:iK w b o d) (hb:w'.heap[b]? =w.heap[b]?):iK w' b o d:=
 fun j e=>(World.cell?_of_block (w:=w) (a:=⟨b,o+j,a7⟩) hb).trans (h j e)
theorem iK.append {w:World} {b o:Nat} {xs e:List Value}:iK w b o (xs++e)↔iK w b o xs/\iK w b (o+xs.length) e:=by
 constructor
 .intro h;refine⟨fun j d=> ?_,fun j d=> ?_⟩
  .have:=h j (by simp;omega);simp_all
  .have:=h (xs.length+j) (by simp;omega)
   grind
 .rintro ⟨f,g⟩ j d;rcases aJ j xs.length with h|h
  .rw[List.getElem_append_left h];exact f j h
  .rw[List.getElem_append_right h];have:=g (j-xs.length) (by simp at d;omega)
   grind
def gK {e:Type} (R:e->List Value->Prop) (size:Nat):List e->List Value->Prop
 |[],d=>d=[]
 |x::g,d=> ∃c f,d=c++f/\c.length=size/\R x c/\gK R size g f
theorem gK.mono {d:Type} {R e:d->List Value->Prop} {size:Nat} (h: ∀x c,R x c->e x c): ∀(xs:List d) (f:List Value),gK R size xs f->gK e size xs f
 |[],_,i=>i
 |_::xs,_,⟨c,g,j,l,m,o⟩=>⟨c,g,j,l,h _ _ m,gK.mono h xs g o⟩
theorem gK.length {d:Type} {R:d->List Value->Prop} {size:Nat}: ∀(xs:List d) (e:List Value),gK R size xs e->e.length=xs.length*size
 |[],_,f=>by cases f;simp
 |_::xs,_,⟨c,g,i,j,m,l⟩=>by
  subst i;simp only[ai,aG,j,gK.length xs g l,Nat.add_mul,Nat.one_mul];omega
theorem gK.append {e:Type} {R:e->List Value->Prop} {size:Nat}: ∀(xs:List e) (f:List Value) (d:List e) (us:List Value),gK R size xs f->gK R size d us->gK R size (xs++d) (f++us)
 |[],_,d,us,i,h=>by cases i;exact h
 |x::xs,_,d,us,⟨c,g,j,l,m,o⟩,h=>by
  subst j;exact⟨c,g++us,by simp,l,m,gK.append xs g d us o h⟩
theorem gK.take {d:Type} {R:d->List Value->Prop} {size:Nat}: ∀(k:Nat) (xs:List d) (e:List Value),gK R size xs e->gK R size (xs.take k) (e.take (k*size))
 |0,_,_,_=>by simp[gK]
 |k+1,[],_,g=>by cases g;simp[gK]
 |k+1,x::xs,_,⟨c,f,i,j,l,m⟩=>by
  subst i;refine⟨c,f.take (k*size), ?_,j,l,gK.take k xs f m⟩;simp_all [List.take_append,bG,Nat.add_mul]
theorem gK.drop {e:Type} {R:e->List Value->Prop} {size:Nat}: ∀(k:Nat) (xs:List e) (f:List Value),gK R size xs f->gK R size (xs.drop k) (f.drop (k*size))
 |0,_,_,h=>by simpa using h
 |k+1,[],_,i=>by cases i;simp[gK]
 |k+1,x::xs,_,⟨c,d,j,g,m,l⟩=>by
  subst j;have:(c++d).drop ((k+1)*size)=d.drop (k*size):=by
   rw[List.drop_append,aI (by rw[g,Nat.add_mul];omega),aB,g,Nat.add_mul];congr 1;omega
  rw[this,List.drop_succ_cons];exact gK.drop k xs d l
theorem gK.at_ {f:Type} {R:f->List Value->Prop} {size:Nat}: ∀(i:Nat) (xs:List f) (g:List Value) (hi:i<xs.length),gK R size xs g->
  ∃c,c.length=size/\R xs[i] c/\ ∃d j,g=d++c++j/\d.length=i*size
 |i,[],_,hi,_=>by simp at hi
 |0,x::xs,_,_,⟨c,e,l,m,o,p⟩=>⟨c,m,o,[],e,by simp[l],by simp⟩
 |i+1,x::xs,_,hi,⟨c,e,l,m,o,p⟩=>by
  obtain⟨q,s,u,d,j,v,y⟩:=gK.at_ i xs e (by simpa using hi) p
  grind
theorem gK.set {j:Type} {R:j->List Value->Prop} {size:Nat} (y:j) (d:List Value) (hd:d.length=size) (p:R y d): ∀(i:Nat) (xs:List j) (e c f:List Value),
  i<xs.length->gK R size xs (e++c++f)->e.length=i*size->c.length=size->gK R size (xs.set i y) (e++d++f)
 |i,[],_,_,_,l,_,_,_=>by simp at l
 |0,x::xs,e,c,f,_,⟨q,A,g,m,s,u⟩,v,o=>by
  have:e=[]:=bF (by simpa using v);subst this;simp only[aB]at g ⊢;obtain⟨B,z⟩:=List.append_inj g (by rw[o,m]);subst z;exact⟨d,f,rfl,hd,p,u⟩
 |i+1,x::xs,e,c,f,l,⟨q,A,g,m,s,u⟩,v,o=>by
  have E:size<=e.length:=by grind
  have D:e=e.take size++e.drop size:=(List.take_append_drop size e).symm;rw[D,ah,ah]at g;obtain⟨B,z⟩:=List.append_inj g (by grind);have:=gK.set y d hd p i xs (e.drop size) c f (by simpa using l) (by grind) (by grind) o;refine⟨q,e.drop size++d++f, ?_,m,s,this⟩
  grind
def fV (w:World) (fr:Nat->Prop):(t:Ty)->t.den->List Value->Prop
 |.unit,_,cs=>cs=[]
 |.bool,x,cs=>cs=[.bool x]
 |.int k,x,cs=>cs=[.int k x]
 |.str,x,cs=>cs=[.string ⟨x.toArray⟩]
 |.list t,d,cs=> ∃a c e,cs=[.slice a d.length c]/\d.length<=c/\gK (fV w fr t) t.size d e/\(e=[]\/ ∃b f,a=a6 ⟨b,f,a7⟩/\fr b/\iK w b f e)
 |.pair a b,x,cs=> ∃g i,cs=g++i/\fV w fr a x.1 g/\fV w fr b x.2 i
theorem fV.mono {w w':World} {fr i:Nat->Prop} (h: ∀b,fr b->i b/\w'.heap[b]? =w.heap[b]?): ∀(t:Ty) (x:t.den) (cs:List Value),fV w fr t x cs->fV w' i t x cs
 |.unit,_,_,d=>d
 |.bool,_,_,d=>d
 |.int _,_,_,d=>d
 |.str,_,_,d=>d
 |.list t,p,_,⟨a,c,j,e,f,g,q⟩=>⟨a,c,j,e,f,gK.mono (fV.mono h t) p j g,q.imp id fun⟨b,s,u,l,v⟩=>⟨b,s,u,(h b l).1,v.of_block (h b l).2⟩⟩
 |.pair a b,x,_,⟨m,o,e,f,g⟩=>⟨m,o,e,fV.mono h a x.1 m f,fV.mono h b x.2 o g⟩
theorem fV.length {w:World} {fr:Nat->Prop}: ∀(t:Ty) (x:t.den) (cs:List Value),fV w fr t x cs->cs.length=t.size
 |.unit,_,_,d=>by cases d;rfl
 |.bool,_,_,d=>by cases d;rfl
 |.int _,_,_,d=>by cases d;rfl
 |.str,_,_,d=>by cases d;rfl
 |.list t,l,_,⟨a,c,m,e,_⟩=>by subst e;rfl
 |.pair a b,x,_,⟨f,g,e,i,j⟩=>by subst e;simp[Ty.size,fV.length a x.1 f i,fV.length b x.2 g j]
theorem fV.one {w:World} {fr:Nat->Prop}: ∀(t:Ty) (x:t.den) (cs:List Value),fV w fr t x cs-> ∀v∈cs,v.oneCell'=true
 |.unit,_,_,d=>by cases d;simp
 |.bool,_,_,d=>by cases d;simp[Value.oneCell']
 |.int _,_,_,d=>by cases d;simp[Value.oneCell']
 |.str,_,_,d=>by cases d;simp[Value.oneCell']
 |.list t,m,_,⟨a,c,o,f,_⟩=>by subst f;simp[Value.oneCell']
 |.pair a b,x,_,⟨g,i,f,j,l⟩=>by
  subst f;intro v e;rcases List.mem_append.1 e with e|e
  .exact fV.one a x.1 g j v e
  .exact fV.one b x.2 i l v e
structure Loc where
 blk:Nat
 v:Value
structure Cx where
 mu:Nat->Loc
 hp:iw
 nxt:Nat
 w:World
 mks:List Nat
 bar:Nat->Prop
def dV.blk:dV->Loc->Option Nat
 |.box _ _,l=>a6 l.blk
 |.arr _ _ _,l=>l.v.ownBlock
 |.lp _ _ _ _ _ _ _ _,l=>a6 l.blk
 |.dead,_=>a7
 |.mp _ _ _,l=>a6 l.blk
def Cx.own (c:Cx) (b:Nat):Prop:= ∃id o,dW c.hp id=a6 o/\o.blk (c.mu id)=a6 b
def Cx.free (c:Cx) (b:Nat):Prop:=b<c.w.heap.size/\ ¬c.own b/\b∉c.mks/\ ¬c.bar b
def Cx.out (c:Cx) (b:Nat):Prop:=b<c.w.heap.size/\ ¬c.own b/\b∉c.mks
def Cx.known (c:Cx) (id:Nat):Prop:=(∃o,dW c.hp id=a6 o)\/id<c.nxt
def VD (c:Cx) (t:Ty) (x:t.den) (v:Value):Prop:=
 (t.isAgg=true-> ∃cs,v=.agg cs/\fV c.w c.free t x cs.toList)/\(t.isAgg=false->fV c.w c.free t x [v])
def jy (size:Nat) (s:Value):Option (Int×Int)->Value->Prop
 |none,v=>v=s
 |some (lo,d),v=> ∃a n c,s=.slice a n c/\0<=lo/\lo<=d/\d<=n/\v=.slice (if c=lo.toNat then a else a.map (·.add (lo.toNat*size))) (d.toNat-lo.toNat) (c-lo.toNat)
mutual
def dh (c:Cx):bZ->Value->Prop
 |.undef,_=>True
 |.val t x,v=>VD c t x v
 |.nils,v=>v=.slice a7 0 0
 |.emp,v=> ∃a,v=.slice a 0 0
 |.lst e q b,v=>VD c (.list e) q v/\ ∃a n m,v=.slice a n m/\b=a.isNone
 |.nilp,v=>v=.pointer a7
 |.nilfn,v=>v=.nilFunc
 |.tup l,v=> ∃d,v=.tuple d/\bQ c l d.toList
 |.agg l,v=> ∃d,v=.agg d/\bQ c l d.toList/\ ∀u∈d.toList,u.oneCell'=true
 |.cellp t x,v=> ∃b o y,v=.pointer (a6 ⟨b,o,a7⟩)/\c.free b/\iK c.w b o y/\fV c.w c.free t x y
 |.ptr id s,v=>v.oneCell'=true/\c.known id/\ ∀t cs,dW c.hp id=a6 (.box t cs)->v=.pointer (a6 ⟨(c.mu id).blk,s,a7⟩)
 |.slf id,v=>v.oneCell'=true/\c.known id/\ ∀t cs,dW c.hp id=a6 (.box t cs)->v=.pointer a7\/v=.pointer (a6 ⟨(c.mu id).blk,0,a7⟩)
 |.sd id j,v=>v.oneCell'=true/\c.known id/\ ∀t u q,dW c.hp id=a6 (.arr t u q)->j<=u/\(u=j->(∃p,v=.pointer p)/\ ∀a n cp,(c.mu id).v=.slice a n cp->n≠0->v=.pointer a)
 |.slc id j z,v=>v.oneCell'=true/\c.known id/\ ∀t u q,dW c.hp id=a6 (.arr t u q)->j<=u/\(u=j->jy t.size (c.mu id).v z v)
 |.ep id j i s,v=>v.oneCell'=true/\c.known id/\ ∀t u q,dW c.hp id=a6 (.arr t u q)->j<=u/\(u=j-> ∃g n cp,(c.mu id).v=.slice (a6 ⟨g,0,a7⟩) n cp/\v=.pointer (a6 ⟨g,i*t.size+s,a7⟩))
 |.fn f l,v=> ∃d,v=.func (.func f) #[] d/\bQ c l d.toList
 |.mfn f l,v=> ∃d,v=.func (.func f) d #[]/\bQ c l d.toList
 |.mpv id,v=>v.oneCell'=true/\c.known id/\ ∀A B D,dW c.hp id=a6 (.mp A B D)->v=.map (a6 (c.mu id).blk)
 |.yld id,v=>v.oneCell'=true/\c.known id/\ ∀f E G asg I J n p,dW c.hp id=a6 (.lp f E G asg I J n p)->v=.func (.yield (c.mu id).blk) #[] #[]
def bQ (c:Cx):List bZ->List Value->Prop
 |[],[]=>True
 |v::l,x::d=>dh c v x/\bQ c l d
 |_,_=>False
end
def dV.like:dV->Loc->dV->Loc->Prop
 |.box _ _,l,.box _ _,d=>d.blk=l.blk
 |.lp _ _ _ _ _ _ _ _,l,.lp _ _ _ _ _ _ _ _,d=>d.blk=l.blk
 |.mp _ _ _,l,.mp _ _ _,d=>d.blk=l.blk
 |_,_,.dead,_=>True
 |.arr t v _,l,.arr t' v' _,d=>v<=v'/\(v=v'->t=t'/\d.v=l.v)
 |_,_,_,_=>False
structure Cx.Le0 (c c':Cx):Prop where
 out: ∀b,c.out b->c'.out b/\c'.w.heap[b]? =c.w.heap[b]?
 ref: ∀id,c.known id->c'.known id
 obj: ∀id o',c.known id->dW c'.hp id=a6 o'-> ∃o,dW c.hp id=a6 o/\o.like (c.mu id) o' (c'.mu id)
 bar:c'.bar=c.bar
structure Cx.Le (c c':Cx):Prop where
 out: ∀b,c.out b->c'.out b/\c'.w.heap[b]? =c.w.heap[b]?
 ref: ∀id,c.known id->c'.known id
 obj: ∀id o',c.known id->dW c'.hp id=a6 o'-> ∃o,dW c.hp id=a6 o/\o.like (c.mu id) o' (c'.mu id)
 mks: ∀r,r∈c.mks->r∈c'.mks
 lp: ∀(b:Nat) (L:Loop),c.w.heap[b]? =a6 (Obj.loop L)-> ∃L':Loop,c'.w.heap[b]? =a6 (Obj.loop L')
 size:c.w.heap.size<=c'.w.heap.size
 bar:c'.bar=c.bar
theorem Cx.Le0.free {c c':Cx} (h:c.Le0 c') (b:Nat) (hb:c.free b):c'.free b/\c'.w.heap[b]? =c.w.heap[b]? :=
 let⟨⟨d,e,f⟩,g⟩:=h.out b ⟨hb.1,hb.2.1,hb.2.2.1⟩
 ⟨⟨d,e,f,by rw[h.bar];exact hb.2.2.2⟩,g⟩
theorem Cx.Le.free {c c':Cx} (h:c.Le c') (b:Nat) (hb:c.free b):c'.free b/\c'.w.heap[b]? =c.w.heap[b]? :=
 let⟨⟨d,e,f⟩,g⟩:=h.out b ⟨hb.1,hb.2.1,hb.2.2.1⟩
 ⟨⟨d,e,f,by rw[h.bar];exact hb.2.2.2⟩,g⟩
theorem dV.like_refl (o:dV) (l:Loc):o.like l o l:=by cases o<;>simp[dV.like]
theorem dV.like_trans {a b d:dV} {l m n:Loc} (h:a.like l b m) (k:b.like m d n):a.like l d n:=by
 cases d with
 |dead=>cases a<;>simp[dV.like]
 |arr t'' v'' e=>
  cases b with
  |arr t' v' f=>
   cases a with
   |arr t v g=>
    grind [dV.like]
   |_=>simp[dV.like]at h
  |_=>simp[dV.like]at k
 |box _ _=>cases b<;>cases a<;>simp_all [dV.like]
 |lp _ _ _ _ _ _ _ _=>cases b<;>cases a<;>simp_all [dV.like]
 |mp _ _ _=>cases b<;>cases a<;>simp_all [dV.like]
theorem Cx.Le.refl (c:Cx):c.Le c:=⟨fun _ h=>⟨h,rfl⟩,fun _ h=>h,fun id o h d=>⟨o,d,o.like_refl _⟩,fun _ h=>h,fun b L h=>⟨L,h⟩,ae _,rfl⟩
theorem VD.le0 {c c':Cx} (h:c.Le0 c') {t:Ty} {x:t.den} {v:Value} (d:VD c t x v):VD c' t x v:=
 ⟨fun e=>let⟨cs,f,g⟩:=d.1 e;⟨cs,f,fV.mono h.free t x _ g⟩,fun e=>fV.mono h.free t x _ (d.2 e)⟩
mutual
theorem dh.le0 {c c':Cx} (h:c.Le0 c'): ∀(v:bZ) (x:Value),dh c v x->dh c' v x
 |.undef,_,_=>by simp[dh]
 |.val t x,v,d=>by simp only[dh]at d ⊢;exact d.le0 h
 |.nils,_,d=>by assumption
 |.emp,_,d=>by assumption
 |.lst e y b,v,d=>by simp only[dh]at d ⊢;exact⟨d.1.le0 h,d.2⟩
 |.nilp,_,d=>by assumption
 |.nilfn,_,d=>by assumption
 |.tup l,v,d=>by simp only[dh]at d ⊢;obtain⟨s,j,g⟩:=d;exact⟨s,j,bQ.le0 h l _ g⟩
 |.agg l,v,d=>by simp only[dh]at d ⊢;obtain⟨s,j,g,z⟩:=d;exact⟨s,j,bQ.le0 h l _ g,z⟩
 |.cellp t x,v,d=>by
  simp only[dh]at d ⊢;obtain⟨b,o,D,j,g,z,E⟩:=d;exact⟨b,o,D,j,(h.free b g).1,z.of_block (h.free b g).2,fV.mono h.free t x _ E⟩
 |.ptr id G,v,d=>by
  simp only[dh]at d ⊢;obtain⟨m,d⟩:=d;refine⟨m,h.ref id d.1,fun t cs q=> ?_⟩;obtain⟨o,j,g⟩:=h.obj id _ d.1 q;cases o<;>simp only[dV.like]at g;simp_all
 |.slf id,v,d=>by
  simp only[dh]at d ⊢;obtain⟨m,d⟩:=d;refine⟨m,h.ref id d.1,fun t cs q=> ?_⟩;obtain⟨o,j,g⟩:=h.obj id _ d.1 q;cases o<;>simp only[dV.like]at g;simp_all
 |.sd id A,v,d=>by
  simp only[dh]at d ⊢;obtain⟨m,d⟩:=d;refine⟨m,h.ref id d.1,fun t u y q=> ?_⟩;obtain⟨o,j,g⟩:=h.obj id _ d.1 q;cases o with
  |arr t' v' B=>
   grind [dV.like]
  |box _ _=>simp[dV.like]at g
  |lp _ _ _ _ _ _ _ _=>simp[dV.like]at g
  |dead=>simp[dV.like]at g
  |mp _ _ _=>simp[dV.like]at g
 |.slc id A I,v,d=>by
  simp only[dh]at d ⊢;obtain⟨m,d⟩:=d;refine⟨m,h.ref id d.1,fun t u y q=> ?_⟩;obtain⟨o,j,g⟩:=h.obj id _ d.1 q;cases o with
  |arr t' v' B=>
   grind [dV.like]
  |box _ _=>simp[dV.like]at g
  |lp _ _ _ _ _ _ _ _=>simp[dV.like]at g
  |dead=>simp[dV.like]at g
  |mp _ _ _=>simp[dV.like]at g
 |.ep id A i G,v,d=>by
  simp only[dh]at d ⊢;obtain⟨m,d⟩:=d;refine⟨m,h.ref id d.1,fun t u y q=> ?_⟩;obtain⟨o,j,g⟩:=h.obj id _ d.1 q;cases o with
  |arr t' v' B=>
   grind [dV.like]
  |box _ _=>simp[dV.like]at g
  |lp _ _ _ _ _ _ _ _=>simp[dV.like]at g
  |dead=>simp[dV.like]at g
  |mp _ _ _=>simp[dV.like]at g
 |.fn f l,v,d=>by simp only[dh]at d ⊢;obtain⟨s,j,g⟩:=d;exact⟨s,j,bQ.le0 h l _ g⟩
 |.mfn f l,v,d=>by simp only[dh]at d ⊢;obtain⟨s,j,g⟩:=d;exact⟨s,j,bQ.le0 h l _ g⟩
 |.mpv id,v,d=>by
  simp only[dh]at d ⊢;obtain⟨m,d⟩:=d;refine⟨m,h.ref id d.1,fun J K L q=> ?_⟩;obtain⟨o,j,g⟩:=h.obj id _ d.1 q;cases o<;>simp only[dV.like]at g;simp_all
 |.yld id,v,d=>by
  simp only[dh]at d ⊢;obtain⟨m,d⟩:=d;refine⟨m,h.ref id d.1,fun f M N asg O S n p q=> ?_⟩;obtain⟨o,j,g⟩:=h.obj id _ d.1 q;cases o<;>simp only[dV.like]at g;simp_all
theorem bQ.le0 {c c':Cx} (h:c.Le0 c'): ∀(l:List bZ) (xs:List Value),bQ c l xs->bQ c' l xs
 |[],[],_=>by simp[bQ]
 |v::l,x::xs,d=>by simp only[bQ]at d ⊢;exact⟨dh.le0 h v x d.1,bQ.le0 h l xs d.2⟩
 |[],_::_,d=>by simp[bQ]at d
 |_::_,[],d=>by simp[bQ]at d
end
theorem Cx.Le.le0 {c c':Cx} (h:c.Le c'):c.Le0 c':=⟨h.out,h.ref,h.obj,h.bar⟩
theorem VD.le {c c':Cx} (h:c.Le c') {t:Ty} {x:t.den} {v:Value} (d:VD c t x v):VD c' t x v:=d.le0 h.le0
theorem dh.le {c c':Cx} (h:c.Le c') (v:bZ) (x:Value) (d:dh c v x):dh c' v x:=dh.le0 h.le0 v x d
theorem bQ.le {c c':Cx} (h:c.Le c') (l:List bZ) (xs:List Value) (d:bQ c l xs):bQ c' l xs:=bQ.le0 h.le0 l xs d
end
section
open Go.RowKit
def atp (w:World):Prop:=True
theorem atp.below {w w':World} (hb:Below w.heap.size w w') (h:atp w):atp w':=trivial
def ato (w:World):Prop:= ∃m,w.cell? ⟨3,0,none⟩=some (.int .i64 m)
theorem ato.below {w w':World} (hb:Below w.heap.size w w') (h:ato w):ato w':=by
 obtain⟨m,d⟩:=h;exact⟨m,(hb.cell (World.block_lt_of_cell? w _ d)).trans d⟩
def Phi (w:World):Prop:=atp w/\ato w
theorem Phi.below {w w':World} (hb:Below w.heap.size w w') (h:Phi w):Phi w':=⟨h.1.below hb,h.2.below hb⟩
end
section
open Option renaming some → a6, none → a7
open List renaming cons_append → aH
open Nat renaming le_trans → aK, lt_of_lt_of_le → bu
open Go.RowKit
theorem Cx.Le.trans {a b c:Cx} (h:a.Le b) (k:b.Le c):a.Le c:=
 ⟨fun x e=>⟨(k.out x (h.out x e).1).1,(k.out x (h.out x e).1).2.trans (h.out x e).2⟩,fun i d=>k.ref i (h.ref i d),fun i o d g=>by
  obtain⟨p,f,s⟩:=k.obj i o (h.ref i d) g;obtain⟨q,u,v⟩:=h.obj i p d f
  grind [dV.like_trans],fun r j=>k.mks r (h.mks r j),fun b L l=>let⟨m,f⟩:=h.lp b L l;k.lp b m f,aK h.size k.size,k.bar.trans h.bar⟩
theorem fD (k:Nat) (o:dV) (h:iw) (i:Nat):dW ((k,o)::h) i=if k=i then a6 o else dW h i:=by
 simp_all [dW]
theorem jJ: ∀(h:iw) (i:Nat) (o:dV) (j:Nat),dW (jB h i o) j=if i=j then(dW h i).map fun _=>o else dW h j
 |[],i,o,j=>by simp[jB,dW]
 |(k,p)::h,i,o,j=>by
  simp only[jB];by_cases e:k=i
  .simp_all [fD]
  .have d:(k==i)=false:=by simpa using e
   simp only[d,ac,fD,jJ h i o j]
   grind
theorem Wv {h:iw} {i:Nat} {o p:dV} (hi:dW h i=a6 p):dW (jB h i o) i=a6 o:=by rw[jJ];simp[hi]
theorem aB8 {h:iw} {i j:Nat} {o:dV} (hi:i≠j):dW (jB h i o) j=dW h j:=by rw[jJ];simp[hi]
def upd (mu:Nat->Loc) (id:Nat) (l:Loc):Nat->Loc:=fun j=>if j=id then l else mu j
theorem upd_same (mu:Nat->Loc) (id:Nat) (l:Loc):upd mu id l id=l:=by simp[upd]
theorem upd_ne (mu:Nat->Loc) {id j:Nat} (l:Loc) (h:j≠id):upd mu id l j=mu j:=by simp[upd,h]
def Ex.code:Ex->Option Code
 |.normal=>a7
 |.exit id=>a6 (.exit id)
 |.goto l=>a6 (.goto l)
 |.ret=>a6 .ret
def atm:Nat->Option Ex->Loop->Prop
 |0,a7,L=>L.state=.ready/\L.pending=a7
 |1,a6 e,L=>L.state=.done/\L.pending=e.code/\e.code≠a7
 |2,a7,L=>L.state=.busy
 |_,_,_=>False
def Cx.ORel (B:Nat) (c:Cx) (id:Nat):dV->Prop
 |.box e cs=>B<=(c.mu id).blk/\ ∃d,c.w.heap[(c.mu id).blk]? =a6 (.cells d e (0,0))/\bQ c cs d.toList/\ ∀u∈d.toList,u.oneCell'=true
 |.arr t ver g=>0<t.size/\ ∃e i,c.w.ownsRow B e t.size (c.mu id).v g.length i/\gK (fV c.w c.free t) t.size g i/\(t=.int .u8->e=qX)
 |.lp f fr ps asg bd ky n p=>(∀k,ky=a6 k->ut f k=a6 (asg,bd))/\B<=(c.mu id).blk/\ ∃L:Loop,c.w.heap[(c.mu id).blk]? =a6 (Obj.loop L)/\bQ c fr L.tmps.toList/\L.params.toList=ps/\L.assign=asg/\L.body=bd/\atm n p L
 |.dead=>True
 |.mp kk vk l=>B<=(c.mu id).blk/\ ∃j m,c.w.heap[(c.mu id).blk]? =a6 (.map j m)/\j.toList.map (fun e=>(e.key,e.val))=l.map fun p=>(Value.int kk p.1,Value.int vk p.2)
structure Cx.Ok (W0:World) (c:Cx):Prop where
 bel:Below W0.heap.size W0 c.w
 obj: ∀id o,dW c.hp id=a6 o->c.ORel W0.heap.size id o
 inj: ∀i j o p b,dW c.hp i=a6 o->dW c.hp j=a6 p->o.blk (c.mu i)=a6 b->p.blk (c.mu j)=a6 b->i=j
 mks: ∀r,r∈c.mks->W0.heap.size<=r/\c.w.heap[r]? =a6 (.deferred (a6 []))
 bar: ∀b,c.bar b->c.out b
 phi:Phi W0
theorem Cx.Ok.phiw {W0:World} {c:Cx} (h:c.Ok W0):Phi c.w:=Phi.below h.bel h.phi
theorem Cx.ORel.lt {B:Nat} {c:Cx} {id:Nat} {o:dV} (h:c.ORel B id o) {b:Nat} (hb:o.blk (c.mu id)=a6 b):B<=b/\b<c.w.heap.size:=by
 cases o with
 |box e cs=>
  simp only[dV.blk,Option.some.injEq]at hb;subst hb;obtain⟨d,g,f,_⟩:=h
  grind
 |arr t ver i=>
  simp only[dV.blk]at hb;obtain⟨_,e,j,d,_⟩:=h;exact World.ownsRow.lt d b hb
 |lp _ _ _ _ _ _ _ _=>
  simp only[dV.blk,Option.some.injEq]at hb;subst hb;obtain⟨_,d,L,f,_⟩:=h
  grind
 |dead=>cases hb
 |mp _ _ _=>
  simp only[dV.blk,Option.some.injEq]at hb;subst hb;obtain⟨d,l,cl,f,_⟩:=h
  grind
theorem Cx.ORel.no_mark {B:Nat} {c:Cx} {id:Nat} {o:dV} (h:c.ORel B id o) {b:Nat} (hb:o.blk (c.mu id)=a6 b) {d:Option (List Deferred)}:c.w.heap[b]? ≠a6 (.deferred d):=by
 intro hd;cases o with
 |box e cs=>
  simp only[dV.blk,Option.some.injEq]at hb;subst hb;obtain⟨f,l,j,_⟩:=h;simp_all
 |arr t ver m=>
  simp only[dV.blk]at hb;obtain⟨_,e,p,f,_⟩:=h;rcases f.2 with ⟨i,_⟩|⟨g,q,s,i,_,u,_⟩
  .rw[i]at hb;cases hb
  .rw[i]at hb;cases hb;simp_all
 |lp _ _ _ _ _ _ _ _=>
  simp only[dV.blk,Option.some.injEq]at hb;subst hb;obtain⟨_,f,L,j,_⟩:=h;simp_all
 |dead=>cases hb
 |mp _ _ _=>
  simp only[dV.blk,Option.some.injEq]at hb;subst hb;obtain⟨f,v,cl,j,_⟩:=h;simp_all
theorem Cx.ORel.no_loop {B:Nat} {c:Cx} {id:Nat} {o:dV} (h:c.ORel B id o) (s: ∀f fr j asg l m n p,o≠ .lp f fr j asg l m n p) {b:Nat} (hb:o.blk (c.mu id)=a6 b) {L:Loop}:c.w.heap[b]? ≠a6 (Obj.loop L):=by
 intro hd;cases o with
 |box e cs=>
  simp only[dV.blk,Option.some.injEq]at hb;subst hb;obtain⟨d,u,q,_⟩:=h;simp_all
 |arr t ver v=>
  simp only[dV.blk]at hb;obtain⟨_,e,x,d,_⟩:=h;rcases d.2 with ⟨i,_⟩|⟨g,y,z,i,_,A,_⟩
  .rw[i]at hb;cases hb
  .rw[i]at hb;cases hb;simp_all
 |lp _ _ _ _ _ _ _ _=>grind
 |dead=>cases hb
 |mp _ _ _=>
  simp only[dV.blk,Option.some.injEq]at hb;subst hb;obtain⟨d,D,cl,q,_⟩:=h;simp_all
theorem Cx.Ok.mark_lt {W0:World} {c:Cx} (h:c.Ok W0) {r:Nat} (d:r∈c.mks):r<c.w.heap.size:=(Array.getElem?_eq_some_iff.1 (h.mks r d).2).1
theorem Cx.Ok.mark_own {W0:World} {c:Cx} (h:c.Ok W0) {r:Nat} (d:r∈c.mks): ¬c.own r:=by
 rintro ⟨id,o,e,f⟩;exact(h.obj id o e).no_mark f (h.mks r d).2
theorem Cx.Ok.own_lt {W0:World} {c:Cx} (h:c.Ok W0) {b:Nat} (hb:c.own b):W0.heap.size<=b/\b<c.w.heap.size:=by
 obtain⟨id,o,d,e⟩:=hb;exact(h.obj id o d).lt e
theorem Cx.Ok.size {W0:World} {c:Cx} (h:c.Ok W0):W0.heap.size<=c.w.heap.size:=h.bel.size
theorem Cx.Ok.free_old {W0:World} {c:Cx} (h:c.Ok W0) {b:Nat} (hb:b<W0.heap.size) (d: ¬c.bar b):c.free b:=
 ⟨bu hb h.size,fun e=>by have:=(h.own_lt e).1;omega,fun f=>by have:=(h.mks b f).1;omega,d⟩
theorem Ef {w w':World} {B:Nat} {e:TypeId} {size n:Nat} {v:Value} {xs:List Value} (h:w.ownsRow B e size v n xs) (hb: ∀b,v.ownBlock=a6 b->w'.heap[b]? =w.heap[b]?):w'.ownsRow B e size v n xs:=by
 refine⟨h.1, ?_⟩;rcases h.2 with d|⟨g,i,j,f,d,l,m⟩
 .exact .inl d
 .refine .inr ⟨g,i,j,f,d, ?_,m⟩;rw[hb g (by rw[f];rfl)];exact l
theorem Cx.ORel.le {B:Nat} {c c':Cx} {id:Nat} {o:dV} (h:c.ORel B id o) (hl:c.Le c') (d:c'.mu id=c.mu id) (hb: ∀b,o.blk (c.mu id)=a6 b->c'.w.heap[b]? =c.w.heap[b]?):c'.ORel B id o:=by
 cases o with
 |box e cs=>
  obtain⟨g,q,i,j,l⟩:=h;refine⟨by rw[d];exact g,q,by rw[d,hb _ rfl];exact i,bQ.le hl _ _ j,l⟩
 |arr t ver x=>
  obtain⟨m,e,s,g,i,j⟩:=h;refine⟨m,e,s, ?_,gK.mono (fV.mono hl.free t) _ _ i,j⟩;rw[d];exact Ef g fun b u=>hb b u
 |lp f fr ps asg bd ky n p=>
  obtain⟨m,g,L,i,j,l⟩:=h;exact⟨m,by rw[d];exact g,L,by rw[d,hb _ rfl];exact i,bQ.le hl _ _ j,l⟩
 |dead=>trivial
 |mp kk vk y=>
  obtain⟨g,v,cl,i,j⟩:=h;exact⟨by rw[d];exact g,v,cl,by rw[d,hb _ rfl];exact i,j⟩
def Cx.at_ (c:Cx) (w:World):Cx:={c with w:=w}
theorem Cx.Le.ext {c:Cx} {w:World} (h:Below c.w.heap.size c.w w):c.Le (c.at_ w):=
 ⟨fun b d=>⟨⟨bu d.1 h.size,d.2⟩,h.block b d.1⟩,fun _ h=>h,fun id o _ f=>⟨o,f,o.like_refl _⟩,fun _ h=>h,
  fun b L e=>⟨L,(h.block b (Array.getElem?_eq_some_iff.1 e).1).trans e⟩,h.size,rfl⟩
theorem Cx.Ok.ext {W0:World} {c:Cx} {w:World} (d:c.Ok W0) (h:Below c.w.heap.size c.w w):(c.at_ w).Ok W0:=
 ⟨d.bel.trans (h.mono d.size),fun id o g=>(d.obj id o g).le (Cx.Le.ext h) rfl fun b e=>h.block b ((d.obj id o g).lt e).2,d.inj,
  fun r f=>⟨(d.mks r f).1,(h.block r (d.mark_lt f)).trans (d.mks r f).2⟩,fun b e=>((Cx.Le.ext h).out b (d.bar b e)).1,d.phi⟩
def Cx.push (c:Cx) (id:Nat) (o:dV) (l:Loc) (nxt:Nat) (w:World):Cx:=⟨upd c.mu id l,(id,o)::c.hp,nxt,w,c.mks,c.bar⟩
theorem Cx.Le.push {c:Cx} {id:Nat} {o:dV} {l:Loc} {nxt:Nat} {w:World} (v: ¬c.known id) (x:c.nxt<=nxt) (q:c.w.heap.size<=w.heap.size)
  (hb: ∀b,b<c.w.heap.size->w.heap[b]? =c.w.heap[b]?) (hl: ∀b,o.blk l=a6 b->c.w.heap.size<=b):c.Le (c.push id o l nxt w):=by
 have hk: ∀j,c.known j->j≠id:=fun j d e=>v (e▸d);refine⟨fun b f=>⟨⟨bu f.1 q, ?_,f.2.2⟩,hb b f.1⟩,fun j d=> ?_,fun j p d m=> ?_,fun _ h=>h,fun b L s=>⟨L,(hb b (Array.getElem?_eq_some_iff.1 s).1).trans s⟩,q,rfl⟩
 .rintro ⟨j,p,i,g⟩;simp only[Cx.push,fD]at i g;split at i
  .rename_i e
   subst e;cases i;rw[upd_same]at g;have:=hl b g;have:=f.1;omega
  .rename_i e
   rw[upd_ne _ _ (Ne.symm e)]at g;exact f.2.1 ⟨j,p,i,g⟩
 .rcases d with ⟨p,m⟩|d
  .left;simp only[Cx.push,fD]
   grind
  .right;exact bu d x
 .have u:=hk j d;simp only[Cx.push,fD,aq (Ne.symm u)]at m ⊢;exact⟨p,m,by rw[upd_ne _ _ u];exact p.like_refl _⟩
theorem Cx.Ok.push {W0:World} {c:Cx} {id:Nat} {o:dV} {l:Loc} {nxt:Nat} {w:World} (d:c.Ok W0) (y: ¬c.known id) (E:c.nxt<=nxt) (h:Below c.w.heap.size c.w w)
  (hl: ∀b,o.blk l=a6 b->c.w.heap.size<=b) (J:(c.push id o l nxt w).ORel W0.heap.size id o):(c.push id o l nxt w).Ok W0:=by
 have z:=Cx.Le.push (o:=o) y E h.size h.block hl;have hk: ∀j p,dW c.hp j=a6 p->j≠id:=fun j p G e=>y (e▸ .inl ⟨p,G⟩);refine⟨d.bel.trans (h.mono d.size),fun j p I=> ?_,fun i j p q b A B f g=> ?_,fun r m=>⟨(d.mks r m).1,(h.block r (d.mark_lt m)).trans (d.mks r m).2⟩,fun b s=>(z.out b (d.bar b s)).1,d.phi⟩
 .by_cases e:j=id
  .simp_all [Cx.push,fD]
  .have D:dW c.hp j=a6 p:=by simpa [Cx.push,fD,Ne.symm e] using I
   exact(d.obj j p D).le z (upd_ne _ _ e) fun b s=>h.block b ((d.obj j p D).lt s).2
 .by_cases e1:i=id<;>by_cases e2:j=id
  .rw[e1,e2]
  .subst e1;have u:p=o:=by grind [Cx.push,fD]
   have v:dW c.hp j=a6 q:=by simpa [Cx.push,fD,Ne.symm e2] using B
   subst u;simp only[Cx.push,upd_same,upd_ne _ _ e2]at f g;have:=hl b f;have:=((d.obj j q v).lt g).2;omega
  .subst e2;have u:q=o:=by grind [Cx.push,fD]
   have x:dW c.hp i=a6 p:=by simpa [Cx.push,fD,Ne.symm e1] using A
   subst u;simp only[Cx.push,upd_same,upd_ne _ _ e1]at f g;have:=hl b g;have:=((d.obj i p x).lt f).2;omega
  .have x:dW c.hp i=a6 p:=by simpa [Cx.push,fD,Ne.symm e1] using A
   have v:dW c.hp j=a6 q:=by simpa [Cx.push,fD,Ne.symm e2] using B
   simp only[Cx.push,upd_ne _ _ e1,upd_ne _ _ e2]at f g;exact d.inj i j p q b x v f g
def Cx.put (c:Cx) (id:Nat) (o:dV) (l:Loc) (w:World):Cx:=⟨upd c.mu id l,jB c.hp id o,c.nxt,w,c.mks,c.bar⟩
theorem Cx.put_get {c:Cx} {id:Nat} {o p:dV} {l:Loc} {w:World} (hp:dW c.hp id=a6 p):dW (c.put id o l w).hp id=a6 o:=Wv hp
theorem Cx.Le.put {W0:World} {c:Cx} {id:Nat} {o o':dV} {l:Loc} {w:World} (y:c.Ok W0) (m:dW c.hp id=a6 o) (hk:o.like (c.mu id) o' l) (s:c.w.heap.size<=w.heap.size)
  (hb: ∀b,b<c.w.heap.size->o.blk (c.mu id)≠a6 b->w.heap[b]? =c.w.heap[b]?) (hl: ∀b,o'.blk l=a6 b->o.blk (c.mu id)=a6 b\/c.w.heap.size<=b)
  (v: ∀(b:Nat) (L:Loop),o.blk (c.mu id)=a6 b->c.w.heap[b]? =a6 (Obj.loop L)-> ∃x:Loop,w.heap[b]? =a6 (Obj.loop x)):c.Le (c.put id o' l w):=by
 refine⟨fun b d=>⟨⟨bu d.1 s, ?_,d.2.2⟩,hb b d.1 fun e=>d.2.1 ⟨id,o,m,e⟩⟩,fun j i=> ?_,fun j p i hp=> ?_,fun _ h=>h,fun b L q=> ?_,s,rfl⟩
 rotate_left 3
 .by_cases e:o.blk (c.mu id)=a6 b
  .exact v b L e q
  .exact⟨L,(hb b (Array.getElem?_eq_some_iff.1 q).1 e).trans q⟩
 .rintro ⟨j,p,f,g⟩;simp only[Cx.put,jJ]at f g;split at f
  .rename_i e
   subst e;rw[m]at f;cases f;rw[upd_same]at g;rcases hl b g with u|u
   .exact d.2.1 ⟨id,o,m,u⟩
   .have:=d.1;omega
  .rename_i e
   rw[upd_ne _ _ (Ne.symm e)]at g;exact d.2.1 ⟨j,p,f,g⟩
 .rcases i with ⟨p,hp⟩|i
  .left
   grind [Cx.put,jJ]
  .right;exact i
 .simp only[Cx.put,jJ]at hp ⊢;split at hp
  .simp_all [upd_same]
  .rename_i e
   exact⟨p,hp,by rw[upd_ne _ _ (Ne.symm e)];exact p.like_refl _⟩
theorem Cx.Ok.put {W0:World} {c:Cx} {id:Nat} {o o':dV} {l:Loc} {w:World} (d:c.Ok W0) (s:dW c.hp id=a6 o) (hk:o.like (c.mu id) o' l) (K:Below W0.heap.size W0 w)
  (M:c.w.heap.size<=w.heap.size) (hb: ∀b,b<c.w.heap.size->o.blk (c.mu id)≠a6 b->w.heap[b]? =c.w.heap[b]?) (hl: ∀b,o'.blk l=a6 b->o.blk (c.mu id)=a6 b\/c.w.heap.size<=b)
  (N: ∀(b:Nat) (L:Loop),o.blk (c.mu id)=a6 b->c.w.heap[b]? =a6 (Obj.loop L)-> ∃O:Loop,w.heap[b]? =a6 (Obj.loop O)) (S:(c.put id o' l w).ORel W0.heap.size id o'):(c.put id o' l w).Ok W0:=by
 have G:=Cx.Le.put (w:=w) d s hk M hb hl N;refine⟨K,fun j p hp=> ?_,fun i j p q b A B g m=> ?_,fun r v=>⟨(d.mks r v).1,(hb r (d.mark_lt v) fun e=>(d.obj id o s).no_mark e (d.mks r v).2).trans (d.mks r v).2⟩,fun b hb=>(G.out b (d.bar b hb)).1,d.phi⟩
 .by_cases e:id=j
  .grind [Cx.put_get]
  .have D:dW c.hp j=a6 p:=by grind [Cx.put,jJ]
   refine(d.obj j p D).le G (upd_ne _ _ (Ne.symm e)) fun b I=>hb b ((d.obj j p D).lt I).2 fun f=>e (d.inj id j o p b s D f I)
 .have x: ∀i p,dW (c.put id o' l w).hp i=a6 p->id≠i->dW c.hp i=a6 p:=fun i p h e=>by simpa [Cx.put,jJ,e] using h
  have J: ∀p,dW (c.put id o' l w).hp id=a6 p->p=o':=fun p h=>by grind [Cx.put_get]
  by_cases e1:id=i<;>by_cases f:id=j
  .rw[<-e1,<-f]
  .subst e1;have E:=J p A;have y:=x j q B f;subst E;simp only[Cx.put,upd_same,upd_ne _ _ (Ne.symm f)]at g m;rcases hl b g with u|u
   .exact d.inj id j o q b s y u m
   .have:=((d.obj j q y).lt m).2;omega
  .subst f;have E:=J q B;have z:=x i p A e1;subst E;simp only[Cx.put,upd_same,upd_ne _ _ (Ne.symm e1)]at g m;rcases hl b m with u|u
   .exact d.inj i id p o b z s g u
   .have:=((d.obj i p z).lt g).2;omega
  .have z:=x i p A e1;have y:=x j q B f;simp only[Cx.put,upd_ne _ _ (Ne.symm e1),upd_ne _ _ (Ne.symm f)]at g m;exact d.inj i j p q b z y g m
theorem bQ.length {c:Cx}: ∀(l:List bZ) (xs:List Value),bQ c l xs->l.length=xs.length
 |[],[],_=>rfl
 |v::l,x::xs,h=>by simp only[bQ]at h;simp[bQ.length l xs h.2]
 |[],_::_,h=>by simp[bQ]at h
 |_::_,[],h=>by simp[bQ]at h
theorem bQ.get {c:Cx}: ∀(l:List bZ) (xs:List Value),bQ c l xs-> ∀(i:Nat) (h:i<l.length) (f:i<xs.length),dh c l[i] xs[i]
 |v::l,x::xs,h,0,_,_=>by simp_all [bQ]
 |v::l,x::xs,h,i+1,d,e=>by simp only[bQ]at h;exact bQ.get l xs h.2 i (by simpa using d) (by simpa using e)
 |[],_,_,_,d,_=>by simp at d
 |_::_,[],h,_,_,_=>by simp[bQ]at h
theorem bQ.append {c:Cx}: ∀(l m:List bZ) (xs d:List Value),bQ c l xs->bQ c m d->bQ c (l++m) (xs++d)
 |[],m,[],d,_,h=>h
 |v::l,m,x::xs,d,h,k=>by simp only[bQ,aH]at h ⊢;exact⟨h.1,bQ.append l m xs d h.2 k⟩
 |[],_,_::_,_,h,_=>by simp[bQ]at h
 |_::_,_,[],_,h,_=>by simp[bQ]at h
theorem bQ.take {c:Cx}: ∀(k:Nat) (l:List bZ) (xs:List Value),bQ c l xs->bQ c (l.take k) (xs.take k)
 |0,_,_,_=>by simp[bQ]
 |k+1,[],[],_=>by simp[bQ]
 |k+1,v::l,x::xs,h=>by simp only[bQ,List.take_succ_cons]at h ⊢;exact⟨h.1,bQ.take k l xs h.2⟩
 |_+1,[],_::_,h=>by simp[bQ]at h
 |_+1,_::_,[],h=>by simp[bQ]at h
theorem bQ.drop {c:Cx}: ∀(k:Nat) (l:List bZ) (xs:List Value),bQ c l xs->bQ c (l.drop k) (xs.drop k)
 |0,_,_,h=>by simpa using h
 |k+1,[],[],_=>by simp[bQ]
 |k+1,v::l,x::xs,h=>by simp only[bQ,List.drop_succ_cons]at h ⊢;exact bQ.drop k l xs h.2
 |_+1,[],_::_,h=>by simp[bQ]at h
 |_+1,_::_,[],h=>by simp[bQ]at h
theorem bQ.set {c:Cx} {v:bZ} {x:Value} (d:dh c v x): ∀(i:Nat) (l:List bZ) (xs:List Value),bQ c l xs->bQ c (l.set i v) (xs.set i x)
 |_,[],[],_=>by simp[bQ]
 |0,u::l,y::xs,h=>by simp_all [bQ]
 |i+1,u::l,y::xs,h=>by simp only[bQ,List.set_cons_succ]at h ⊢;exact⟨h.1,bQ.set d i l xs h.2⟩
 |_,[],_::_,h=>by simp[bQ]at h
 |_,_::_,[],h=>by simp[bQ]at h
theorem bQ.split {c:Cx}: ∀(l m:List bZ) (xs:List Value),bQ c (l++m) xs-> ∃d e,xs=d++e/\bQ c l d/\bQ c m e
 |[],m,xs,h=>⟨[],xs,rfl,by simp[bQ],h⟩
 |v::l,m,x::xs,h=>by
  simp only[bQ,aH]at h;obtain⟨d,e,f,g,i⟩:=bQ.split l m xs h.2;exact⟨x::d,e,by rw[f];rfl,by simp only[bQ];exact⟨h.1,g⟩,i⟩
 |v::l,m,[],h=>by simp[bQ]at h
theorem VD.leaf {c:Cx} {t:Ty} {x:t.den} {v:Value} (h:t.isAgg=false):VD c t x v↔fV c.w c.free t x [v]:=⟨fun d=>d.2 h,fun d=>⟨(fun e=>by rw[h]at e;cases e),(fun _=>d)⟩⟩
theorem VD.agg {c:Cx} {t:Ty} {x:t.den} {v:Value} (h:t.isAgg=true):VD c t x v↔ ∃cs,v=.agg cs/\fV c.w c.free t x cs.toList:=⟨fun d=>d.1 h,fun d=>⟨(fun _=>d),(fun e=>by rw[h]at e;cases e)⟩⟩
theorem VD.cells {c:Cx} {t:Ty} {x:t.den} {v:Value} (h:VD c t x v):fV c.w c.free t x v.cells.toList:=by
 by_cases e:t.isAgg=true
 .obtain⟨cs,rfl,d⟩:=h.1 e;exact d
 .have f:t.isAgg=false:=by simpa using e
  have d:=h.2 f;have g:=fV.one _ _ _ d v (by simp);cases v<;>simp_all [Value.cells,Value.oneCell']
theorem GU {c:Cx}: ∀(t:Ty) (x:t.den) (cs:List Value),fV c.w c.free t x cs->bQ c (flat t x) cs
 |.unit,_,_,h=>by cases h;simp[flat,bQ]
 |.bool,x,cs,h=>by simp only[fV]at h;subst h;simp only[flat,bQ,dh];exact⟨(VD.leaf rfl).2 rfl,trivial⟩
 |.int k,x,cs,h=>by simp only[fV]at h;subst h;simp only[flat,bQ,dh];exact⟨(VD.leaf rfl).2 rfl,trivial⟩
 |.str,x,cs,h=>by simp only[fV]at h;subst h;simp only[flat,bQ,dh];exact⟨(VD.leaf rfl).2 rfl,trivial⟩
 |.list t,x,cs,h=>by
  have e:=h;obtain⟨a,n,l,d,_⟩:=h;subst d;simp only[flat,bQ,dh];exact⟨(VD.leaf rfl).2 e,trivial⟩
 |.pair a b,x,cs,⟨f,g,d,i,j⟩=>by
  subst d;exact bQ.append _ _ _ _ (GU a x.1 f i) (GU b x.2 g j)
theorem nU {t' t:Ty} {x:t'.den} {y:t.den} (h:lM t x=a6 y): ∃e:t'=t,y=cast (congrArg Ty.den e) x:=by
 grind [lM]
theorem ik {t:Ty} (x:t.den):lM t x=a6 x:=by simp[lM]
theorem jb {t' t:Ty} {x:t'.den} {y:t.den} (h:lM t x=a6 y):t'=t:=(nU h).1
theorem NY {c:Cx} {t:Ty} (e:t.isAgg=false) {v:bZ} {x:t.den} (h:leaf t v=a6 x) {u:Value} (d:dh c v u):fV c.w c.free t x [u]:=by
 cases v with
 |val t' y=>
  grind [leaf,nU,dh,VD.leaf]
 |nils=>
  cases t<;>simp only[leaf]at h
  case list t=>
   cases h;simp only[dh]at d;subst d;exact⟨a7,0,[],rfl,by simp,rfl,.inl rfl⟩
  all_goals cases h
 |_=>simp[leaf]at h
theorem akh {c:Cx}: ∀(t:Ty) (l:List bZ) (x:t.den) (e:List bZ) (vs:List Value),mk t l=a6 (x,e)->bQ c l vs->
  ∃cs g,vs=cs++g/\fV c.w c.free t x cs/\bQ c e g
 |.unit,l,x,e,vs,h,d=>by
  simp only[mk,Option.some.injEq,Prod.mk.injEq]at h;obtain⟨_,rfl⟩:=h;exact⟨[],vs,rfl,rfl,d⟩
 |.pair a b,l,x,e,vs,h,d=>by
  simp only[mk]at h;split at h
  .rename_i y i o
   split at h
   .rename_i z G p
    cases h;obtain⟨j,q,I,s,A⟩:=akh a l y i vs o d;obtain⟨m,B,J,D,E⟩:=akh b i z e q p A;exact⟨j++m,B,by simp_all,⟨j,m,rfl,s,D⟩,E⟩
   .cases h
  .cases h
 |.bool,[],_,_,_,h,_=>by simp[mk]at h
 |.int _,[],_,_,_,h,_=>by simp[mk]at h
 |.str,[],_,_,_,h,_=>by simp[mk]at h
 |.list _,[],_,_,_,h,_=>by simp[mk]at h
 |.bool,v::l,x,e,u::vs,h,d=>by
  simp only[bQ]at d;simp only[mk]at h;split at h
  .rename_i y f;cases h;exact⟨[u],vs,rfl,NY rfl f d.1,d.2⟩
  .cases h
 |.int k,v::l,x,e,u::vs,h,d=>by
  simp only[bQ]at d;simp only[mk]at h;split at h
  .rename_i y f;cases h;exact⟨[u],vs,rfl,NY rfl f d.1,d.2⟩
  .cases h
 |.str,v::l,x,e,u::vs,h,d=>by
  simp only[bQ]at d;simp only[mk]at h;split at h
  .rename_i y f;cases h;exact⟨[u],vs,rfl,NY rfl f d.1,d.2⟩
  .cases h
 |.list t,v::l,x,e,u::vs,h,d=>by
  simp only[bQ]at d;simp only[mk]at h;split at h
  .rename_i y f;cases h;exact⟨[u],vs,rfl,NY rfl f d.1,d.2⟩
  .cases h
 |.bool,_::_,_,_,[],_,d=>by simp[bQ]at d
 |.int _,_::_,_,_,[],_,d=>by simp[bQ]at d
 |.str,_::_,_,_,[],_,d=>by simp[bQ]at d
 |.list _,_::_,_,_,[],_,d=>by simp[bQ]at d
theorem qJ {c:Cx} {t:Ty} {l:List bZ} {x:t.den} {vs:List Value} (h:KC t l=a6 x) (d:bQ c l vs):fV c.w c.free t x vs:=by
 grind [KC,akh,bQ]
theorem PN {c:Cx} {v:bZ} {l:List bZ} (h:v.cells=a6 l) {x:Value} (d:dh c v x):bQ c l x.cells.toList/\ ∀u∈x.cells.toList,u.oneCell'=true:=by
 cases v with
 |val t y=>
  simp only[bZ.cells,Option.some.injEq]at h;subst h;simp only[dh]at d;exact⟨GU t y _ d.cells,fV.one _ _ _ d.cells⟩
 |agg i=>
  simp only[bZ.cells,Option.some.injEq]at h;subst h;simp only[dh]at d;obtain⟨j,rfl,e,f⟩:=d;exact⟨e,f⟩
 |undef=>simp[bZ.cells]at h
 |tup _=>simp[bZ.cells]at h
 |_=>
  simp only[bZ.cells,Option.some.injEq]at h;subst h;have g:x.oneCell'=true:=by
   simp only[dh]at d
   first
    |(subst d;rfl)
    |exact d.1
    |(obtain⟨_,_,_,rfl,_⟩:=d;rfl)
    |(obtain⟨_,rfl,_⟩:=d;rfl)
    |(obtain⟨_,_,_,_,rfl,_⟩:=d;rfl)
  have e:x.cells= #[x]:=by cases x<;>simp_all [Value.cells,Value.oneCell']
  rw[e];simp only[bQ];exact⟨⟨d,trivial⟩,by simpa using g⟩
end
section
open Option renaming some → a6, none → a7
open Bool renaming not_eq_true → bz
open List renaming map_cons → au
open Go.RowKit
def lY:TypeDesc->Option TK
 |.bool=>a6 .bool
 |.int k=>a6 (.int k)
 |.string=>a6 .str
 |.slice e=>a6 (.slice e)
 |.struct d=>a6 (.struct (d.toList.map fun f=>(f.offset,f.type)))
 |.func _ _ _=>a6 .fn
 |.pointer e=>a6 (.ptr e)
 |.map k e=>a6 (.map k e)
 |.array _ _=>a7
 |_=>a6 .other
def kH (T:TT):Nat->List (Nat×TypeId)->Option Ty
 |_,[]=>a6 .unit
 |e,(o,d)::f=>if o=e then match(T.at d).ty with
   |some a=>if a.size=(T.at d).size/\(T.at d).known=true then match kH T (e+a.size) f with
    |some b=>a6 (.pair a b)
    |none=>a7
    else a7
   |none=>a7
  else a7
def nz (T:TT):TK->Option Ty
 |.bool=>a6 .bool
 |.int k=>a6 (.int k)
 |.str=>a6 .str
 |.slice e=>(T.at e).ty.map .list
 |.struct d=>kH T 0 d
 |_=>a7
def aGj (P:Program) (T:TT) (t:TypeId) (i:TI):Prop:=
 i.known=true->(P.info? t).map (fun f=>(f.size,f.bytes,f.zero.map fun z=>(z.cells.toList.map zF,z.cells.toList.all Value.oneCell')))=a6 (i.size,i.bytes,a6 (i.zero,true))/\
  (P.underlying t).map lY=a6 (a6 i.k)/\(i.ty=a7\/i.ty=nz T i.k)/\(∀y,i.ty=a6 y->y.size=i.size)/\(i.isAgg=true\/i.size=1)/\
  (i.eq=true->P.eqGuardType P.depth t=false/\P.stoodInHeld t=false/\(P.underlying t).map (fun d=>match d with|.struct fs=>fs.toList.all fun f=>f.name != "_" |_=>false)=a6 true)/\
  (P.underlying t).map (fun d=>match d with|.struct fs=>fs.toList.all fun f=>(P.info? f.type).isSome|_=>true)=a6 true/\i.zero.length=i.size/\(i.ty=a6 (.int .u8)->t=qX)/\(i.bld=true->t=Zw)/\(∀k,i.k=.int k-> ∀j,P.info? t=a6 j->j.zero=a6 (.int k 0))
def TOk (P:Program) (T:TT):Prop:= ∀t,aGj P T t (T.at t)
def TT.All (p:Nat->TI->Prop):TT->Prop
 |.nil=>True
 |.node k i l r=>p k i/\l.All p/\r.All p
theorem TT.All.at_ {p:Nat->TI->Prop} (hd: ∀t,p t default): ∀(T:TT),T.All p-> ∀t,p t (T.at t)
 |.nil,_,t=>hd t
 |.node k i l r,⟨m,d,f⟩,t=>by
  simp only[TT.at];by_cases e:Nat.beq k t=true
  .simp_all
  .have g:Nat.beq k t=false:=(bz _).mp e;simp only[g,ac];by_cases e2:Nat.blt t k=true
   .simp only[e2,aa];exact TT.All.at_ hd l d t
   .have j:Nat.blt t k=false:=(bz _).mp e2;simp only[j,ac];exact TT.All.at_ hd r f t
theorem TOk.of_all {P:Program} {T:TT} (h:T.All (aGj P T)):TOk P T:=TT.All.at_ (fun t h=>by cases h) T h
section types
variable {P:Program} {T:TT} (hT:TOk P T) {t:TypeId} (hk:(T.at t).known=true)
theorem TOk.info (hT:TOk P T) (hk:(T.at t).known=true): ∃i z,P.info? t=a6 i/\i.size=(T.at t).size/\i.bytes=(T.at t).bytes/\i.zero=a6 z/\z.cells.toList.map zF=(T.at t).zero/\z.cells.toList.all Value.oneCell'=true:=by
 have h:=(hT t hk).1;simp_all
theorem TOk.und (hT:TOk P T) (hk:(T.at t).known=true): ∃d,P.underlying t=a6 d/\lY d=a6 (T.at t).k:=by
 have h:=(hT t hk).2.1;simp_all
theorem TOk.slice (hT:TOk P T) (hk:(T.at t).known=true) {e:TypeId} (h:(T.at t).k=.slice e):P.underlying t=a6 (.slice e):=by
 obtain⟨d,g,f⟩:=hT.und hk;rw[h]at f;cases d<;>simp[lY]at f;subst f;exact g
theorem TOk.str (hT:TOk P T) (hk:(T.at t).known=true) (h:(T.at t).k=.str):P.underlying t=a6 .string:=by
 obtain⟨d,f,e⟩:=hT.und hk;rw[h]at e;cases d<;>simp[lY]at e;exact f
theorem TOk.int (hT:TOk P T) (hk:(T.at t).known=true) {k:IntKind} (h:(T.at t).k=.int k):P.underlying t=a6 (.int k):=by
 obtain⟨d,f,e⟩:=hT.und hk;rw[h]at e;cases d<;>simp[lY]at e;subst e;exact f
theorem TOk.struct (hT:TOk P T) (hk:(T.at t).known=true) {e:List (Nat×TypeId)} (h:(T.at t).k=.struct e): ∃g,P.underlying t=a6 (.struct g)/\g.toList.map (fun f=>(f.offset,f.type))=e:=by
 obtain⟨d,j,i⟩:=hT.und hk;rw[h]at i;cases d<;>simp[lY]at i;simp_all
theorem TOk.isAgg (hT:TOk P T) (hk:(T.at t).known=true) (w:World):(Go.isAgg t).run P w=.ok (T.at t).isAgg w:=by
 obtain⟨d,f,e⟩:=hT.und hk;have:(Go.isAgg t).run P w=.ok (match d with|.struct _|.array _ _=>true|_=>false) w:=by
  simp only[Go.isAgg,Sem.run_bind,run_underlying f,Result.andThen_ok];cases d<;>rfl
 rw[this];unfold TI.isAgg;cases d<;>simp only[lY,Option.some.injEq,reduceCtorEq]at e<;>simp[<-e]
theorem TOk.sizeOf (hT:TOk P T) (hk:(T.at t).known=true) (w:World):(Go.sizeOf t).run P w=.ok (T.at t).size w:=by
 obtain⟨i,z,d,e,_⟩:=hT.info hk;simp[Go.sizeOf,typeInfo,d,e]
theorem TOk.ty_agg (hT:TOk P T) (hk:(T.at t).known=true) {y:Ty} (h:(T.at t).ty=a6 y):y.isAgg=(T.at t).isAgg:=by
 rcases(hT t hk).2.2.1 with d|d
 .simp_all
 .rw[h]at d;unfold TI.isAgg;cases hkk:(T.at t).k with
  |struct g=>
   rw[hkk]at d;simp only[nz]at d;cases g with
   |nil=>simp only[kH,Option.some.injEq]at d;subst d;rfl
   |cons f r=>
    obtain⟨o,i⟩:=f;simp only[kH]at d
    repeat' split at d
    all_goals first|cases d|skip
    rfl
  |bool=>rw[hkk]at d;simp only[nz,Option.some.injEq]at d;subst d;rfl
  |int k=>rw[hkk]at d;simp only[nz,Option.some.injEq]at d;subst d;rfl
  |str=>rw[hkk]at d;simp only[nz,Option.some.injEq]at d;subst d;rfl
  |slice e=>
   rw[hkk]at d;simp only[nz]at d;cases he:(T.at e).ty with
   |none=>simp_all
   |some j=>rw[he]at d;simp only[Option.map_some,Option.some.injEq]at d;subst d;rfl
  |other=>rw[hkk]at d;cases d
  |ptr e=>rw[hkk]at d;cases d
  |fn=>rw[hkk]at d;cases d
  |map a b=>rw[hkk]at d;cases d
theorem TOk.ty_size (hT:TOk P T) (hk:(T.at t).known=true) {y:Ty} (h:(T.at t).ty=a6 y):y.size=(T.at t).size:=(hT t hk).2.2.2.1 y h
theorem TOk.zlen (hT:TOk P T) (hk:(T.at t).known=true):(T.at t).zero.length=(T.at t).size:=(hT t hk).2.2.2.2.2.2.2.1
theorem TOk.byte (hT:TOk P T) (hk:(T.at t).known=true) (h:(T.at t).ty=a6 (.int .u8)):t=qX:=(hT t hk).2.2.2.2.2.2.2.2.1 h
theorem TOk.bldr (hT:TOk P T) (hk:(T.at t).known=true) (h:(T.at t).bld=true):t=Zw:=(hT t hk).2.2.2.2.2.2.2.2.2.1 h
theorem TOk.ptr (hT:TOk P T) (hk:(T.at t).known=true) {e:TypeId} (h:(T.at t).k=.ptr e):P.underlying t=a6 (.pointer e):=by
 obtain⟨d,g,f⟩:=hT.und hk;rw[h]at f;cases d<;>simp[lY]at f;subst f;exact g
theorem TOk.zero_int (hT:TOk P T) (hk:(T.at t).known=true) {k:IntKind} (h:(T.at t).k=.int k) {i:TypeInfo} (hi:P.info? t=a6 i):i.zero=a6 (.int k 0):=(hT t hk).2.2.2.2.2.2.2.2.2.2 k h i hi
theorem TOk.zero_byte (hT:TOk P T) (hk:(T.at t).known=true) (h:(T.at t).k=.int .u8) {i:TypeInfo} (hi:P.info? t=a6 i):i.zero=a6 (.int .u8 0):=hT.zero_int hk h hi
theorem TOk.map (hT:TOk P T) (hk:(T.at t).known=true) {a e:TypeId} (h:(T.at t).k=.map a e):P.underlying t=a6 (.map a e):=by
 obtain⟨d,g,f⟩:=hT.und hk;rw[h]at f;cases d<;>simp[lY]at f;simp_all
theorem TOk.one (hT:TOk P T) (hk:(T.at t).known=true):(T.at t).isAgg=true\/(T.at t).size=1:=(hT t hk).2.2.2.2.1
end types
theorem VH (c:Cx) (v:Value):dh c (zF v) v:=by
 unfold zF;split<;>simp only[dh]
 .exact(VD.leaf rfl).2 rfl
 .exact(VD.leaf rfl).2 rfl
 .refine(VD.leaf rfl).2 ?_;simp[fV]
theorem wP (c:Cx): ∀(l:List Value),bQ c (l.map zF) l
 |[]=>by simp[bQ]
 |v::l=>by simp only[au,bQ];exact⟨VH c v,wP c l⟩
theorem bQ.setL {c:Cx} {z:bZ}: ∀(s:Nat) (fr:List bZ) (xs:List Value),bQ c fr xs->(∀h:s<xs.length,dh c z xs[s])->bQ c (fr.set s z) xs
 |s,[],[],_,_=>by simp[bQ]
 |0,v::fr,x::xs,h,d=>by
  simp_all [bQ]
 |s+1,v::fr,x::xs,h,d=>by
  simp only[bQ,List.set_cons_succ]at h ⊢;exact⟨h.1,bQ.setL s fr xs h.2 fun e=>d (by simpa using e)⟩
 |s,[],_::_,h,_=>by simp[bQ]at h
 |s,_::_,[],h,_=>by simp[bQ]at h
theorem bQ.getD {c:Cx} {l:List bZ} {xs:Array Value} (h:bQ c l xs.toList) (t:Nat):dh c (l.getD t .undef) (xs.getD t undef):=by
 have e:l.length=xs.size:=by grind [bQ.length,Array.length_toList]
 by_cases ht:t<l.length
 .have d:t<xs.size:=by omega
  have f:=bQ.get _ _ h t ht (by simpa using d);simp_all
 simp_all [dh]
theorem dY {c:Cx} {fr:List bZ} {a:Act} (h:bQ c fr a.tmps.toList) (x:Operand):dh c (iH fr x) (a.eval x):=by
 cases x with
 |tmp t=>exact h.getD t
 |const v=>
  cases v with
  |agg cs=>
   simp only[iH,Act.eval,abD];cases e:cs.toList.all Value.oneCell'
   .simp[dh]
   .simp only[aa,dh];exact⟨cs,rfl,wP c _,fun u d=>List.all_eq_true.1 e u d⟩
  |tuple _=>simp[iH,abD,dh]
  |_=>simp only[iH,Act.eval,abD];exact VH c _
 |global g=>simp[iH,dh]
 |func f=>simp only[iH,Act.eval,dh];exact⟨#[],rfl,by simp[bQ]⟩
end
section
open Option renaming some → a6, none → a7
open Bool renaming false_eq_true → ag, not_true → ax
open List renaming append_assoc → ah, mem_of_mem_take → bn
open Go.RowKit
theorem dL {R:Type} {b:Bool} {x:Option R} {r:R} (h:(bif b then x else a7)=a6 r):b=true/\x=a6 r:=by
 grind
theorem gW {R:Type} {b:Bool} {x:Option R} {r:R} (h:nT b x=a6 r):b=true/\x=a6 r:=dL h
abbrev J3 (c:Cx) (w:World):Prop:=Below c.w.heap.size c.w w
def valOf (agg:Bool) (d:List Value):Value:=if agg then .agg d.toArray else d.headD undef
theorem lI (b o n:Nat):(⟨b,o,a7⟩:Addr).add n=⟨b,o+n,a7⟩:=by
 simp_all [Addr.add]
section
variable {P:Program} {T:TT} {W0:World} {c:Cx} {R:Type} {r:R} {t:TypeId}
theorem OZ (hT:TOk P T) (hk:(T.at t).known=true) {w:World} {b o:Nat} {d:List Value} (g:iK w b o d) (hl:d.length=(T.at t).size):
  (loadVar t ⟨b,o,a7⟩).run P w=.ok (valOf (T.at t).isAgg d) w:=by
 have i:=hT.isAgg hk w;have l:=hT.sizeOf hk w;have f: ∀j v,d[j]? =a6 v->w.cell? ((⟨b,o,a7⟩:Addr).add j)=a6 v:=fun j v m=>by
  rw[lI];obtain⟨p,q⟩:=List.getElem?_eq_some_iff.1 m;rw[g j p,q]
 simp only[loadVar,Sem.run_bind,i,Result.andThen_ok];cases e:(T.at t).isAgg
 .have s:d.length=1:=by
   rcases hT.one hk with h|h
   all_goals simp_all
  match d,s with
  |[z],_=>
   have u:=f 0 z rfl;simp_all [lI,valOf]
 .simp only[if_true,Sem.run_bind,l,Result.andThen_ok,<-hl,run_loadCells_list (P:=P) w ⟨b,o,a7⟩ d f,Sem.run_pure,valOf]
theorem vg (hT:TOk P T) (hk:(T.at t).known=true) {w:World} {b o:Nat} {d:List Value} (e:iK w b o d) (hl:d.length=(T.at t).size):
  (Instr.loadAt t (.pointer (a6 ⟨b,o,a7⟩))).run P w=.ok (valOf (T.at t).isAgg d) w:=by
 grind [Instr.loadAt,Instr.sureAddr,OZ]
theorem aix (hT:TOk P T) (hk:(T.at t).known=true) {y:Ty} (g:(T.at t).ty=a6 y) {x:y.den} {d:List Value} (h:fV c.w c.free y x d):VD c y x (valOf (T.at t).isAgg d):=by
 have f:=hT.ty_agg hk g;cases e:(T.at t).isAgg
 .rw[e]at f;refine(VD.leaf f).2 ?_;have i:=fV.length _ _ _ h;have j:d.length=1:=by
   rw[i];cases y<;>first|rfl|(simp[Ty.isAgg]at f)
  match d,j with
  |[z],_=>exact h
 .rw[e]at f;exact(VD.agg f).2 ⟨d.toArray,rfl,by simpa using h⟩
theorem OD (hT:TOk P T) (hk:(T.at t).known=true) {l:List bZ} {d:List Value} (h:bQ c l d) (m: ∀u∈d,u.oneCell'=true):dh c (norm (T.at t) l) (valOf (T.at t).isAgg d):=by
 unfold norm valOf TI.isAgg;have e:dh c (.agg l) (.agg d.toArray):=by simp only[dh];simp_all
 cases hkk:(T.at t).k with
 |struct o=>
  simp only[if_true];split
  .rename_i y g
   split
   .rename_i x i
    rw[cond_eq_ite];split
    .exact e
    simp only[dh];have j:=qJ i h;have f:=hT.ty_agg hk g;rw[TI.isAgg,hkk]at f;exact(VD.agg f).2 ⟨d.toArray,rfl,by simpa using j⟩
   .exact e
  .exact e
 |_=>
  simp only[ag,if_false];split
  .rename_i v
   match d,h with
   |[z],h=>simp only[bQ]at h;exact h.1
   |[],h=>simp[bQ]at h
   |_::_::_,h=>simp[bQ]at h
  .simp[dh]
theorem EK {cs l:List bZ} {off k:Nat} (h:Nb cs off k=a6 l):off+k<=cs.length/\l=(cs.drop off).take k:=by
 unfold Nb at h;obtain⟨d,e⟩:=dL h;simp_all
theorem iK.sub {w:World} {b o:Nat} {d:List Value} (h:iK w b o d) (off k:Nat):iK w b (o+off) ((d.drop off).take k):=by
 intro j e;have f:off+j<d.length:=by simp at e;omega
 rw[Nat.add_assoc,h (off+j) f];simp
theorem iK.of_block_cells {w:World} {b:Nat} {vs:Array Value} {e:TypeId} {f:Nat×Nat} (h:w.heap[b]? =a6 (.cells vs e f)):iK w b 0 vs.toList:=by
 intro j d;simp_all [World.cell?]
theorem J3.cells {c:Cx} {w:World} (h:J3 c w) {b o:Nat} {d:List Value} (hb:b<c.w.heap.size) (e:iK c.w b o d):iK w b o d:=e.of_block (h.block b hb)
theorem ayB (o:c.Ok W0) {id p:Nat} {y:Ty} {xs:List y.den} (h:dW c.hp id=a6 (.arr y p xs)) {i:Nat} (hi:i<xs.length):
  ∃g n cp f,(c.mu id).v=.slice (a6 ⟨g,0,a7⟩) n cp/\c.own g/\fV c.w c.free y xs[i] f/\iK c.w g (i*y.size) f:=by
 obtain⟨L,e,f,q,s,M⟩:=o.obj id _ h;obtain⟨d,N,u,O,S,x,z⟩:=gK.at_ i xs f hi s;rcases q.2 with ⟨l,A⟩|⟨g,U,B,l,A,D,V,W,X,E⟩
 .omega
 .refine⟨g,_,_,d,l,⟨id,_,h,by simp[dV.blk,l,Value.ownBlock]⟩,u, ?_⟩;have G:=iK.of_block_cells D;intro j I;have m:f[i*y.size+j]? =a6 d[j]:=by
   rw[x,ah,List.getElem?_append_right (by omega),z,Nat.add_sub_cancel_left,List.getElem?_append_left I];simp
  have J:i*y.size+j<f.length:=(List.getElem?_eq_some_iff.1 m).1;rw[<-E]at m J;have K:i*y.size+j<B.toList.length:=by grind
  have:=G (i*y.size+j) K
  grind
theorem ayv (hT:TOk P T) (s:c.Ok W0) {av:bZ} {v:Value} {K:bZ->Option R} (h:PY T c.hp t av K=a6 r) (d:dh c av v):
  ∃z u,K z=a6 r/\dh c z u/\ ∀w',J3 c w'->(Instr.loadAt t v).run P w'=.ok u w':=by
 unfold PY at h;cases hk:(T.at t).known
 .simp_all
 rw[hk]at h;simp only[ax,ac]at h;cases av with
 |cellp y x=>
  simp only at h;split at h
  .rename_i y' S
   split at h
   .rename_i x' A
    obtain⟨e,B⟩:=nU A;subst e;subst B;simp only[dh]at d;obtain⟨b,o,U,rfl,V,f,hd⟩:=d;refine⟨_,_,h, ?_,fun w' j=>vg hT hk (j.cells V.1 f) ?_⟩
    .grind [dh,aix]
    .rw[fV.length _ _ _ hd,hT.ty_size hk S]
   .cases h
  .cases h
 |ptr id m=>
  simp only at h;split at h
  .rename_i bt cs I
   split at h
   .rename_i l D
    obtain⟨p,rfl⟩:=EK D;simp only[dh]at d;have W:=d.2.2 _ _ I;subst W;obtain⟨hB,vs,q,J,X⟩:=s.obj id _ I;have Y:=bQ.length _ _ J;have f:=(iK.of_block_cells q).sub m (T.at t).size;rw[Nat.zero_add]at f;refine⟨_,_,h,OD hT hk (bQ.take _ _ _ (bQ.drop m _ _ J)) (fun u E=>X u (List.mem_of_mem_drop (bn E))),fun w' j=>vg hT hk (j.cells (Array.getElem?_eq_some_iff.1 q).1 f) ?_⟩
    grind
   .cases h
  .cases h
 |ep id ver i m=>
  simp only at h;split at h
  .rename_i y u G L
   replace h:=dL h;obtain⟨p,h⟩:=h;replace h:=dL h;obtain⟨B,h⟩:=h;have p:u=ver:=by simpa using p
   subst p;have M:i<G.length:=by simpa [TC] using B
   split at h
   .rename_i l D
    obtain⟨q,rfl⟩:=EK D;simp only[dh]at d;obtain⟨g',n',ae,Z,e2⟩:=(d.2.2 _ _ _ L).2 rfl;obtain⟨g,n,cp,U,N,ab,hd,f⟩:=ayB s L M;rw[Z]at N;cases N;subst e2;have A:G.getD i y.dflt=G[i]:=by simp[List.getD,M]
    rw[A]at h q;have O:=GU y _ _ hd;have Y:=bQ.length _ _ O;have ad:=f.sub m (T.at t).size;refine⟨_,_,h,OD hT hk (bQ.take _ _ _ (bQ.drop m _ _ O)) (fun u E=>fV.one _ _ _ hd u (List.mem_of_mem_drop (bn E))),fun w' j=>vg hT hk (j.cells (s.own_lt ab).2 ad) ?_⟩;simp;omega
   .cases h
  .cases h
 |_=>cases h
end
end
section
open Option renaming some → a6, none → a7
open Bool renaming and_eq_true → af, false_eq_true → ag, not_true → ax, true_and → aQ
open List renaming map_cons → au, drop_eq_getElem_cons → aF, map_nil → aX
open Go.RowKit
section
variable {P:Program} {T:TT} {W0:World} {c:Cx} {R:Type} {r:R} {t:TypeId}
theorem VD.int_inv {k:IntKind} {n:Int} {v:Value} (h:VD c (.int k) n v):v=.int k n:=by
 have:=h.2 rfl;simp_all [fV]
theorem VD.bool_inv {b:Bool} {v:Value} (h:VD c .bool b v):v=.bool b:=by
 have:=h.2 rfl;simp_all [fV]
theorem VD.str_inv {s:List UInt8} {v:Value} (h:VD c .str s v):v=.string ⟨s.toArray⟩:=by
 have:=h.2 rfl;simp_all [fV]
theorem VD.int_mk {k:IntKind} {n:Int}:VD c (.int k) n (.int k n):=(VD.leaf rfl).2 rfl
theorem VD.bool_mk {b:Bool}:VD c .bool b (.bool b):=(VD.leaf rfl).2 rfl
theorem VD.str_mk {s:List UInt8}:VD c .str s (.string ⟨s.toArray⟩):=(VD.leaf rfl).2 rfl
theorem I9 (hT:TOk P T) (h:T.isStr t=true):P.underlying t=a6 .string:=by
 unfold TT.isStr at h;split at h
 .rename_i e;exact hT.str h e
 .cases h
theorem nN (hT:TOk P T) {n:Nat} (h:T.rowOf t n=true): ∃e,P.underlying t=a6 (.slice e)/\(T.at e).known=true/\(T.at e).size=n/\0<n/\(T.at t).k=.slice e/\0<(T.at e).bytes:=by
 unfold TT.rowOf at h;split at h
 .rename_i e d
  simp only[af,beq_iff_eq,TC,decide_eq_true_eq]at h;exact⟨e,hT.slice h.1 d,h.2.1,h.2.2.1,h.2.2.2.1,d,h.2.2.2.2⟩
 .cases h
theorem _root_.Go.Proofs.YtkichehglnecnaaGreatDoor.TOk.isPtr (hT:TOk P T) (h:T.isPtr t=true): ∃e,P.underlying t=a6 (.pointer e):=by
 unfold TT.isPtr at h;split at h
 .rename_i e hk;exact⟨e,hT.ptr h hk⟩
 .cases h
theorem _root_.Go.Proofs.YtkichehglnecnaaGreatDoor.TOk.isBytes (hT:TOk P T) (h:T.isBytes t=true):P.underlying t=a6 (.pointer qX)/\P.cellsOf qX=1:=by
 unfold TT.isBytes at h;split at h
 .rename_i e hk
  simp only[af]at h;obtain⟨g,d,f⟩:=h;split at f
  .rename_i j
   have:=hT.byte d j;subst this;refine⟨hT.ptr g hk, ?_⟩;obtain⟨i,z,l,m,_⟩:=hT.info d;simp_all [Program.cellsOf]
  .cases f
 .cases h
theorem OJ (hT:TOk P T) (hk:(T.at t).known=true) (w:World) (cs:Array Value) (off:Nat) (h:off+(T.at t).size<=cs.size):
  (part t cs off).run P w=.ok (valOf (T.at t).isAgg ((cs.toList.drop off).take (T.at t).size)) w:=by
 have d:=hT.isAgg hk w;have f:=hT.sizeOf hk w;simp only[part,Sem.run_bind,d,Result.andThen_ok];cases e:(T.at t).isAgg
 .have g:(T.at t).size=1:=by
   rcases hT.one hk with h|h
   all_goals simp_all
  have i:off<cs.size:=by omega
  simp_all [aF,valOf]
 .simp only[if_true,Sem.run_bind,f,Result.andThen_ok,Sem.run_pure,valOf];congr 2
  grind
theorem EN (hT:TOk P T): ∀(n:Nat) (t:TypeId),T.eqOk n t=true-> ∀(y:Ty),(T.at t).ty=a6 y-> ∀(x j:y.den) (l m:List Value),fV c.w c.free y x l->fV c.w c.free y j m->
  ∀(w:World) (d:Nat),n<=d->(Op.equalIn d t (valOf (T.at t).isAgg l) (valOf (T.at t).isAgg m)).run P w=.ok (y.same x j) w
 |0,_,h,_,_,_,_,_,_,_,_,_,_,_=>by simp[TT.eqOk]at h
 |n+1,t,h,y,z,x,j,l,m,W,X,w,d,hd=>by
  obtain⟨d,rfl⟩: ∃e,d=e+1:=⟨d-1,by omega⟩;simp only[TT.eqOk,af]at h;obtain⟨hk,h⟩:=h;have i:(T.at t).ty=nz T (T.at t).k:=by
   rcases(hT t hk).2.2.1 with g|g
   all_goals simp_all
  cases hkk:(T.at t).k with
  |bool=>
   rw[z,hkk]at i;simp only[nz,Option.some.injEq]at i;subst i;obtain⟨Y,o,q⟩:=hT.und hk;rw[hkk]at q;cases Y<;>simp[lY]at q;simp_all [fV,TI.isAgg,valOf,run_equalIn_bool,Ty.same]
  |int k=>
   rw[z,hkk]at i;simp only[nz,Option.some.injEq]at i;subst i;have o:=hT.int hk hkk;simp_all [fV,TI.isAgg,valOf,run_equalIn_int,Ty.same]
  |str=>
   rw[z,hkk]at i;simp only[nz,Option.some.injEq]at i;subst i;have o:=hT.str hk hkk;simp_all [fV,TI.isAgg,valOf,run_equalIn_string,Ty.same]
  |struct fs=>
   rw[hkk]at h;simp only[af]at h;obtain⟨K,L⟩:=h;have M:(T.at t).isAgg=true:=by simp[TI.isAgg,hkk]
   rw[z,hkk]at i;simp only[nz]at i;obtain⟨G,o,q⟩:=hT.struct hk hkk;obtain⟨_,N,I⟩:=(hT t hk).2.2.2.2.2.1 K;rw[o]at I;simp only[Option.map_some,Option.some.injEq]at I;have J:P.fieldsOf t=G:=by simp[Program.fieldsOf,o]
   simp only[valOf,M,if_true];rw[run_equalIn_struct w d t _ _ (by rw[J];exact o) N,J];clear J N o z;rw[<-q]at i L;generalize G.toList=p at*;clear q G hkk K M hk;have Z: ∀(p:List Field) (s:Nat) (y:Ty) (x j:y.den) (l m u v:List Value),kH T s (p.map fun f=>(f.offset,f.type))=a6 y->(p.map fun f=>(f.offset,f.type)).all (fun f=>T.eqOk n f.2)=true->
     (p.all fun f=>f.name != "_")=true->fV c.w c.free y x l->fV c.w c.free y j m->u.length=s->v.length=s->
     (Op.eqFields d (u++l).toArray (v++m).toArray p).run P w=.ok (y.same x j) w:=by
    intro p
    induction p with
    |nil=>
     intro s y x j l m u v g _ _ A B _ _;simp only[aX,kH,Option.some.injEq]at g;subst g;rfl
    |cons f p ih=>
     intro s y x j l m u v g A B h4 h5 h6 h7;simp only[au,kH]at g;split at g
     .rename_i ab
      split at g
      .rename_i a ha
       split at g
       .rename_i O
        split at g
        .rename_i b hb
         cases g;simp only[au,List.all_cons,af]at A B;obtain⟨D,S,o,q,e3⟩:=h4;obtain⟨E,U,e4,V,e6⟩:=h5;subst o;subst e4;have ad:=fV.length _ _ _ q;have ae:=fV.length _ _ _ V;have n1:(f.name≠ "_"):=by simpa using B.1
         have p1:(part f.type (u++(D++S)).toArray f.offset).run P w=.ok (valOf (T.at f.type).isAgg D) w:=by
          rw[OJ hT O.2 w _ _ (by simp;omega)];simp_all
         have p2:(part f.type (v++(E++U)).toArray f.offset).run P w=.ok (valOf (T.at f.type).isAgg E) w:=by
          rw[OJ hT O.2 w _ _ (by simp;omega)];simp_all
         have p3:=EN hT n f.type A.1 a ha x.1 j.1 D E q V w d (by omega);simp only[Op.eqFields,am n1,Sem.run_bind,p1,p2,p3,Result.andThen_ok,Ty.same];cases a.same x.1 j.1
         .simp
         .simp only[ax,ag,if_false,aQ];have:=ih (s+a.size) b x.2 j.2 S U (u++D) (v++E) hb A.2 B.2 e3 e6 (by simp;omega) (by simp;omega);simpa using this
        .cases g
       .cases g
      .cases g
     .cases g
   have:=Z p 0 y x j l m [] [] i.symm L I W X rfl rfl;simpa using this
  |_=>simp_all
theorem afn (w:World) (d:BinOp) (a b:List UInt8) (h:d=.eql\/d=.neq\/d=.lss\/d=.leq\/d=.gtr\/d=.geq):
  ∃u,dh c (abr d a b) u/\ ∀w,(Op.stringOp d ⟨a.toArray⟩ ⟨b.toArray⟩).run P w=.ok u w:=by
 rcases h with rfl|rfl|rfl|rfl|rfl|rfl<;>
  exact⟨_,by simp only[abr,dh];exact VD.bool_mk,fun w=>by simp[Op.stringOp,gp,ltS]⟩
theorem nZ (d:BinOp) (t:TypeId) (ox oy:Operand) (x y:Value) (w:World) (h:x.oneCell'=true) (h2:x≠ .nilIface):(eqGuard d t ox oy x y).run P w=.ok () w:=by
 unfold eqGuard;cases x<;>first
  |(simp[Value.oneCell']at h;done)
  |exact absurd rfl h2
  |(cases d<;>simp)
theorem IM {y:Ty} {v:bZ} {x:y.den} (h:v.as [] y=a6 x) (d:y.isAgg=true) {u:Value} (f:dh c v u): ∃cs,u=.agg cs/\fV c.w c.free y x cs.toList:=by
 cases v with
 |val t' z=>
  grind [bZ.as,nU,dh,VD.agg]
 |nils=>cases y<;>simp_all [bZ.as,Ty.isAgg]
 |emp=>cases y<;>simp_all [bZ.as,Ty.isAgg]
 |lst t' z b=>
  simp only[bZ.as]at h;obtain⟨e,_⟩:=nU h;subst e;cases d
 |slc id ver j=>cases y<;>simp_all [bZ.as,Ty.isAgg]
 |agg l=>
  simp only[bZ.as,d,aa]at h;simp only[dh]at f;obtain⟨g,rfl,i,_⟩:=f;exact⟨g,rfl,qJ h i⟩
 |_=>simp[bZ.as]at h
theorem aMS (hT:TOk P T) {f:BinOp} {ox oy:Operand} {x y:bZ} {D E:Value} {K:bZ->Option R} (h:agb T f t x y K=a6 r) (hx:dh c x D) (i:dh c y E):
  ∃z u,K z=a6 r/\dh c z u/\ ∀w,(do eqGuard f t ox oy D E;binOp f t D E:Sem Value).run P w=.ok u w:=by
 unfold agb at h;split at h
 .
  rename_i k a U b
  simp only[dh]at hx i;obtain rfl:=hx.int_inv;obtain rfl:=i.int_inv;split at h
  .rename_i hk
   subst hk;have l: ∀w,(eqGuard f t ox oy (.int k a) (.int k b)).run P w=.ok () w:=fun w=>nZ f t ox oy _ _ w rfl (by simp);cases f<;>simp only[reduceCtorEq]at h
   case quo=>
    replace h:=gW h;obtain⟨g,h⟩:=h;have g:b≠0:=by simpa [bY] using g
    exact⟨_,_,h,by simp only[dh];exact VD.int_mk,fun w=>by simp_all [binOp,Op.intDiv,aLy]⟩
   case rem=>
    replace h:=gW h;obtain⟨g,h⟩:=h;have g:b≠0:=by simpa [bY] using g
    exact⟨_,_,h,by simp only[dh];exact VD.int_mk,fun w=>by simp_all [binOp,Op.intDiv]⟩
   case add=>exact⟨_,_,h,by simp only[Cf,dh];exact VD.int_mk,fun w=>by simp_all [binOp,Op.intArith,cO]⟩
   case sub=>exact⟨_,_,h,by simp only[Cf,dh];exact VD.int_mk,fun w=>by simp_all [binOp,Op.intArith,eP]⟩
   case mul=>exact⟨_,_,h,by simp only[Cf,dh];exact VD.int_mk,fun w=>by simp_all [binOp,Op.intArith,arM]⟩
   case eql=>exact⟨_,_,h,by simp only[Cf,dh];exact VD.bool_mk,fun w=>by simp_all [binOp,Op.intCmp,bY]⟩
   case neq=>exact⟨_,_,h,by simp only[Cf,dh];exact VD.bool_mk,fun w=>by simp_all [binOp,Op.intCmp,bY,bne]⟩
   case lss=>exact⟨_,_,h,by simp only[Cf,dh];exact VD.bool_mk,fun w=>by simp_all [binOp,Op.intCmp,iF]⟩
   case leq=>exact⟨_,_,h,by simp only[Cf,dh];exact VD.bool_mk,fun w=>by simp_all [binOp,Op.intCmp,leI]⟩
   case gtr=>exact⟨_,_,h,by simp only[Cf,dh];exact VD.bool_mk,fun w=>by simp_all [binOp,Op.intCmp,iF]⟩
   case geq=>exact⟨_,_,h,by simp only[Cf,dh];exact VD.bool_mk,fun w=>by simp_all [binOp,Op.intCmp,leI]⟩
   case and=>exact⟨_,_,h,by simp only[dh];exact VD.int_mk,fun w=>by simp_all [binOp,Op.intBits,atE]⟩
   case or=>exact⟨_,_,h,by simp only[dh];exact VD.int_mk,fun w=>by simp_all [binOp,Op.intBits,atE]⟩
   case xor=>exact⟨_,_,h,by simp only[dh];exact VD.int_mk,fun w=>by simp_all [binOp,Op.intBits,atE]⟩
   case andNot=>exact⟨_,_,h,by simp only[dh];exact VD.int_mk,fun w=>by simp_all [binOp,Op.intBits,atE]⟩
   case shl=>
    obtain⟨g,h⟩:=gW h;have g: ¬b<0:=by simpa [leI] using g
    exact⟨_,_,h,by simp only[dh];exact VD.int_mk,fun w=>by simp[Sem.run_bind,l,binOp,Op.shift,g,aD3]⟩
   case shr=>
    obtain⟨g,h⟩:=gW h;have g: ¬b<0:=by simpa [leI] using g
    exact⟨_,_,h,by simp only[dh];exact VD.int_mk,fun w=>by simp[Sem.run_bind,l,binOp,Op.shift,g,aD4]⟩
  .have l: ∀w,(eqGuard f t ox oy (.int k a) (.int U b)).run P w=.ok () w:=fun w=>nZ f t ox oy _ _ w rfl (by simp);split at h
   .obtain⟨g,h⟩:=gW h;have g: ¬b<0:=by simpa [leI] using g
    exact⟨_,_,h,by simp only[dh];exact VD.int_mk,fun w=>by simp[Sem.run_bind,l,binOp,Op.shift,g,aD3]⟩
   .obtain⟨g,h⟩:=gW h;have g: ¬b<0:=by simpa [leI] using g
    exact⟨_,_,h,by simp only[dh];exact VD.int_mk,fun w=>by simp[Sem.run_bind,l,binOp,Op.shift,g,aD4]⟩
   .cases h
 .
  rename_i a b
  simp only[dh]at hx i;obtain rfl:=hx.bool_inv;obtain rfl:=i.bool_inv;replace h:=dL h;obtain⟨hk,h⟩:=h;have l: ∀w,(eqGuard f t ox oy (.bool a) (.bool b)).run P w=.ok () w:=fun w=>nZ f t ox oy _ _ w rfl (by simp);have v:(T.at t).k=.bool->P.underlying t=a6 .bool:=fun e=>by
   obtain⟨d,o,p⟩:=hT.und hk;rw[e]at p;cases d<;>simp[lY]at p;exact o
  split at h
  .rename_i e
   have o:=v e;exact⟨_,_,h,by simp only[dh];exact VD.bool_mk,fun w=>by simp_all [binOp,Op.equal,Op.maxDepth,run_equalIn_bool]⟩
  .rename_i e
   have o:=v e;exact⟨_,_,h,by simp only[dh];exact VD.bool_mk,fun w=>by simp_all [binOp,Op.equal,Op.maxDepth,run_equalIn_bool]⟩
  .cases h
 .
  rename_i a b
  simp only[dh]at hx i;obtain rfl:=hx.str_inv;obtain rfl:=i.str_inv;have l: ∀w,(eqGuard f t ox oy (.string ⟨a.toArray⟩) (.string ⟨b.toArray⟩)).run P w=.ok () w:=fun w=>nZ f t ox oy _ _ w rfl (by simp);have A:binOp f t (.string ⟨a.toArray⟩) (.string ⟨b.toArray⟩)=Op.stringOp f ⟨a.toArray⟩ ⟨b.toArray⟩:=by cases f<;>rfl
  have Y:(f=.eql\/f=.neq\/f=.lss\/f=.leq\/f=.gtr\/f=.geq)->K (abr f a b)=a6 r->
    ∃z u,K z=a6 r/\dh c z u/\ ∀w,(do eqGuard f t ox oy (.string ⟨a.toArray⟩) (.string ⟨b.toArray⟩);binOp f t (.string ⟨a.toArray⟩) (.string ⟨b.toArray⟩):Sem Value).run P w=.ok u w:=fun V Z=>by
   obtain⟨u,g,N⟩:=afn (P:=P) (c:=c) default f a b V
   grind [Sem.run_bind,Result.andThen_ok]
  cases f<;>simp only[reduceCtorEq]at h
  case add=>
   replace h:=gW h;obtain⟨g,h⟩:=h;refine⟨_,_,h,by simp only[dh];exact VD.str_mk,fun w=> ?_⟩;have g:a.length+b.length<=mJ:=by simpa using g
   have N: ¬((a.length:Int)+(b.length:Int)>IntKind.i64.max):=by
    grind [IntKind.max,IntKind.bits,mJ]
   have o:(⟨a.toArray⟩:ByteArray)++⟨b.toArray⟩=⟨(a++b).toArray⟩:=by
    rfl
   simp_all [ByteArray.size,Op.stringOp]
  all_goals simp_all
 .
  rename_i e xs b
  simp only[dh]at hx i;obtain⟨ab,s,n,m,rfl,rfl⟩:=hx;subst i;replace h:=dL h;obtain⟨hk,h⟩:=h;have l: ∀w,(eqGuard f t ox oy (.slice s n m) (.slice a7 0 0)).run P w=.ok () w:=fun w=>nZ f t ox oy _ _ w rfl (by simp);have v: ∀j,(T.at t).k=.slice j->P.underlying t=a6 (.slice j):=fun j e=>by
   obtain⟨d,o,p⟩:=hT.und hk;rw[e]at p;cases d<;>simp[lY]at p;rw[o,p]
  have q: ∀j,(T.at t).k=.slice j-> ∀w,(Op.equal t (.slice s n m) (.slice a7 0 0)).run P w=.ok s.isNone w:=fun j e w=>by
   have o:=v j e;show(Op.equalIn (9999+1) t (.slice s n m) (.slice a7 0 0)).run P w=_;unfold Op.equalIn;rw[Sem.run_bind,run_underlying o,Result.andThen_ok];cases s<;>rfl
  split at h
  .rename_i j e
   exact⟨_,_,h,by simp only[dh];exact VD.bool_mk,fun w=>by simp_all [binOp]⟩
  .rename_i j e
   exact⟨_,_,h,by simp only[dh];exact VD.bool_mk,fun w=>by simp_all [binOp]⟩
  .cases h
 .
  rename_i h0 g N O
  cases q:T.eqOk 6 t
  .simp_all
  rw[q]at h;simp only[ax,ac]at h;split at h
  .rename_i fs G S I
   have W:(T.at t).isAgg=true:=by simp[TI.isAgg,S]
   have hk:(T.at t).known=true:=by simp_all [TT.eqOk]
   have B:G.isAgg=true:=by rw[hT.ty_agg hk I,W]
   have ad:P.eqGuardType P.depth t=false:=by
    simp only[TT.eqOk,af,S]at q;exact((hT t hk).2.2.2.2.2.1 q.2.1).1
   split at h
   .rename_i a b J A
    obtain⟨cs,rfl,L⟩:=IM J B hx;obtain⟨X,rfl,M⟩:=IM A B i;refine⟨_,_,h,by simp only[dh];exact VD.bool_mk,fun w=> ?_⟩;have O:=EN (P:=P) hT 6 t q G I a b _ _ L M w 10000 (by omega);simp_all [valOf,run_eqGuard_agg,run_eql_struct]
   .rename_i a b J A
    obtain⟨cs,rfl,L⟩:=IM J B hx;obtain⟨X,rfl,M⟩:=IM A B i;refine⟨_,_,h,by simp only[dh];exact VD.bool_mk,fun w=> ?_⟩;have O:=EN (P:=P) hT 6 t q G I a b _ _ L M w 10000 (by omega);simp_all [valOf,run_eqGuard_agg,run_neq_struct]
   .cases h
  .cases h
theorem ayu {W0:World} (hT:TOk P T) (G:c.Ok W0) {i:BinOp} {ox oy:Operand} {x y:bZ} {o q:Value} {K:bZ->Option R} (h:VQ T c.hp i t x y K=a6 r) (hx:dh c x o) (l:dh c y q):
  ∃z u,K z=a6 r/\dh c z u/\ ∀w,(do eqGuard i t ox oy o q;binOp i t o q:Sem Value).run P w=.ok u w:=by
 unfold VQ at h;rw[cond_eq_ite]at h;split at h
 .rename_i f
  unfold azj at f;split at f
  .split at f
   .split at f
    .rename_i id W I J L e v X D
     simp only[af,beq_iff_eq,TC,decide_eq_true_eq]at f;obtain⟨rfl,Y⟩:=f;simp only[dh]at hx l;subst l;have M:=(hx.2.2 _ _ _ D).2 rfl;obtain⟨_,Z,zs,N,_,_⟩:=G.obj id _ D;obtain⟨s,n,m,rfl⟩: ∃a n m,o=.slice (a6 a) n m:=by
      rcases N.2 with ⟨_,h0⟩|⟨g,ab,ad,E,_⟩
      .omega
      .cases I with
       |none=>simp_all [jy]
       |some O=>
        obtain⟨lo,hi⟩:=O;simp only[jy]at M
        grind
     obtain⟨hk,h⟩:=dL h;have S: ∀w,(eqGuard i t ox oy (.slice (a6 s) n m) (.slice a7 0 0)).run P w=.ok () w:=fun w=>nZ i t ox oy _ _ w rfl (by simp);have U: ∀j,(T.at t).k=.slice j-> ∀w,(Op.equal t (.slice (a6 s) n m) (.slice a7 0 0)).run P w=.ok false w:=fun j e w=>by
      have p:P.underlying t=a6 (.slice j):=by
       obtain⟨d,p,A⟩:=hT.und hk;rw[e]at A;cases d<;>simp[lY]at A;rw[p,A]
      show(Op.equalIn (9999+1) t (.slice (a6 s) n m) (.slice a7 0 0)).run P w=_;unfold Op.equalIn;rw[Sem.run_bind,run_underlying p,Result.andThen_ok];rfl
     split at h
     .exact⟨_,_,h,by simp only[dh];exact VD.bool_mk,fun w=>by simp_all [binOp]⟩
     .exact⟨_,_,h,by simp only[dh];exact VD.bool_mk,fun w=>by simp_all [binOp]⟩
     .cases h
    .cases f
   .cases f
  .cases f
 .rw[cond_eq_ite]at h;split at h
  .rename_i f
   unfold ays at f;split at f
   .split at f
    .split at f
     .rename_i id B y0 J L bt cs V
      simp only[dh]at hx l;subst l;have E:=hx.2.2 _ _ V;subst E;obtain⟨hk,h⟩:=dL h;have S: ∀w,(eqGuard i t ox oy (.pointer (a6 ⟨(c.mu id).blk,B,a7⟩)) (.pointer a7)).run P w=.ok () w:=fun w=>nZ i t ox oy _ _ w rfl (by simp);have U: ∀j,(T.at t).k=.ptr j-> ∀w,(Op.equal t (.pointer (a6 ⟨(c.mu id).blk,B,a7⟩)) (.pointer a7)).run P w=.ok false w:=fun j e w=>by
       have p:=hT.ptr hk e;show(Op.equalIn (9999+1) t (.pointer (a6 ⟨(c.mu id).blk,B,a7⟩)) (.pointer a7)).run P w=_;unfold Op.equalIn;simp_all [run_underlying]
      split at h
      .exact⟨_,_,h,by simp only[dh];exact VD.bool_mk,fun w=>by simp_all [binOp]⟩
      .exact⟨_,_,h,by simp only[dh];exact VD.bool_mk,fun w=>by simp_all [binOp]⟩
      .cases h
     .cases f
    .cases f
   .cases f
  .exact aMS hT h hx l
theorem aMT {d:UnOp} {x:bZ} {v:Value} {K:bZ->Option R} (h:avM d x K=a6 r) (hx:dh c x v):
  ∃z u,K z=a6 r/\dh c z u/\ ∀w,(Op.unary d v).run P w=.ok u w:=by
 unfold avM at h;split at h
 .simp only[dh]at hx;obtain rfl:=hx.bool_inv;exact⟨_,_,h,by simp only[dh];exact VD.bool_mk,fun w=>rfl⟩
 .simp only[dh]at hx;obtain rfl:=hx.int_inv;exact⟨_,_,h,by simp only[dh];exact VD.int_mk,fun w=>by rfl⟩
 .cases h
end
end
section
open Option renaming some → a6, none → a7
open Bool renaming and_eq_true → af, false_eq_true → ag
open Nat renaming le_refl → ae
open Go.RowKit
section
variable {P:Program} {T:TT} {W0:World} {c:Cx} {R:Type} {r:R} {t:TypeId}
theorem uN {v:bZ} {n:Int} (h:intOf v=a6 n) {u:Value} (d:dh c v u): ∃k,u=.int k n:=by
 cases v with
 |val t x=>
  cases t<;>simp only[intOf,reduceCtorEq]at h;cases h;simp only[dh]at d;exact⟨_,d.int_inv⟩
 |_=>simp[intOf]at h
def nI (c:Cx):Option bZ->Option Value->Prop
 |none,a7=>True
 |some v,a6 u=>dh c v u
 |_,_=>False
theorem nI.map {fr:List bZ} {a:Act} (h:bQ c fr a.tmps.toList) (x:Option Operand):nI c (x.map (iH fr)) (x.map a.eval):=by
 cases x with
 |none=>trivial
 |some x=>exact dY h x
theorem nI.none_inv {u:Option Value} (h:nI c a7 u):u=a7:=by
 cases u with
 |none=>rfl
 |some _=>exact h.elim
theorem qw {d l:Int} {x:Option bZ} {u:Option Value} (h:bound d x=a6 l) (e:nI c x u):(u=a7/\l=d)\/ ∃k,u=a6 (.int k l):=by
 cases x with
 |none=>
  cases u with
  |none=>simp only[bound,Option.some.injEq]at h;simp_all
  |some _=>exact e.elim
 |some x=>
  cases u with
  |none=>exact e.elim
  |some u=>
   obtain⟨k,rfl⟩:=uN h e;simp
theorem su {w:World} {isS:Bool} {n cap:Nat} {l h:Int} {lo hi:Option Value} (hl:(lo=a7/\l=0)\/ ∃k,lo=a6 (.int k l)) (d:(hi=a7/\h=(n:Int))\/ ∃k,hi=a6 (.int k h))
  (g:0<=l) (i:l<=h) (h2:h<=(n:Int)) (j:n<=cap):(Instr.sliceBounds isS n cap lo hi a7).run P w=.ok (l.toNat,h.toNat,cap) w:=by
 have e: ∀k code,(Instr.sliceBound (.int k h) cap code).run P w=.ok h.toNat w:=fun k code=>by
  simp only[Instr.sliceBound,asIntOf,Sem.run_bind,Sem.run_pure,Result.andThen_ok];rw[am ⟨by omega,by omega⟩];rfl
 have f: ∀k code,(Instr.sliceBound (.int k l) h.toNat code).run P w=.ok l.toNat w:=fun k code=>by
  simp only[Instr.sliceBound,asIntOf,Sem.run_bind,Sem.run_pure,Result.andThen_ok];rw[am ⟨by omega,by omega⟩];rfl
 rcases hl with ⟨rfl,rfl⟩|⟨k,rfl⟩<;>rcases d with ⟨rfl,rfl⟩|⟨m,rfl⟩<;>simp[Instr.sliceBounds,Sem.run_bind,e,f]
 simp_all
theorem QM {w:World} {n cap:Nat} {lo:Option Value} {q k:IntKind} (hl:(lo=a7/\(0:Int)=0)\/ ∃k,lo=a6 (.int k 0)):
  (Instr.sliceBounds true n cap lo (a6 (.int q 0)) (a6 (.int k 0))).run P w=.ok (0,0,0) w:=by
 have d: ∀k c code,(Instr.sliceBound (.int k 0) c code).run P w=.ok 0 w:=fun k c code=>by
  rfl
 rcases hl with ⟨rfl,_⟩|⟨e,rfl⟩<;>simp[Instr.sliceBounds,Sem.run_bind,d]
theorem L9 {n lo hi:Int} (h:eY n lo hi=true):0<=lo/\lo<=hi/\hi<=n:=by
 simp_all [eY]
theorem MK {d:Type} (l:List d) {lo hi:Int} (e:0<=lo) (h2:lo<=hi) (f:hi<=(l.length:Int)):(sub l lo hi).length=hi.toNat-lo.toNat:=by
 grind [sub]
theorem qg {e:Ty} {xs:List e.den} {v:Value} (h:VD c (.list e) xs v): ∃a n d,v=.slice a xs.length n/\xs.length<=n/\gK (fV c.w c.free e) e.size xs d/\(d=[]\/ ∃b off,a=a6 ⟨b,off,a7⟩/\c.free b/\iK c.w b off d):=by
 obtain⟨a,n,d,f,g,i,j⟩:=h.2 rfl
 grind
theorem VD.sub_list {e:Ty} {xs:List e.den} {a:Option Addr} {n:Nat} {d:List Value} (h2:xs.length<=n) (g:gK (fV c.w c.free e) e.size xs d) (f:d=[]\/ ∃b off,a=a6 ⟨b,off,a7⟩/\c.free b/\iK c.w b off d)
  {l h:Int} (i:0<=l) (j:l<=h) (m:h<=(xs.length:Int)):
  VD c (.list e) (sub xs l h) (.slice (if n=l.toNat then a else a.map (·.add (l.toNat*e.size))) (h.toNat-l.toNat) (n-l.toNat)):=by
 refine(VD.leaf rfl).2 ⟨_,_,(d.take (h.toNat*e.size)).drop (l.toNat*e.size),by rw[MK xs i j m],by grind [MK],gK.drop _ _ _ (gK.take _ _ _ g), ?_⟩;by_cases hn:n=l.toNat
 .grind
 .rw[aq hn];rcases f with f|⟨b,off,o,p,q⟩
  .left;rw[f];simp
  .right;refine⟨b,off+l.toNat*e.size,by rw[o];simp[lI],p, ?_⟩;have:=q.sub (l.toNat*e.size) (h.toNat*e.size-l.toNat*e.size)
   grind [List.drop_take]
theorem aoC (hT:TOk P T) (ab:c.Ok W0) {x:bZ} {v:Value} {lo hi Y:Option bZ} {Z O A:Option Value} {K:bZ->Option R} (h:Nw T c.hp t x lo hi Y K=a6 r) (hx:dh c x v)
  (J:nI c lo Z) (G:nI c hi O) (I:nI c Y A): ∃z u,K z=a6 r/\dh c z u/\ ∀w,(Instr.sliceAt t v Z O A).run P w=.ok u w:=by
 unfold Nw at h;split at h
 .rename_i s
  split at h
  .rename_i l p f i
   replace h:=gW h;obtain⟨d,h⟩:=h;simp only[af]at d;obtain⟨B,D,j⟩:=L9 d.2;simp only[dh]at hx;obtain rfl:=hx.str_inv;have E:A=a7:=nI.none_inv I;subst E;have m:=I9 hT d.1;refine⟨_,.string ⟨(sub s l p).toArray⟩,h,by simp only[dh];exact VD.str_mk,fun w=> ?_⟩;have hs:(⟨s.toArray⟩:ByteArray).size=s.length:=by rfl
   have o:=su (P:=P) (w:=w) (isS:=false) (cap:=s.length) (qw f J) (qw i G) B D j (ae _);have he:(⟨s.toArray⟩:ByteArray).extract l.toNat p.toNat=⟨(sub s l p).toArray⟩:=by
    apply ByteArray.ext;simp_all [sub,List.drop_take]
   simp only[Instr.sliceAt,Instr.slice,Sem.run_bind,run_underlying m,Result.andThen_ok,Option.isSome_none,ag,if_false,hs,o,Sem.run_pure,he]
  .cases h
 .rename_i e y
  split at h
  .rename_i l p f i
   replace h:=gW h;obtain⟨d,h⟩:=h;simp only[af]at d;obtain⟨B,D,j⟩:=L9 d.2;simp only[bK]at j;simp only[dh]at hx;obtain⟨a,n,zs,rfl,S,h3,h4⟩:=qg hx;have E:A=a7:=nI.none_inv I;subst E;obtain⟨U,m,hk,M,_,_⟩:=nN hT d.1;refine⟨_,_,h,by simp only[dh];exact VD.sub_list S h3 h4 B D j,fun w=> ?_⟩;have o:=su (P:=P) (w:=w) (isS:=true) (n:=y.length) (cap:=n) (qw f J) (qw i G) B D j S;simp only[Instr.sliceAt,Instr.slice,Sem.run_bind,run_underlying m,Result.andThen_ok,o,hT.sizeOf hk w,Sem.run_pure,M]
  .cases h
 .rename_i e y mv
  split at h
  .rename_i l p k f i ad
   replace h:=gW h;obtain⟨d,h⟩:=h;simp only[af,beq_iff_eq]at d;obtain⟨d,rfl,rfl,rfl⟩:=d;simp only[dh]at hx;obtain⟨a,n,zs,rfl,S,h3,h4⟩:=qg hx;obtain⟨U,m,hk,M,_,_⟩:=nN hT d;obtain⟨N,rfl,ah⟩:=Option.bind_eq_some_iff.1 i;cases hmx':A with
   |none=>simp_all [nI]
   |some m2=>
    rw[hmx']at I;cases hhi':O with
    |none=>simp_all [nI]
    |some ai=>
     rw[hhi']at G;obtain⟨q,rfl⟩:=uN ah (show dh c N ai from G);obtain⟨k',rfl⟩:=uN ad (show dh c mv m2 from I);refine⟨_,.slice a 0 0,h,by simp only[dh];exact⟨a,rfl⟩,fun w=> ?_⟩;have o:=QM (P:=P) (w:=w) (n:=y.length) (cap:=n) (q:=q) (k:=k') (qw f J);simp only[Instr.sliceAt,Instr.slice,Sem.run_bind,run_underlying m,Result.andThen_ok,o,hT.sizeOf hk w,Sem.run_pure];simp
  .cases h
 .split at h
  .rename_i l p f i
   replace h:=gW h;obtain⟨d,h⟩:=h;simp only[af,bY,beq_iff_eq]at d;obtain⟨d,rfl,rfl⟩:=d;simp only[dh]at hx;subst hx;have E:A=a7:=nI.none_inv I;subst E;obtain⟨U,m,hk,M,_,_⟩:=nN hT d;refine⟨_,.slice a7 0 0,h,by simp only[dh],fun w=> ?_⟩;have o:=su (P:=P) (w:=w) (isS:=true) (n:=0) (cap:=0) (qw f J) (qw i G) (Int.le_refl _) (Int.le_refl _) (Int.le_refl _) (ae _);simp only[Instr.sliceAt,Instr.slice,Sem.run_bind,run_underlying m,Result.andThen_ok,o,hT.sizeOf hk w,Sem.run_pure];simp
  .cases h
 .rename_i id aj
  split at h
  .rename_i e u y V
   replace h:=dL h;obtain⟨W,h⟩:=h;have W:u=aj:=by simpa using W
   subst W;split at h
   .rename_i l p f i
    replace h:=gW h;obtain⟨d,h⟩:=h;simp only[af]at d;obtain⟨B,D,j⟩:=L9 d.2;simp only[bK]at j;simp only[dh]at hx;have X:=(hx.2.2 _ _ _ V).2 rfl;simp only[jy]at X;have E:A=a7:=nI.none_inv I;subst E;obtain⟨U,m,hk,M,_,_⟩:=nN hT d.1;obtain⟨_,e',zs,ak,hL,al⟩:=ab.obj id _ V;obtain⟨a,n,N,hn⟩: ∃a n,(c.mu id).v=.slice a y.length n/\y.length<=n:=by
     rcases ak.2 with ⟨e1,e2⟩|⟨g,L,an,e1,_,_,e2,_⟩
     all_goals grind
    rw[N]at X;subst X;refine⟨_,.slice (if n=l.toNat then a else a.map (·.add (l.toNat*e.size))) (p.toNat-l.toNat) (n-l.toNat),h, ?_,fun w=> ?_⟩
    .simp only[dh];refine⟨rfl,hx.2.1,fun t' u' ao h'=> ?_⟩;rw[V]at h';cases h';exact⟨ae _,fun _=>⟨a,y.length,n,N,B,D,j,rfl⟩⟩
    .have o:=su (P:=P) (w:=w) (isS:=true) (n:=y.length) (cap:=n) (qw f J) (qw i G) B D j hn;simp only[Instr.sliceAt,Instr.slice,Sem.run_bind,run_underlying m,Result.andThen_ok,o,hT.sizeOf hk w,Sem.run_pure,M]
   .cases h
  .cases h
 .cases h
end
end
section
open Option renaming some → a6, none → a7
open Bool renaming and_eq_true → af
open List renaming append_assoc → ah, map_cons → au, nil_append → aB, length_cons → aG, drop_of_length_le → aI, mem_of_mem_take → bn
open Go.RowKit
section
variable {P:Program} {T:TT} {W0:World} {c:Cx} {R:Type} {r:R} {t:TypeId}
theorem Wx {d:Type} {l:List d} {i:Int} (h:gy l i=true):0<=i/\i<(l.length:Int)/\i.toNat<l.length:=by
 simp_all [gy]
theorem aB6 {e:Type} {l:List e} {d:e} {i:Int} (h:i.toNat<l.length):ed l d i=l[i.toNat]:=by grind [ed]
theorem FQ (hT:TOk P T) {e:TypeId} (d:P.underlying t=a6 (.slice e)) (hk:(T.at e).known=true) (w:World) (a:Addr) (n cp:Nat) (k:IntKind) (i:Int) (f:0<=i) (g:i<(n:Int)):
  (Instr.indexAt t (.slice (a6 a) n cp) (.int k i)).run P w=.ok (.pointer (a6 (a.add (i.toNat*(T.at e).size)))) w:=by
 simp only[Instr.indexAt,asIntOf,Sem.run_bind,Sem.run_pure,Result.andThen_ok,run_underlying d];rw[am ⟨f,g⟩];simp[Sem.run_bind,hT.sizeOf hk w]
theorem SN (hT:TOk P T) (S:c.Ok W0) {x i:bZ} {v G:Value} {K:bZ->Option R} (h:wU T c.hp t x i K=a6 r) (hx:dh c x v) (hi:dh c i G):
  ∃z u,K z=a6 r/\dh c z u/\ ∀w,(Instr.indexAt t v G).run P w=.ok u w:=by
 unfold wU at h;split at h
 .cases h
 rename_i n U
 obtain⟨k,rfl⟩:=uN U hi;split at h
 .rename_i e I
  replace h:=gW h;obtain⟨f,h⟩:=h;simp only[af]at f;obtain⟨q,s,y⟩:=Wx f.2;simp only[dh]at hx;obtain⟨a,cp,A,rfl,h2,V,B⟩:=qg hx;obtain⟨J,l,hk,o,L,_⟩:=nN hT f.1;obtain⟨d,d1,W,l1,l2,d3,d4⟩:=gK.at_ n.toNat I A y V;have X:A≠[]:=by
   intro e0;simp_all
  rcases B with B|⟨b,Y,Z,h6,h7⟩
  .exact absurd B X
  .refine⟨_,.pointer (a6 ⟨b,Y+n.toNat*e.size,a7⟩),h, ?_,fun w=> ?_⟩
   .simp only[dh];refine⟨b,_,d,rfl,h6, ?_,by rw[aB6 y];exact W⟩;simp_all [iK.append]
   .rw[Z,FQ hT l hk w _ _ _ _ _ q s,o,lI]
 .rename_i id ab vw
  split at h
  .rename_i e u I M
   replace h:=dL h;obtain⟨D,h⟩:=h;have D:u=ab:=by simpa using D
   subst D;simp only[dh]at hx;have j:=(hx.2.2 _ _ _ M).2 rfl;obtain⟨_,e',A,N,hL,ai⟩:=S.obj id _ M;split at h
   .replace h:=gW h;obtain⟨f,h⟩:=h;simp only[af]at f;obtain⟨q,s,y⟩:=Wx f.2;obtain⟨J,l,hk,o,L,_⟩:=nN hT f.1;simp only[jy]at j;rcases N.2 with ⟨p,E⟩|⟨g,ad,ae,p,_,_,E,_⟩
    .omega
    .rw[p]at j;subst j;refine⟨_,.pointer (a6 ⟨g,n.toNat*e.size,a7⟩),h, ?_,fun w=> ?_⟩
     .simp only[dh];refine⟨rfl,hx.2.1,fun t' u' ag h'=> ?_⟩;simp_all
     .rw[FQ hT l hk w _ _ _ _ _ q s,o,lI,Nat.zero_add]
   .rename_i lo aj
    replace h:=gW h;obtain⟨f,h⟩:=h;simp only[af,decide_eq_true_eq,iF]at f;obtain⟨J,l,hk,o,L,_⟩:=nN hT f.1;simp only[jy]at j;obtain⟨a,m,cp,O,q1,q2,q3,j⟩:=j;rcases N.2 with ⟨p,E⟩|⟨g,ad,ae,p,_,_,E,_⟩
    .grind
    .rw[p]at O;cases O;rw[aq (by omega)]at j;subst j;refine⟨_,.pointer (a6 ⟨g,(lo+n).toNat*e.size,a7⟩),h, ?_,fun w=> ?_⟩
     .simp only[dh];refine⟨rfl,hx.2.1,fun t' u' ag h'=> ?_⟩;simp_all
     .simp only[Option.map_some];rw[FQ hT l hk w _ _ _ _ _ f.2.1 (by omega),o,lI,lI,Nat.zero_add,<-Nat.add_mul]
      grind
  .cases h
 .cases h
theorem aoB (hT:TOk P T) {i:bZ} {s:List UInt8} {n:Int} {v d:Value} (hx:dh c (.val .str s) v) (hi:dh c i d) (e:intOf i=a6 n) (h:(T.isStr t&&gy s n)=true):
  dh c (.val (.int .u8) (cu s n)) (.int .u8 (cu s n))/\ ∀w,(Instr.index t v d).run P w=.ok (.int .u8 (cu s n)) w:=by
 simp only[af]at h;obtain⟨f,l,m⟩:=Wx h.2;simp only[dh]at hx;obtain rfl:=hx.str_inv;obtain⟨k,rfl⟩:=uN e hi;have g:=I9 hT h.1;refine⟨by simp only[dh];exact VD.int_mk,fun w=> ?_⟩;have j:(⟨s.toArray⟩:ByteArray)[n.toNat]? =a6 s[n.toNat]:=by
  have:n.toNat<(⟨s.toArray⟩:ByteArray).size:=by assumption
  rw[getElem?_pos (⟨s.toArray⟩:ByteArray) n.toNat this];rfl
 simp only[Instr.index,asIntOf,Sem.run_bind,Sem.run_pure,Result.andThen_ok,run_underlying g,am f,j]
 grind [cu]
theorem EO (hT:TOk P T) {f off:Nat} {d:TypeId} (h:T.fieldAt t f=a6 (off,d)): ∃e g i,(T.at t).k=.struct e/\e[f]? =a6 (off,d)/\(T.at t).known=true/\(T.at d).known=true/\0<(T.at d).size/\
  P.underlying t=a6 (.struct g)/\g[f]? =a6 i/\i.offset=off/\i.type=d:=by
 unfold TT.fieldAt at h;split at h
 .rename_i e j
  replace h:=dL h;obtain⟨hk,h⟩:=h;split at h
  .rename_i o p q
   replace h:=dL h;obtain⟨l,m⟩:=h;cases m;simp only[af,TC,decide_eq_true_eq]at l;obtain⟨g,s,u⟩:=hT.struct hk j
   grind
  .cases h
 .cases h
theorem P5 (hT:TOk P T): ∀(j:List (Nat×TypeId)) (o:Nat) (y:Ty),kH T o j=a6 y-> ∀(f off:Nat) (e:TypeId),j[f]? =a6 (off,e)-> ∀(x:y.den) (cs:List Value),fV c.w c.free y x cs->
  ∃(a:Ty) (z:a.den) (g i p:List Value),abS y x f=.val a z/\VU y x f=.cellp a z/\(T.at e).ty=a6 a/\a.size=(T.at e).size/\cs=g++i++p/\o+g.length=off/\fV c.w c.free a z i
 |[],_,_,_,f,_,_,h,_,_,_=>by simp at h
 |(O,S)::j,o,y,d,f,off,e,l,x,cs,hd=>by
  simp only[kH]at d;split at d
  .rename_i U
   split at d
   .rename_i a q
    split at d
    .rename_i s
     split at d
     .rename_i b u
      cases d;obtain⟨g,i,m,v,A⟩:=hd;cases f with
      |zero=>
       simp only[List.getElem?_cons_zero,Option.some.injEq,Prod.mk.injEq]at l;obtain⟨rfl,rfl⟩:=l;exact⟨a,x.1,[],g,i,rfl,rfl,q,s.1,by simpa using m,by simp;omega,v⟩
      |succ f=>
       simp only[List.getElem?_cons_succ]at l;obtain⟨B,z,D,E,G,I,J,K,L,M,V,N⟩:=P5 hT j (o+a.size) b u f off e l x.2 i A;refine⟨B,z,g++D,E,G,I,J,K,L,by rw[m,M];simp, ?_,N⟩
       grind [fV.length]
     .cases d
    .cases d
   .cases d
  .cases d
theorem FP (hT:TOk P T) {f off:Nat} {e:TypeId} (h:T.fieldAt t f=a6 (off,e)) (w:World) (b o:Nat):
  (Instr.fieldAt t (.pointer (a6 ⟨b,o,a7⟩)) f).run P w=.ok (.pointer (a6 ⟨b,o+off,a7⟩)) w:=by
 obtain⟨q,s,g,u,v,hk,i,x,j,l,m,d⟩:=EO hT h;have p:=hT.sizeOf (t:=g.type) (by rw[d];exact i) w;simp only[Instr.fieldAt,Sem.run_bind,run_underlying j,Result.andThen_ok,l,Instr.sureAddr,Sem.run_pure,fieldPlace,p,Sem.run_ite];rw[aq (by rw[d];omega)];simp[lI,m]
theorem aa8 (hT:TOk P T) (hk:(T.at t).known=true) {e:List (Nat×TypeId)} (f:(T.at t).k=.struct e) {y:Ty} (g:(T.at t).ty=a6 y):kH T 0 e=a6 y:=by
 rcases(hT t hk).2.2.1 with d|d
 .simp_all
 .rw[g,f]at d;exact d.symm
theorem SL (hT:TOk P T) {x:bZ} {f:Nat} {v:Value} {K:bZ->Option R} (h:wS T c.hp t x f K=a6 r) (hx:dh c x v):
  ∃z u,K z=a6 r/\dh c z u/\ ∀w,(Instr.fieldAt t v f).run P w=.ok u w:=by
 unfold wS at h;split at h
 .rename_i d s j
  obtain⟨A,N,O,B,D,hk,S,U,V,W,X,Y⟩:=EO hT j;split at h
  .rename_i u y
   split at h
   .rename_i E G
    split at h
    .rename_i z l
     have e:=jb l;subst e;rw[ik]at l;cases l;simp only[dh]at hx;obtain⟨b,o,Z,rfl,hb,p,hd⟩:=hx;obtain⟨a,z,l1,l2,l3,g1,g2,g3,g4,g5,g6,g7⟩:=P5 hT A 0 u (aa8 hT hk B G) f d s D _ _ hd;refine⟨_,.pointer (a6 ⟨b,o+d,a7⟩),h, ?_,fun w=>FP hT j w b o⟩;rw[g2];simp only[dh];rw[g5,ah]at p;have:=(iK.append.1 (iK.append.1 p).2).1
     grind
    .cases h
   .cases h
  .rename_i id o
   split at h
   .rename_i bt cs I
    simp only[dh]at hx;have q:=hx.2.2 _ _ I;subst q;refine⟨_,.pointer (a6 ⟨(c.mu id).blk,o+d,a7⟩),h, ?_,fun w=>FP hT j w _ o⟩;simp only[dh];exact⟨rfl,hx.2.1,fun _ _ _=>trivial⟩
   .cases h
  .rename_i id J i o
   split at h
   .rename_i e u xs L
    replace h:=dL h;obtain⟨m,h⟩:=h;have m:u=J:=by simpa using m
    subst m;simp only[dh]at hx;obtain⟨g,n,cp,q,M⟩:=(hx.2.2 _ _ _ L).2 rfl;subst M;refine⟨_,.pointer (a6 ⟨g,i*e.size+o+d,a7⟩),h, ?_,fun w=>FP hT j w _ _⟩;simp only[dh];refine⟨rfl,hx.2.1,fun t' E ab h'=> ?_⟩
    grind
   .cases h
  .cases h
 .cases h
theorem aoA (hT:TOk P T) {x:bZ} {f:Nat} {v:Value} {K:bZ->Option R} (h:Nu T t x f K=a6 r) (hx:dh c x v):
  ∃z u,K z=a6 r/\dh c z u/\ ∀w,(Instr.field t v f).run P w=.ok u w:=by
 unfold Nu at h;split at h
 .rename_i g d G
  obtain⟨I,W,o,p,J,hk,i,X,j,L,Y,M⟩:=EO hT G;have N:(T.at t).isAgg=true:=by simp[TI.isAgg,p]
  split at h
  .rename_i u y
   split at h
   .rename_i Z q
    split at h
    .rename_i z m
     have e:=jb m;subst e;rw[ik]at m;cases m;simp only[dh]at hx;have s:=hT.ty_agg hk q;rw[N]at s;obtain⟨cs,rfl,hd⟩:=(VD.agg s).1 hx;obtain⟨a,z,l1,O,l3,g1,g2,g3,g4,g5,g6,S⟩:=P5 hT I 0 u (aa8 hT hk p q) f g d J _ _ hd;refine⟨_,valOf (T.at d).isAgg O,h, ?_,fun w=> ?_⟩
     .grind [dh,aix]
     .have ab:=fV.length _ _ _ S;have A:g+(T.at d).size<=cs.size:=by
       have:=congrArg List.length g5;simp at this;omega
      have B:=OJ (P:=P) hT (t:=o.type) (by rw[M];exact i) w cs o.offset (by simp_all);simp only[Instr.field,Sem.run_bind,run_underlying j,Result.andThen_ok,L,asAgg,Sem.run_pure,B];simp_all
    .cases h
   .cases h
  .rename_i l
   split at h
   .rename_i ad U
    obtain⟨q1,rfl⟩:=EK U;simp only[dh]at hx;obtain⟨D,rfl,E,V⟩:=hx;have A:=bQ.length _ _ E;simp at A;refine⟨_,valOf (T.at d).isAgg ((D.toList.drop g).take (T.at d).size),h,OD hT i (bQ.take _ _ _ (bQ.drop _ _ _ E)) (fun u j=>V u (List.mem_of_mem_drop (bn j))),fun w=> ?_⟩;have B:=OJ (P:=P) hT i w D g (by omega);simp_all [Instr.field,run_underlying,asAgg]
   .cases h
  .cases h
 .cases h
theorem q_len (hT:TOk P T) (A:c.Ok W0) {x:bZ} {v:Value} {K:bZ->Option R} (h:agd T c.hp t x K=a6 r) (hx:dh c x v) {ty:TypeId}:
  ∃z u,K z=a6 r/\dh c z u/\ ∀w,(Builtin.len_ #[t] ty #[v]).run P w=.ok u w:=by
 unfold agd at h;split at h
 .rename_i s
  replace h:=gW h;obtain⟨f,h⟩:=h;simp only[dh]at hx;obtain rfl:=hx.str_inv;have d:=I9 hT f;refine⟨_,_,h,by simp only[dh];exact VD.int_mk,fun w=> ?_⟩;simp only[Builtin.len_,List.getElem?_toArray,List.getElem?_cons_zero,Sem.run_bind,run_underlying d,Result.andThen_ok,Sem.run_pure,goInt];congr 2
 .rename_i e j
  replace h:=gW h;obtain⟨f,h⟩:=h;simp only[dh]at hx;obtain⟨a,cp,B,rfl,L,M,N⟩:=qg hx;obtain⟨o,d,hk,p,q,_⟩:=nN hT f;exact⟨_,_,h,by simp only[dh];exact VD.int_mk,fun w=>by simp[Builtin.len_,run_underlying d,goInt,bK]⟩
 .replace h:=gW h;obtain⟨f,h⟩:=h;simp only[dh]at hx;subst hx;obtain⟨o,d,hk,p,q,_⟩:=nN hT f;exact⟨_,_,h,by simp only[dh];exact VD.int_mk,fun w=>by simp[Builtin.len_,run_underlying d,goInt]⟩
 .rename_i id D O
  split at h
  .rename_i e u j y
   replace h:=dL h;obtain⟨l,h⟩:=h;have l:u=D:=by simpa using l
   subst l;replace h:=gW h;obtain⟨f,h⟩:=h;obtain⟨o,d,hk,p,q,_⟩:=nN hT f;simp only[dh]at hx;have i:=(hx.2.2 _ _ _ y).2 rfl;obtain⟨_,S,B,E,U,V⟩:=A.obj id _ y;obtain⟨a,n,G,W⟩: ∃a n,(c.mu id).v=.slice a j.length n/\j.length<=n:=by
    rcases E.2 with ⟨I,J⟩|⟨g,X,Y,I,_,_,J,_⟩
    all_goals grind
   split at h
   .simp only[jy]at i;rw[G]at i;subst i;exact⟨_,_,h,by simp only[dh];exact VD.int_mk,fun w=>by simp[Builtin.len_,run_underlying d,goInt,bK]⟩
   .rename_i lo Z
    simp only[jy]at i;obtain⟨a',m,cp,ab,q1,q2,q3,i⟩:=i;subst i;refine⟨_,_,h,by simp only[dh];exact VD.int_mk,fun w=> ?_⟩;simp only[Builtin.len_,List.getElem?_toArray,List.getElem?_cons_zero,Sem.run_bind,run_underlying d,Result.andThen_ok,Sem.run_pure,goInt]
    grind
  .cases h
 .cases h
theorem wK {k:IntKind}: ∀(l:List bZ) (e:List Int) (us:List Value),EF k l=a6 e->bQ c l us->us=e.map (.int k)
 |[],e,us,h,d=>by
  grind [EF,bQ]
 |v::l,e,us,h,d=>by
  cases us with
  |nil=>simp[bQ]at d
  |cons u us=>
   simp only[bQ]at d;cases v with
   |val t x=>
    cases t<;>simp only[EF,reduceCtorEq]at h
    rename_i i
    split at h
    .rename_i hk
     subst hk;split at h
     .rename_i m g
      cases h;have f:=d.1;simp only[dh]at f;rw[f.int_inv,wK l m us g d.2];rfl
     .cases h
    .cases h
   |_=>simp[EF]at h
theorem XT (w:World) (k:IntKind): ∀(d:List Int) (a:Int),((d.map (Value.int k)).foldlM Builtin.min2 (.int k a)).run P w=.ok (.int k (d.foldl LQ a)) w
 |[],a=>rfl
 |n::d,a=>by
  simp only[au,List.foldlM_cons,List.foldl_cons,Sem.run_bind,Builtin.min2,Sem.run_pure,Result.andThen_ok];exact XT w k d (LQ a n)
theorem XR (w:World) (k:IntKind): ∀(d:List Int) (a:Int),((d.map (Value.int k)).foldlM Builtin.max2 (.int k a)).run P w=.ok (.int k (d.foldl Fh a)) w
 |[],a=>rfl
 |n::d,a=>by
  simp only[au,List.foldlM_cons,List.foldl_cons,Sem.run_bind,Builtin.max2,Sem.run_pure,Result.andThen_ok];exact XR w k d (Fh a n)
theorem agJ (off:Nat): ∀(us:List Value) (k:Nat) (d:List Value),off+k+us.length<=d.length->
  (us.zipIdx k).foldl (fun cs p=>Array.setIfInBounds cs (off+p.2) p.1) d.toArray=(d.take (off+k)++us++d.drop (off+k+us.length)).toArray
 |[],k,d,h=>by simp
 |u::us,k,d,h=>by
  simp only[aG]at h;have e:=agJ off us (k+1) (d.set (off+k) u) (by simp;omega);simp only[List.zipIdx_cons,List.foldl_cons];rw[show Array.setIfInBounds d.toArray (off+k) u=(d.set (off+k) u).toArray by simp,e];congr 1;have f:off+k<d.length:=by omega
  rw[List.set_eq_take_append_cons_drop,am f];have g: ∀(A B:List Value) (n m:Nat),A.length=n->(A++u::B).take (n+1)=A++[u]/\(A++u::B).drop (n+1+m)=B.drop m:=by
   intro A B n m i;constructor
   .grind
   .rw[List.drop_append,aI (by omega),i,aB,show n+1+m-n=m+1 by omega];rfl
  obtain⟨j,l⟩:=g (d.take (off+k)) (d.drop (off+k+1)) (off+k) us.length (by simp;omega);rw[show off+(k+1)=off+k+1 by omega,j,l];simp;congr 1;omega
theorem NK (off:Nat) (us:Array Value) (d:List Value) (h:off+us.size<=d.length):
  us.zipIdx.foldl (fun cs p=>Array.setIfInBounds cs (off+p.2) p.1) d.toArray=(d.take off++us.toList++d.drop (off+us.size)).toArray:=by
 rw[<-Array.foldl_toList,Array.toList_zipIdx];simp_all [agJ]
theorem agk (hT:TOk P T) {s:List (Nat×TypeId)} {place:Nat->Option (Nat×Nat)} (hp: ∀i off p,s[i]? =a6 (off,p)->(T.at p).known=true->place i=a6 (off,(T.at p).size)):
  ∀(j:List (Nat×bZ)) (us:List (Nat×Value)) (cs l:List bZ) (d:List Value),Ns T s cs j=a6 l->bQ c cs d->(∀u∈d,u.oneCell'=true)->
   us.map (·.1)=j.map (·.1)->bQ c (j.map (·.2)) (us.map (·.2))-> ∃m,Instr.fill place d.toArray us=a6 m.toArray/\bQ c l m/\ ∀u∈m,u.oneCell'=true
 |[],us,cs,l,d,h,o,y,e,_=>by
  simp only[Ns,Option.some.injEq]at h;subst h;cases us with
  |nil=>exact⟨d,rfl,o,y⟩
  |cons=>simp at e
 |(i,v)::j,us,cs,l,d,h,o,y,e,q=>by
  cases us with
  |nil=>simp at e
  |cons u us=>
   obtain⟨K,u⟩:=u;simp only[au,List.cons.injEq]at e;obtain⟨rfl,e⟩:=e;simp only[au,bQ]at q;simp only[Ns]at h;split at h
   .rename_i off p f B D
    replace h:=dL h;obtain⟨hk,h⟩:=h;simp only[af,beq_iff_eq]at hk;split at h
    .rename_i L g
     have E:=hp _ _ _ B hk.1;obtain⟨z,M⟩:=PN D q.1;have G:=bQ.length _ _ z;have N:=bQ.length _ _ o;unfold putCells at g;replace g:=dL g;obtain⟨A,g⟩:=g;have A:off+f.length<=cs.length:=by simpa using A
     cases g;have O:u.cells.size=f.length:=by simpa using G.symm
     have I:bQ c (cs.take off++f++cs.drop (off+f.length)) (d.take off++u.cells.toList++d.drop (off+f.length)):=
      bQ.append _ _ _ _ (bQ.append _ _ _ _ (bQ.take _ _ _ o) z) (bQ.drop _ _ _ o)
     have J: ∀x∈d.take off++u.cells.toList++d.drop (off+f.length),x.oneCell'=true:=by
      grind
     obtain⟨m,g1,g2,g3⟩:=agk hT hp j us _ l _ h I J e q.2;refine⟨m, ?_,g2,g3⟩;rw[<-g1];simp only[Instr.fill,E];rw[aq (by grind)]
     grind [NK]
    .cases h
   .cases h
end
end
section
open Option renaming some → a6, none → a7
open Bool renaming and_eq_true → af, false_eq_true → ag, not_true → ax
open List renaming map_cons → au, nil_append → aB, map_nil → aX
open Go.RowKit
section
variable {P:Program} {T:TT} {W0:World} {c:Cx} {R:Type} {r:R} {t:TypeId}
theorem bQ.map_eval {fr:List bZ} {a:Act} (h:bQ c fr a.tmps.toList): ∀(xs:List Operand),bQ c (xs.map (iH fr)) (xs.map a.eval)
 |[]=>by simp[bQ]
 |x::xs=>by simp only[au,bQ];exact⟨dY h x,bQ.map_eval h xs⟩
theorem QK {w:World} {B:Nat} {e:TypeId} {size n:Nat} {v:Value} {d:List Value} (h:w.ownsRow B e size v n d): ∃a cp,v=.slice a n cp/\n<=cp/\(d=[]\/ ∃g,a=a6 ⟨g,0,a7⟩/\g<w.heap.size/\B<=g/\iK w g 0 d):=by
 rcases h.2 with ⟨f,i⟩|⟨g,l,o,f,i,j,m,p,q,s⟩
 .refine⟨a7,0,by rw[f,i],by omega,.inl ?_⟩;have:=h.1;simp_all
 .refine⟨_,l,f,m,.inr ⟨g,rfl,(Array.getElem?_eq_some_iff.1 j).1,i, ?_⟩⟩;have:=(iK.of_block_cells j).sub 0 (n*size);simp_all
theorem uu {w:World} {B:Nat} {e:TypeId} {size n:Nat} {v:Value} {d:List Value} (h:w.ownsRow B e size v n d): ∃a cp,v=.slice a n cp/\n<=cp/\(d=[]\/ ∃g,a=a6 ⟨g,0,a7⟩/\g<w.heap.size/\iK w g 0 d):=by
 grind [QK]
theorem X9 (y:c.Ok W0) {x:bZ} {e:Ty} {A:List e.den} {u:Value} (h:x.as c.hp (.list e)=a6 A) (hx:dh c x u):
  ∃a cp d,u=.slice a A.length cp/\gK (fV c.w c.free e) e.size A d/\(d=[]\/ ∃b off,a=a6 ⟨b,off,a7⟩/\b<c.w.heap.size/\ ¬c.bar b/\iK c.w b off d):=by
 cases x with
 |val J z=>
  simp only[bZ.as]at h;have e:=jb h;subst e;rw[ik]at h;cases h;simp only[dh]at hx;obtain⟨a,n,d,B,N,D,E⟩:=qg hx;exact⟨a,n,d,B,D,E.imp id fun⟨b,off,f,i,o⟩=>⟨b,off,f,i.1,i.2.2.2,o⟩⟩
 |nils=>
  simp only[bZ.as,Option.some.injEq]at h;subst h;simp only[dh]at hx;exact⟨a7,0,[],hx,rfl,.inl rfl⟩
 |lst J z b=>
  simp only[bZ.as]at h;have e:=jb h;cases e;rw[ik]at h;cases h;simp only[dh]at hx;obtain⟨a,n,d,B,N,D,E⟩:=qg hx.1;exact⟨a,n,d,B,D,E.imp id fun⟨b,off,f,i,o⟩=>⟨b,off,f,i.1,i.2.2.2,o⟩⟩
 |emp=>
  simp only[bZ.as,Option.some.injEq]at h;subst h;simp only[dh]at hx;obtain⟨a,rfl⟩:=hx;exact⟨a,0,[],rfl,rfl,.inl rfl⟩
 |slc id ver O=>
  simp only[bZ.as,EL]at h;split at h
  .rename_i J v X s
   replace h:=dL h;obtain⟨j,h⟩:=h;have j:v=ver:=by simpa using j
   subst j;split at h
   .rename_i Y G
    have e:=jb G;cases e;rw[ik]at G;cases G;cases h;simp only[dh]at hx;have q:=(hx.2.2 _ _ _ s).2 rfl;obtain⟨_,Z,d,S,K,ab⟩:=y.obj id _ s;obtain⟨a,cp,j,hn,L⟩:=QK S;cases O with
    |none=>
     simp only[jy]at q;rw[j]at q;exact⟨a,cp,d,q,K,L.imp (fun h=>h) fun⟨g,f,i,U,o⟩=>⟨g,0,f,i,fun I=>(y.bar _ I).2.1 ⟨id,_,s,by rw[dV.blk,j,f];rfl⟩,o⟩⟩
    |some p=>
     obtain⟨lo,V⟩:=p;simp only[jy]at q;obtain⟨a',m,ad,M,p1,p2,p3,q⟩:=q;rw[j]at M;cases M;refine⟨(if cp=lo.toNat then a else a.map (·.add (lo.toNat*e.size))),cp-lo.toNat,(d.take (V.toNat*e.size)).drop (lo.toNat*e.size), ?_,gK.drop _ _ _ (gK.take _ _ _ K), ?_⟩
     .simp_all [afE,MK]
     .by_cases hcp:cp=lo.toNat
      .grind
      .rw[aq hcp];rcases L with W|⟨g,f,i,U,o⟩
       .left;rw[W];simp
       .right;refine⟨g,0+lo.toNat*e.size,by rw[f];simp[lI],i,fun I=>(y.bar _ I).2.1 ⟨id,_,s,by rw[dV.blk,j,f];rfl⟩, ?_⟩;rw[List.drop_take];exact o.sub _ _
   .cases h
  .cases h
 |agg l=>simp[bZ.as,Ty.isAgg]at h
 |_=>simp[bZ.as]at h
theorem aeZ (g:c.Ok W0) {x:bZ} {e:Ty} {d:List e.den} {u:Value} (h:x.as c.hp (.list e)=a6 d) (hx:dh c x u):
  ∃a cp f,u=.slice a d.length cp/\gK (fV c.w c.free e) e.size d f/\(f=[]\/ ∃b off,a=a6 ⟨b,off,a7⟩/\b<c.w.heap.size/\iK c.w b off f):=by
 grind [X9]
theorem ET {k:IntKind} {w:World} {fr:Nat->Prop}: ∀(xs:List Int) (e:List Value),gK (fV w fr (.int k)) 1 xs e->e=xs.map (.int k)
 |[],_,h=>by cases h;rfl
 |x::xs,_,⟨d,g,i,l,f,j⟩=>by
  simp only[fV]at f;subst i;subst f;rw[ET xs g j];rfl
theorem Qb: ∀(e:List Int) (d:List UInt8),e.foldl (fun r n=>r.push (UInt8.ofNat n.toNat)) (⟨d.toArray⟩:ByteArray)=⟨(d++ofBytes e).toArray⟩
 |[],d=>by simp[ofBytes]
 |n::e,d=>by
  rw[List.foldl_cons];have:(⟨d.toArray⟩:ByteArray).push (UInt8.ofNat n.toNat)=⟨(d++[UInt8.ofNat n.toNat]).toArray⟩:=by
   simp[ByteArray.push]
  rw[this,Qb e];simp[ofBytes]
theorem ar2 (hT:TOk P T) (A:c.Ok W0) {s d:TypeId} {x:bZ} {v:Value} {K:bZ->Option R} (h:DT T s d x c.hp K=a6 r) (hx:dh c x v):
  ∃z u,K z=a6 r/\dh c z u/\ ∀w',J3 c w'->(convert s d v).run P w'=.ok u w':=by
 unfold DT at h;cases hk:((T.at s).known&&(T.at d).known)
 .simp_all
 rw[hk]at h;simp only[ax,ac]at h;simp only[af]at hk;split at h
 .rename_i k1 k2 k3 n i l
  simp only[dh]at hx;obtain rfl:=hx.int_inv;have m:=hT.int hk.1 i;have o:=hT.int hk.2 l;exact⟨_,_,h,by simp only[dh];exact VD.int_mk,fun w' _=>by simp_all [convert,run_underlying,Conv.intToInt]⟩
 .rename_i str i l
  simp only[dh]at hx;obtain rfl:=hx.str_inv;have m:=hT.str hk.1 i;have o:=hT.str hk.2 l;exact⟨_,_,h,by simp only[dh];exact VD.str_mk,fun w' _=>by simp_all [convert,run_underlying]⟩
 .rename_i e i l
  split at h
  .rename_i B
   split at h
   .rename_i f D
    replace h:=gW h;obtain⟨E,h⟩:=h;have G:=E;have m:=hT.slice hk.1 i;have o:=hT.str hk.2 l;have p:=hT.int G B;obtain⟨a,cp,g,rfl,I,J⟩:=aeZ A D hx;refine⟨_,.string ⟨(ofBytes f).toArray⟩,h,by simp only[dh];exact VD.str_mk,fun w' L=> ?_⟩;have q:=ET f g I;cases hxe:f with
    |nil=>
     subst hxe;rcases a with _|M
     .simp only[convert,run_underlying m,run_underlying o,run_underlying p,Sem.run_bind,Result.andThen_ok,Conv.bytesToString,Sem.run_pure];rfl
     .rw[run_convert_bytes_string w' s d e _ _ _ m p o,run_bytesToString (P:=P) w' M _ cp [] (by rfl)];rfl
    |cons x0 Y=>
     have N:g≠[]:=by rw[q,hxe];simp
     obtain⟨b,y,rfl,O,S⟩:=J.resolve_left N;have U:=L.cells O S;have Z:(loadCells ⟨b,y,a7⟩ g.length).run P w'=.ok g.toArray w':=run_loadCells_list (P:=P) w' _ g fun j v V=>by
      obtain⟨W,X⟩:=List.getElem?_eq_some_iff.1 V;rw[lI,U j W,X]
     have ab:g.length=f.length:=by rw[q];simp
     rw[<-hxe,run_convert_bytes_string w' s d e _ _ _ m p o,run_bytesToString (P:=P) w' ⟨b,y,a7⟩ f.length cp f (by simp_all)];have:=Qb f [];simp only[aB]at this;rw[<-this];rfl
   .cases h
  .cases h
 .cases h
theorem KH {d e:Type} (f:d->Sem e) (g:d->e) (w:World): ∀(l:List d),(∀x∈l,(f x).run P w=.ok (g x) w)->(l.mapM f).run P w=.ok (l.map g) w
 |[],_=>rfl
 |x::l,h=>by
  simp only[List.mapM_cons,Sem.run_bind,h x (by simp),Result.andThen_ok,KH f g w l (fun y i=>h y (by simp[i])),Sem.run_pure,au]
theorem aeS {d e:Type} (f:d->Sem e) (g:d->e) (w:World) (l:Array d) (h: ∀x∈l.toList,(f x).run P w=.ok (g x) w):(l.mapM f).run P w=.ok (l.map g) w:=by
 rw[Array.mapM_eq_mapM_toList,Sem.run_map,KH f g w l.toList h];simp only[Result.andThen_ok];congr 1
 grind
def abw (P:Program) (t:TypeId):Nat:=((P.info? t).map (·.size)).getD 0
theorem Eg (hT:TOk P T) (O:c.Ok W0) {cl:Bool} {call:gX R} {o:Oper} {st:St} {a:Act} {K:bZ->St->Option R} (S:iT o.op=true) (E:c.hp=st.hp) (j:bQ c st.fr a.tmps.toList)
  (h:fF T cl call o st K=a6 r): ∃z u,K z st=a6 r/\dh c z u/\ ∀w',J3 c w'->(execOp a.eval o).run P w'=.ok (.value u) w':=by
 have D: ∀{s:Sem Value} {u:Value} {w':World},s.run P w'=.ok u w'->(do pure (Next.value (<-s)):Sem Next).run P w'=.ok (.value u) w':=fun hs=>by
  simp_all
 obtain⟨aJ,op,ty,aK,aO,aP⟩:=o;simp only at S;cases op<;>simp only[iT,kQ,ag]at S
 case move x=>exact⟨_,_,h,dY j x,fun w' _=>rfl⟩
 case assign x=>exact⟨_,_,h,dY j x,fun w' _=>rfl⟩
 case pick x y z=>
  simp only[fF]at h;have hc:=dY j x;split at h
  .rename_i b J
   rw[J]at hc;simp only[dh]at hc;have ai:=hc.bool_inv;cases b
   .exact⟨_,_,h,dY j z,fun w' _=>by simp[execOp,ai,asBool]⟩
   .exact⟨_,_,h,dY j y,fun w' _=>by simp[execOp,ai,asBool]⟩
  .cases h
 case build t parts=>
  simp only[fF]at h;cases hk:(T.at t).known
  .simp_all
  rw[hk]at h;simp only[ax,ac]at h;split at h
  .rename_i fs ao
   split at h
   .rename_i cs X
    obtain⟨Y,Z,av⟩:=hT.struct hk ao;obtain⟨i,z,hi,aQ,aS,hz,aU,ab⟩:=hT.info hk;have aw:bQ c (T.at t).zero z.cells.toList:=by grind [wP]
    have ab: ∀u∈z.cells.toList,u.oneCell'=true:=fun u Z=>List.all_eq_true.1 ab u Z;obtain⟨ay,g1,g2,g3⟩:=agk (c:=c) hT (place:=fun k=>(Y.map fun f=>(f.offset,abw P f.type))[k]?) (fun k aj ft ad az=>by
      rw[<-av,List.getElem?_map]at ad;cases hfl:Y.toList[k]? with
      |none=>simp_all
      |some fl=>
       rw[hfl]at ad;simp only[Option.map_some,Option.some.injEq,Prod.mk.injEq]at ad;have:Y[k]? =a6 fl:=by simpa using hfl
       obtain⟨i',z',aV,aW,_⟩:=hT.info az;simp_all [abw]) _ (parts.toList.map fun p=>(p.1,a.eval p.2)) _ _ _ X aw ab (by simp) (by
      simp only[List.map_map,Function.comp_def];have:=bQ.map_eval (c:=c) j (parts.toList.map (·.2));simp_all [Function.comp_def])
    have ae:=(hT t hk).2.2.2.2.2.2.1;rw[Z]at ae;simp only[Option.map_some,Option.some.injEq]at ae;refine⟨_,.agg ay.toArray,h, ?_,fun w' _=>D ?_⟩
    .have:=OD (c:=c) hT hk g2 g3;simp_all [TI.isAgg,valOf]
    .have hm:=aeS (P:=P) (fun f:Field=>do pure (f.offset,<-sizeOf f.type)) (fun f=>(f.offset,abw P f.type)) w' Y (fun f hf=>by
      have:=List.all_eq_true.1 ae f hf;cases hi2:P.info? f.type with
      |none=>simp_all
      |some i2=>simp[sizeOf,typeInfo,hi2,abw])
     have aA:(zeroValue t).run P w'=.ok z w':=by simp[zeroValue,typeInfo,hi,hz]
     simp only[Instr.build,Sem.run_bind,aA,Result.andThen_ok,run_underlying Z,hm];simp_all
   .cases h
  .cases h
 case load t x=>
  simp only[fF]at h;rw[<-E]at h;obtain⟨z,u,m,q,A⟩:=ayv (K:=fun v=>K v st) hT O h (dY j x);exact⟨z,u,m,q,fun w' B=>D (A w' B)⟩
 case nilCheck x=>
  simp only[fF]at h;have d:=dY j x;split at h
  .rename_i id aj M
   rw[M]at d;split at h
   .rename_i bt cs X
    have U:=d;simp only[dh]at d;rw[<-E]at X;have G:=d.2.2 _ _ X;exact⟨_,_,h,U,fun w' _=>by simp[execOp,G]⟩
   .cases h
  .rename_i y e M
   rw[M]at d;have U:=d;simp only[dh]at d;obtain⟨b,o,zs,G,_⟩:=d;exact⟨_,_,h,U,fun w' _=>by simp[execOp,G]⟩
  .rename_i id aF i aj M
   rw[M]at d;split at h
   .rename_i e u xs ak
    replace h:=dL h;obtain⟨I,h⟩:=h;have I:u=aF:=by simpa using I
    subst I;have U:=d;simp only[dh]at d;rw[<-E]at ak;obtain⟨g,n,cp,_,G⟩:=(d.2.2 _ _ _ ak).2 rfl;exact⟨_,_,h,U,fun w' _=>by simp[execOp,G]⟩
   .cases h
  .cases h
 case binOp op t x y yt=>
  simp only[fF]at h;rw[<-E]at h;obtain⟨z,u,m,q,A⟩:=ayu (P:=P) (ox:=x) (oy:=y) (K:=fun v=>K v st) hT O h (dY j x) (dY j y);exact⟨z,u,m,q,fun w' B=>D (A w')⟩
 case unOp op t x=>
  simp only[fF]at h;obtain⟨z,u,m,q,A⟩:=aMT (P:=P) (K:=fun v=>K v st) h (dY j x);exact⟨z,u,m,q,fun w' B=>D (A w')⟩
 case convert sT dT x=>
  simp only[fF]at h;rw[<-E]at h;obtain⟨z,u,m,q,A⟩:=ar2 (P:=P) (K:=fun v=>K v st) hT O h (dY j x);exact⟨z,u,m,q,fun w' B=>D (A w' B)⟩
 case slice t x lo hi mx=>
  simp only[fF]at h;rw[<-E]at h;obtain⟨z,u,m,q,A⟩:=aoC (P:=P) (K:=fun v=>K v st) hT O h (dY j x) (nI.map j lo) (nI.map j hi) (nI.map j mx);exact⟨z,u,m,q,fun w' B=>D (A w')⟩
 case fieldAddr t x f=>
  simp only[fF]at h;rw[<-E]at h;obtain⟨z,u,m,q,A⟩:=SL (P:=P) (K:=fun v=>K v st) hT h (dY j x);exact⟨z,u,m,q,fun w' B=>D (A w')⟩
 case field t x f=>
  simp only[fF]at h;obtain⟨z,u,m,q,A⟩:=aoA (P:=P) (K:=fun v=>K v st) hT h (dY j x);exact⟨z,u,m,q,fun w' B=>D (A w')⟩
 case indexAddr t x i=>
  simp only[fF]at h;rw[<-E]at h;obtain⟨z,u,m,q,A⟩:=SN (P:=P) (K:=fun v=>K v st) hT O h (dY j x) (dY j i);exact⟨z,u,m,q,fun w' B=>D (A w')⟩
 case index t x i=>
  simp only[fF]at h;split at h
  .rename_i s n hs hn
   replace h:=gW h;obtain⟨m,h⟩:=h;have d:=dY j x;rw[hs]at d;obtain⟨q,A⟩:=aoB (P:=P) hT d (dY j i) hn m;exact⟨_,_,h,q,fun w' B=>D (A w')⟩
  .cases h
 case extract x n=>
  simp only[fF]at h;have d:=dY j x;split at h
  .rename_i l hl
   rw[hl]at d;split at h
   .rename_i v G
    simp only[dh]at d;obtain⟨vs,M,an⟩:=d;obtain⟨hn,G⟩:=List.getElem?_eq_some_iff.1 G;have aG:=bQ.length _ _ an;simp at aG;have m:=bQ.get _ _ an n hn (by simp;omega);rw[G]at m;simp only[Array.getElem_toList]at m;refine⟨_,_,h,m,fun w' _=>D ?_⟩;rw[M];have:vs[n]? =a6 vs[n]:=Array.getElem?_eq_getElem (by omega);simp[Instr.extract,this]
   .cases h
  .cases h
 case call cc=>
  obtain⟨aY,V,aH⟩:=cc;simp only at S;have L:=bQ.map_eval (c:=c) j V.toList;split at S
  all_goals try (cases S;done)
  .
   simp only[fF,lJ]at h;split at h<;>try (cases h;done)
   .rename_i x J d
    split at h<;>try (cases h;done)
    rename_i t ht
    rw[<-E]at h;obtain⟨N,aI⟩: ∃N,V= #[N]:=by
     obtain⟨l⟩:=V
     match l,d with
     |[N],_=>exact⟨N,rfl⟩
    subst aI;obtain⟨t0⟩:=aH;simp only at ht;subst ht;simp only[au,aX,List.cons.injEq,and_true]at d;subst d;obtain⟨z,u,m,q,A⟩:=q_len (P:=P) (K:=fun v=>K v st) hT O h (dY j N) (ty:=ty)
    grind [execOp,resolve,invoke,builtin]
   all_goals simp_all
  .
   simp only[fF,lJ]at h;split at h<;>try (cases h;done)
   all_goals try (rename_i J _;cases J;done)
   rename_i k n l J d
   split at h<;>try (cases h;done)
   rename_i ns ah
   rw[d]at L;obtain⟨W⟩:=V;cases W with
   |nil=>simp_all
   |cons N W=>
    simp only[au,bQ]at L;have I:=L.1;simp only[dh]at I;have m:=I.int_inv;have q:=wK _ _ _ ah L.2;exact⟨_,_,h,by simp only[dh];exact VD.int_mk,fun w' B=>by simp_all [execOp,resolve,invoke,builtin,Builtin.min_,XT]⟩
  .
   simp only[fF,lJ]at h;split at h<;>try (cases h;done)
   all_goals try (rename_i J _;cases J;done)
   rename_i k n l J d
   split at h<;>try (cases h;done)
   rename_i ns ah
   rw[d]at L;obtain⟨W⟩:=V;cases W with
   |nil=>simp_all
   |cons N W=>
    simp only[au,bQ]at L;have I:=L.1;simp only[dh]at I;have m:=I.int_inv;have q:=wK _ _ _ ah L.2;exact⟨_,_,h,by simp only[dh];exact VD.int_mk,fun w' B=>by simp_all [execOp,resolve,invoke,builtin,Builtin.max_,XR]⟩
end
end
section
open Option renaming some → a6, none → a7
open List renaming map_cons → au, map_nil → aX
open Nat renaming le_refl → ae, le_trans → aK
open Go.RowKit
structure Gv (W0:World) (c:Cx) (st:St) (c':Cx) (st':St):Prop where
 hp:c'.hp=st'.hp
 nxt:c'.nxt=st'.nxt
 fr:st'.fr=st.fr
 stk:st'.stk=st.stk
 ok:c'.Ok W0
 le:c.Le c'
section
variable {P:Program} {T:TT} {W0:World} {c:Cx} {R:Type} {r:R} {t:TypeId}
theorem Gv.refl (d:c.Ok W0) {st:St} (e:c.hp=st.hp) (h2:c.nxt=st.nxt):Gv W0 c st c st:=⟨e,h2,rfl,rfl,d,Cx.Le.refl c⟩
theorem Gv.trans {c' d:Cx} {st e f:St} (h:Gv W0 c st c' e) (k:Gv W0 c' e d f):Gv W0 c st d f:=
 ⟨k.hp,k.nxt,k.fr.trans h.fr,k.stk.trans h.stk,k.ok,h.le.trans k.le⟩
theorem Rt {cl:Bool} {dst:Option Nat} {o:dV} {st:St} {K:Nat->St->Option R} (h:alloc cl dst o st K=a6 r):
  ∃n',dW st.hp (Ho cl st dst)=a7/\st.nxt<=Ho cl st dst/\st.nxt<=n'/\K (Ho cl st dst) {st with hp:=(Ho cl st dst,o)::st.hp,nxt:=n'}=a6 r:=by
 unfold alloc at h;split at h
 .cases h
 .rename_i e
  replace h:=dL h;obtain⟨d,h⟩:=h;have d:st.nxt<=Ho cl st dst:=by simpa using d
  grind
theorem jD {cl:Bool} {dst:Option Nat} {o:dV} {st:St} {K:Nat->St->Option R} (h:alloc cl dst o st K=a6 r):
  ∃id n',dW st.hp id=a7/\st.nxt<=id/\st.nxt<=n'/\K id {st with hp:=(id,o)::st.hp,nxt:=n'}=a6 r:=
 let⟨n',d,e,f,g⟩:=Rt h
 ⟨_,n',d,e,f,g⟩
theorem Ee {st:St} {id:Nat} (d:c.hp=st.hp) (h2:c.nxt=st.nxt) (e:dW st.hp id=a7) (f:st.nxt<=id): ¬c.known id:=by
 rintro (⟨o,g⟩|h)
 all_goals grind
theorem pV (w:World) (o:Obj):Below w.heap.size w (w.alloc o):=(Below.refl _ _).alloc (ae _) o
theorem OC (f:c.Ok W0) {st:St} (g:c.hp=st.hp) (h2:c.nxt=st.nxt) {id n':Nat} (p:dW st.hp id=a7) (q:st.nxt<=id) (y:st.nxt<=n') {cs:List bZ} {vs:Array Value} (e:TypeId)
  (s: ∀c',c.Le c'->dW c'.hp id=a6 (.box e cs)->c'.known id->(c'.mu id).blk=c.w.heap.size->bQ c' cs vs.toList) (v: ∀u∈vs.toList,u.oneCell'=true):
  ∃c',Gv W0 c st c' {st with hp:=(id,.box e cs)::st.hp,nxt:=n'}/\c'.w=c.w.alloc (.cells vs e)/\dh c' (.ptr id 0) (.pointer (a6 ⟨c.w.heap.size,0,a7⟩)):=by
 have hk:=Ee g h2 p q;have d:=pV c.w (.cells vs e);have i: ∀b,dV.blk (.box e cs) ⟨c.w.heap.size,undef⟩=a6 b->c.w.heap.size<=b:=fun b d=>by
  simp_all [dV.blk]
 have j:=Cx.Le.push (o:=.box e cs) (l:=⟨c.w.heap.size,undef⟩) (nxt:=n') (w:=c.w.alloc (.cells vs e)) hk (by omega) d.size d.block i;have m:dW (c.push id (.box e cs) ⟨c.w.heap.size,undef⟩ n' (c.w.alloc (.cells vs e))).hp id=a6 (.box e cs):=by simp[Cx.push,fD]
 have x:(c.push id (.box e cs) ⟨c.w.heap.size,undef⟩ n' (c.w.alloc (.cells vs e))).ORel W0.heap.size id (.box e cs):=by
  refine⟨by simp[Cx.push,upd_same];exact f.size,vs, ?_,s _ j m (.inl ⟨_,m⟩) (by simp[Cx.push,upd_same]),v⟩;simp only[Cx.push,upd_same];exact heap_alloc_new c.w _
 refine⟨_,⟨?_,rfl,rfl,rfl,f.push hk (by omega) d i x,j⟩,rfl, ?_⟩
 .simp[Cx.push,g]
 .simp only[dh];refine⟨rfl,.inl ⟨.box e cs,by assumption⟩,fun z A _=>by simp[Cx.push,upd_same]⟩
theorem acE (d:c.Ok W0) {st:St} (f:c.hp=st.hp) (h2:c.nxt=st.nxt) {id n':Nat} (g:dW st.hp id=a7) (i:st.nxt<=id) (j:st.nxt<=n') {cs:List bZ} {vs:Array Value} (l:bQ c cs vs.toList)
  (m: ∀u∈vs.toList,u.oneCell'=true) (e:TypeId):
  ∃c',Gv W0 c st c' {st with hp:=(id,.box e cs)::st.hp,nxt:=n'}/\c'.w=c.w.alloc (.cells vs e)/\dh c' (.ptr id 0) (.pointer (a6 ⟨c.w.heap.size,0,a7⟩)):=
 OC d f h2 g i j e (fun c' o _ _ _=>bQ.le o _ _ l) m
theorem ui (j:c.Ok W0) {st:St} (m:c.hp=st.hp) (h2:c.nxt=st.nxt) {id n':Nat} (s:dW st.hp id=a7) (x:st.nxt<=id) (N:st.nxt<=n') {y:Ty} (z:0<y.size) {xs:List y.den} {v:Value} {w:World}
  (f:Below c.w.heap.size c.w w) (e:TypeId) (d:List Value) (i:w.ownsRow c.w.heap.size e y.size v xs.length d) (A:gK (fV c.w c.free y) y.size xs d) (B:v.oneCell'=true) (D:y=.int .u8->e=qX):
  ∃c',Gv W0 c st c' {st with hp:=(id,.arr y 0 xs)::st.hp,nxt:=n'}/\c'.w=w/\dh c' (.slc id 0 a7) v:=by
 have hk:=Ee m h2 s x;have p: ∀b,dV.blk (.arr y 0 xs) ⟨0,v⟩=a6 b->c.w.heap.size<=b:=fun b E=>(World.ownsRow.lt i b E).1;have q:=Cx.Le.push (o:=.arr y 0 xs) (l:=⟨0,v⟩) (nxt:=n') (w:=w) hk (by omega) f.size f.block p;have O:w.ownsRow W0.heap.size e y.size v xs.length d:=by
  refine⟨i.1, ?_⟩;rcases i.2 with h|⟨g,G,I,J,K,L⟩
  .exact .inl h
  .exact .inr ⟨g,G,I,J,aK j.size K,L⟩
 have M:(c.push id (.arr y 0 xs) ⟨0,v⟩ n' w).ORel W0.heap.size id (.arr y 0 xs):=by
  refine⟨z,e,d, ?_,gK.mono (fV.mono q.free y) _ _ A,D⟩;simp_all [Cx.push,upd_same]
 refine⟨_,⟨?_,rfl,rfl,rfl,j.push hk (by omega) f p M,q⟩,rfl, ?_⟩
 .simp[Cx.push,m]
 .simp only[dh];refine⟨B,.inl ⟨.arr y 0 xs,by simp[Cx.push,fD]⟩,fun t u S h=> ?_⟩;simp_all [Cx.push,jy,upd_same]
def KW (P:Program) (W0:World) (c:Cx) (st:St) (o:Oper) (a:Act) (K:bZ->St->Option R) (r:R):Prop:=
 ∃z u d e,K z e=a6 r/\Gv W0 c st d e/\dh d z u/\((execOp a.eval o).run P c.w=.ok (.value u) d.w\/((execOp a.eval o).run P c.w=.ok .skip d.w/\u=undef))
theorem uh {st:St} {o:Oper} {a:Act} {K:bZ->St->Option R} {s:Sem Value} {z:bZ} {u:Value} {c':Cx} {d:St} (g:execOp a.eval o=(do pure (Next.value (<-s)))) (e:K z d=a6 r) (h2:Gv W0 c st c' d) (f:dh c' z u)
  (i:s.run P c.w=.ok u c'.w):KW P W0 c st o a K r:=⟨z,u,c',d,e,h2,f,.inl (by simp_all)⟩
theorem aCo (hT:TOk P T) (x:c.Ok W0) {cl:Bool} {call:gX R} {o:Oper} {st:St} {a:Act} {K:bZ->St->Option R} (A:c.hp=st.hp) (B:c.nxt=st.nxt) (N:o.op=.alloc t)
  (h:fF T cl call o st K=a6 r):KW P W0 c st o a K r:=by
 obtain⟨O,op,V,W,X,Y⟩:=o;simp only at N;subst N;simp only[fF]at h;replace h:=dL h;obtain⟨hk,h⟩:=h;obtain⟨i,z,Z,aj,ak,hz,q,f⟩:=hT.info hk;have f: ∀u∈z.cells.toList,u.oneCell'=true:=fun u hu=>List.all_eq_true.1 f u hu;have ab:(Instr.alloc t true (.tuple #[])).run P c.w=.ok (.pointer (a6 ⟨c.w.heap.size,0,a7⟩)) (c.w.alloc (.cells z.cells t)):=by
  simp[Instr.alloc,zeroValue,typeInfo,Z,hz,newVar,newRow]
 have plain:(alloc cl O (.box t (T.at t).zero) st fun id st=>K (.ptr id 0) st)=a6 r->KW P W0 c st ⟨O,.alloc t,V,W,X,Y⟩ a K r:=fun h=>by
  obtain⟨id,S,g,j,l,m⟩:=jD h;obtain⟨c',e,p,s⟩:=acE x A B g j l (cs:=(T.at t).zero) (vs:=z.cells) (by grind [wP]) f t;exact uh rfl m e s (by rw[p];exact ab)
 split at h
 .rename_i et ad D
  split at h
  .rename_i y hy
   replace h:=dL h;obtain⟨E,h⟩:=h;have E:0<y.size:=by simpa [TC] using E
   obtain⟨G,n1,g,j,l,m⟩:=jD h;have U:z.cells.toList=[.slice a7 0 0]:=by
    rw[D]at q
    match hq:z.cells.toList,q with
    |[v],d=>
     simp only[au,aX,List.cons.injEq,and_true]at d;unfold zF at d
     grind
    |[],d=>simp at d
    |_::_::_,d=>simp at d
   obtain⟨c1,e,p,s⟩:=ui x A B g j l E (xs:=[]) (Below.refl _ _) (if y=.int .u8 then qX else et) [] (World.ownsRow_nil _ _ _ _) (by simp[gK]) (v:=.slice a7 0 0) rfl (fun h=>by simp[h]);obtain⟨id,S,I,J,L,M⟩:=jD m;obtain⟨c2,g1,g2,g3⟩:=acE e.ok e.hp e.nxt I J L (cs:=[.slc G 0 a7]) (vs:=z.cells) (by simp_all [bQ]) f t;rw[p]at g3;refine uh rfl M (e.trans g1) g3 ?_;simp_all
  .exact plain h
 .rename_i fs ad D
  rw[cond_eq_ite]at h;split at h
  .obtain⟨G,n1,g,j,l,m⟩:=jD h;have U:z.cells.toList=[.pointer a7,.slice a7 0 0]:=by
    rw[D]at q
    match hq:z.cells.toList,q with
    |[v,v'],d=>
     simp only[au,aX,List.cons.injEq,and_true]at d;obtain⟨af,ag⟩:=d;have q1:v=.pointer a7:=by
      unfold zF at af
      grind
     have q2:v'=.slice a7 0 0:=by
      unfold zF at ag
      grind
     rw[q1,q2]
    |[],d=>simp at d
    |[_],d=>simp at d
    |_::_::_::_,d=>simp at d
   obtain⟨c1,e,p,s⟩:=ui x A B g j l (y:=.int .u8) (by simp[Ty.size]) (xs:=[]) (Below.refl _ _) qX [] (World.ownsRow_nil _ _ _ _) (by simp[gK]) (v:=.slice a7 0 0) rfl (fun _=>rfl);obtain⟨S,I,J,L,M⟩:=Rt m;obtain⟨c2,g1,g2,g3⟩:=OC e.ok e.hp e.nxt I J L (cs:=[.slf _,.slc G 0 a7]) (vs:=z.cells) t (fun c' ah hg ai al=>by
    rw[U];simp only[bQ,dh];refine⟨⟨rfl,ai,fun _ _ _=>.inl trivial⟩, ?_,trivial⟩;have:=dh.le ah _ _ s
    assumption) f
   rw[p]at g3;refine uh rfl M (e.trans g1) g3 ?_;simp_all
  .exact plain h
 .exact plain h
theorem aL8 (hT:TOk P T) (e:c.Ok W0) {cl:Bool} {call:gX R} {o:Oper} {st:St} {a:Act} {K:bZ->St->Option R} {x:Operand} (f:c.hp=st.hp) (g:c.nxt=st.nxt) (i:bQ c st.fr a.tmps.toList) (d:o.op=.box t x)
  (h:fF T cl call o st K=a6 r):KW P W0 c st o a K r:=by
 obtain⟨A,B,D,E,G,I⟩:=o;simp only at d;subst d;simp only[fF]at h;split at h
 .rename_i J j
  replace h:=dL h;obtain⟨hk,h⟩:=h;obtain⟨id,L,l,m,p,q⟩:=jD h;obtain⟨s,u⟩:=PN j (dY i x);obtain⟨M,v,y,z⟩:=acE e f g l m p s u t;refine uh rfl q v z ?_;rw[y];rfl
 .cases h
theorem aGl {hp:iw} {y:Ty} {v:bZ} {x:y.den} (h:v.as [] y=a6 x) {u:Value} (d:dh c v u):fV c.w c.free y x u.cells.toList:=by
 cases v with
 |val t' z=>
  simp only[bZ.as]at h;have e:=jb h;subst e;rw[ik]at h;cases h;simp only[dh]at d;exact d.cells
 |nils=>
  simp only[dh]at d;subst d;cases y<;>simp only[bZ.as,reduceCtorEq]at h;cases h;exact⟨a7,0,[],rfl,by simp,rfl,.inl rfl⟩
 |lst t' z b=>
  simp only[bZ.as]at h;have e:=jb h;subst e;rw[ik]at h;cases h;simp only[dh]at d;exact d.1.cells
 |emp=>
  simp only[dh]at d;obtain⟨a,rfl⟩:=d;cases y<;>simp only[bZ.as,reduceCtorEq]at h;cases h;exact⟨a,0,[],rfl,by simp,rfl,.inl rfl⟩
 |slc id ver g=>cases y<;>simp_all [bZ.as,EL,dW]
 |agg l=>
  simp only[bZ.as]at h;replace h:=dL h;simp only[dh]at d;obtain⟨i,rfl,f,_⟩:=d;exact qJ h.2 f
 |_=>simp[bZ.as]at h
theorem gK.replicate {e:Type} {Q:e->List Value->Prop} {size:Nat} {x:e} {d:List Value} (hd:d.length=size) (hx:Q x d): ∀n,gK Q size (List.replicate n x) (List.replicate n d).flatten
 |0=>by simp[gK]
 |n+1=>⟨d,(List.replicate n d).flatten,by rfl,hd,hx,gK.replicate hd hx n⟩
theorem Hl (d:Array Value): ∀n,(madeCells d (n*d.size)).toList=(List.replicate n d.toList).flatten:=by
 intro n;by_cases h0:d.size=0
 .simp_all [madeCells]
 apply List.ext_getElem?;intro j;have f:(List.replicate n d.toList).flatten.length=n*d.size:=by simp
 by_cases e:j<n*d.size
 .have g: ∀n j,j<n*d.size->(List.replicate n d.toList).flatten[j]? =d.toList[j %d.size]? :=by
   intro n
   induction n with
   |zero=>omega
   |succ n i=>
    intro j e;rw[List.replicate_succ,List.flatten_cons]
    grind [Nat.mod_eq_of_lt,List.getElem?_append_right,Nat.mod_eq_sub_mod]
  grind [madeCells]
 simp_all [madeCells]
theorem aaq {e:Ty} (place:Nat->Option (Nat×Nat)) (s: ∀i,place i=a6 (i*e.size,e.size)): ∀(j:List (Nat×bZ)) (us:List (Nat×Value)) (xs f:List e.den) (g:List Value),Nv e xs j=a6 f->gK (fV c.w c.free e) e.size xs g->
   us.map (·.1)=j.map (·.1)->bQ c (j.map (·.2)) (us.map (·.2))-> ∃l,Instr.fill place g.toArray us=a6 l.toArray/\gK (fV c.w c.free e) e.size f l/\f.length=xs.length
 |[],us,xs,f,g,h,m,d,_=>by
  simp only[Nv,Option.some.injEq]at h;subst h;cases us with
  |nil=>exact⟨g,rfl,m,rfl⟩
  |cons=>simp at d
 |(i,v)::j,us,xs,f,g,h,m,d,q=>by
  cases us with
  |nil=>simp at d
  |cons u us=>
   obtain⟨o,u⟩:=u;simp only[au,List.cons.injEq]at d;obtain⟨rfl,d⟩:=d;simp only[au,bQ]at q;simp only[Nv]at h;split at h
   .rename_i x D
    replace h:=dL h;obtain⟨p,h⟩:=h;have p:o<xs.length:=by simpa [TC] using p
    have hd:=aGl (hp:=[]) D q.1;have y:=fV.length _ _ _ hd;obtain⟨z,E,K,A,B,G,I⟩:=gK.at_ o xs g p m;subst G;have J:=gK.set x u.cells.toList y hd o xs A z B p m I E;obtain⟨l,g1,g2,g3⟩:=aaq place s j us _ f _ h J d q.2;refine⟨l, ?_,g2,by rw[g3];simp⟩;rw[<-g1];simp only[Instr.fill,s];have L:u.cells.size=e.size:=by simpa using y
    rw[aq (by simp_all)];congr 1;have:=NK (o*e.size) u.cells (A++z++B) (by simp;omega)
    grind
   .cases h
end
end
section
open Option renaming some → a6, none → a7
open Bool renaming and_eq_true → af
open List renaming take_of_length_le → bG
open Nat renaming le_refl → ae, le_mul_of_pos_right → bH
open Go.RowKit
section
variable {P:Program} {T:TT} {W0:World} {c:Cx} {R:Type} {r:R} {t:TypeId}
theorem sO (hT:TOk P T) {n:Nat} {d:TypeId} (e:(T.at t).k=.slice d) (h:T.rowOf t n=true):P.underlying t=a6 (.slice d)/\(T.at d).known=true/\(T.at d).size=n/\0<n/\0<(T.at d).bytes:=by
 grind [nN]
theorem aba (hT:TOk P T) {f:TypeId} (hk:(T.at f).known=true) {e:Ty} {d:e.den} (hd:KC e (T.at f).zero=a6 d):
  ∃i z,P.info? f=a6 i/\i.zero=a6 z/\i.size=(T.at f).size/\i.bytes=(T.at f).bytes/\fV c.w c.free e d z.cells.toList:=by
 obtain⟨i,z,g,j,l,m,o,p⟩:=hT.info hk
 grind [qJ,wP]
theorem ahL (w:World) (d:List Value) (e:TypeId) (size n:Nat) (hl:d.length=n*size) (f:n<=maxLen):
  (w.alloc (.cells d.toArray e)).ownsRow w.heap.size e size (.slice (a6 ⟨w.heap.size,0,a7⟩) n n) n d:=
 ⟨hl,.inr ⟨w.heap.size,n,d.toArray,rfl,ae _,heap_alloc_new w _,ae _,f,by simpa using hl,by simp[<-hl]⟩⟩
theorem acx (hT:TOk P T) (D:c.Ok W0) {cl:Bool} {call:gX R} {o:Oper} {st:St} {a:Act} {K:bZ->St->Option R} {n:Nat} {f:Array (Nat×Operand)} (E:c.hp=st.hp) (G:c.nxt=st.nxt) (I:bQ c st.fr a.tmps.toList)
  (l:o.op=.buildSlice t n f) (h:fF T cl call o st K=a6 r):KW P W0 c st o a K r:=by
 obtain⟨ah,op,ty,ai,aj,ak⟩:=o;simp only at l;subst l;simp only[fF]at h;split at h
 .rename_i g J
  split at h
  .rename_i e L
   split at h
   .rename_i d hd
    replace h:=dL h;obtain⟨m,h⟩:=h;simp only[af,leN,decide_eq_true_eq]at m;obtain⟨q,hk,M,s,_⟩:=sO hT J m.1;split at h
    .rename_i N O
     obtain⟨id,n',S,U,V,W⟩:=jD h;obtain⟨i,z,X,Y,al,_,u⟩:=aba (c:=c) hT hk hd;have v:=fV.length _ _ _ u;have Z:z.cells.size=e.size:=by simpa using v
     have ab:=gK.replicate (Q:=fV c.w c.free e) v u n;obtain⟨j,g1,g2,g3⟩:=aaq (c:=c) (fun i=>a6 (i*e.size,e.size)) (fun _=>rfl) _ (f.toList.map fun p=>(p.1,a.eval p.2)) _ _ _ O ab (by simp) (by
      simp only[List.map_map,Function.comp_def];have:=bQ.map_eval (c:=c) I (f.toList.map (·.2));simp_all [Function.comp_def])
     have x:N.length=n:=by rw[g3];simp
     have y:=gK.length _ _ g2;rw[x]at y;have an:n<=n*e.size:=bH n s;have A:=ahL c.w j g e.size n y (by simp only[maxLen];omega);rw[<-x]at A;obtain⟨c',d1,d2,d3⟩:=ui D E G S U V s (pV c.w (.cells j.toArray g)) g j A g2 rfl (fun h=>hT.byte hk (by rw[L,h]));refine uh rfl W d1 d3 ?_;rw[d2];have B:(sizeOf g).run P c.w=.ok e.size c.w:=by rw[hT.sizeOf hk,M]
     have ao:(zeroValue g).run P c.w=.ok z c.w:=by simp[zeroValue,typeInfo,X,Y]
     have au:n*e.size<=2^24:=by omega
     have ad:Instr.fill (fun i=>a6 (i*e.size,e.size)) ((Array.range (n*e.size)).map (z.cells[· %z.cells.size]!)) (Array.map (fun p=>(p.1,a.eval p.2)) f).toList=a6 j.toArray:=by
      rw[<-g1];have:=Hl z.cells n;rw[Z]at this;have h3:(Array.range (n*e.size)).map (z.cells[· %z.cells.size]!)=(List.replicate n z.cells.toList).flatten.toArray:=by
       apply Array.ext';rw[<-this];rfl
      rw[h3];simp
     by_cases h0:n*e.size=0
     .have ag:n=0:=by
       omega
      subst ag;simp only[Instr.buildSlice,Sem.run_bind,run_underlying q,Result.andThen_ok,B,Sem.run_ite,Nat.zero_mul,if_true,Sem.run_pure];simp only[Nat.zero_mul]at ad;rw[aq (by omega)];have av:Instr.fill (fun i=>a6 (i*e.size,e.size)) ((Array.range 0).map ((#[]:Array Value)[· %(#[]:Array Value).size]!)) (Array.map (fun p=>(p.1,a.eval p.2)) f).toList=a6 j.toArray:=by
       grind
      simp_all [newRow]
     .simp only[Instr.buildSlice,Sem.run_bind,run_underlying q,Result.andThen_ok,B,Sem.run_ite];simp_all [newRow]
    .cases h
   .cases h
  .cases h
 .cases h
theorem ag3 (hT:TOk P T) (x:c.Ok W0) {cl:Bool} {call:gX R} {o:Oper} {st:St} {a:Act} {K:bZ->St->Option R} {l cp:Operand} (y:c.hp=st.hp) (A:c.nxt=st.nxt) (m:bQ c st.fr a.tmps.toList)
  (p:o.op=.makeSlice t l cp) (h:fF T cl call o st K=a6 r):KW P W0 c st o a K r:=by
 obtain⟨aj,op,ty,ak,al,an⟩:=o;simp only at p;subst p;simp only[fF]at h;split at h
 .rename_i g B
  split at h
  .rename_i e ln f D E G
   split at h
   .rename_i d hd
    replace h:=gW h;obtain⟨q,h⟩:=h;simp only[af,decide_eq_true_eq]at q;obtain⟨I,J,L,b3⟩:=q;obtain⟨M,hk,N,O,S⟩:=sO hT B I;obtain⟨id,n',U,V,W,X⟩:=jD h;obtain⟨i,z,Y,Z,ab,ao,s⟩:=aba (c:=c) hT hk hd;have u:=fV.length _ _ _ s;have j:z.cells.size=e.size:=by simpa using u
    have ad:=gK.replicate (Q:=fV c.w c.free e) u s ln.toNat;obtain⟨k,r1⟩:=uN E (dY m l);obtain⟨k',r2⟩:=uN G (dY m cp);have au:f.toNat<=f.toNat*(T.at g).bytes:=bH _ S;have av:f.toNat<=140737488355328:=by grind [mJ]
    have ag:f<=9223372036854775807:=by omega
    have ah:(i.bytes:Int)*f<=281474976710656:=by
     grind [mJ]
    have aw:=run_make (P:=P) c.w t g i z M Y Z k k' ln f J L ah ag;have v:=Hl z.cells f.toNat;rw[j]at v;have ax:((List.replicate f.toNat z.cells.toList).flatten).length=f.toNat*e.size:=by simp[j]
    have ai:(c.w.alloc (.cells (madeCells z.cells (f.toNat*i.size)) g)).ownsRow c.w.heap.size g e.size (.slice (a6 ⟨c.w.heap.size,0,a7⟩) ln.toNat f.toNat) (List.replicate ln.toNat d).length (List.replicate ln.toNat z.cells.toList).flatten:=by
     refine⟨by simp[j],.inr ⟨c.w.heap.size,f.toNat,madeCells z.cells (f.toNat*i.size),by simp,ae _,heap_alloc_new _ _,by simp;omega,by simp only[maxLen];omega, ?_, ?_⟩⟩
     .grind
     .rw[ab,N,v];have:f.toNat=ln.toNat+(f.toNat-ln.toNat):=by omega
      rw[this,<-List.replicate_append_replicate,List.flatten_append];rw[List.take_append];simp[j];rw[bG (by simp[j])]
    obtain⟨c',d1,d2,d3⟩:=ui x y A U V W O (pV c.w _) g _ ai ad rfl (fun h=>hT.byte hk (by rw[D,h]));refine uh rfl X d1 d3 ?_;simp_all
   .cases h
  .cases h
 .cases h
end
end
section
open Option renaming some → a6, none → a7
open List renaming length_append → ai, nil_append → aB, eq_nil_of_length_eq_zero → bF
open Nat renaming le_refl → ae
open Go.RowKit
section
variable {P:Program} {T:TT} {W0:World} {c:Cx} {R:Type} {r:R} {t:TypeId}
theorem acQ {w:World} {B:Nat} {e:TypeId} {size n cap g:Nat} {f:List Value} (h:w.ownsRow B e size (.slice (a6 ⟨g,0,a7⟩) n cap) n f) {k:Nat} (hk:k<=n):
  w.ownsRow B e size (.slice (a6 ⟨g,0,a7⟩) k cap) k (f.take (k*size)):=by
 have p:=h.1;have q:=Nat.mul_le_mul_right size hk;refine⟨by simp;omega,.inr ?_⟩;rcases h.2 with ⟨d,_⟩|⟨s,u,i,d,j,l,v,m,o,x⟩
 .cases d
 .cases d;refine⟨g,cap,i,rfl,j,l,by omega,m,o, ?_⟩
  grind
theorem Vf (hT:TOk P T) {d:TypeId} (y:P.underlying t=a6 (.slice d)) {w:World} {B:Nat} {i:TypeInfo} {z:Value} {size X:Nat} (hi:P.info? d=a6 i) (G:i.zero=a6 z) (ad:i.size=size) (af:i.bytes=X)
  (I:z.cells.size=size) (J:0<size) {f:TypeId} {v:Value} {n:Nat} {p:List Value} (l:w.ownsRow B f size v n p) {a:Option Addr} {m cp:Nat} {news:List Value} (hl:news.length=m*size) (K: ∀u∈news,u.oneCell'=true)
  (ag:news=[]\/ ∃b off,a=a6 ⟨b,off,a7⟩/\iK w b off news) (L:n+m<=maxLen) (M:(n+m)*X<=140737488355328) (N:B<=w.heap.size) (ty:TypeId):
  ∃o w' s,(Builtin.append_ #[t,t] ty #[v,.slice a m cp]).run P w=.ok o w'/\w'.ownsRow B s size o (n+m) (p++news)/\w.grownBy w' v.ownBlock/\(o.ownBlock=v.ownBlock\/o.ownBlock=a6 w.heap.size)/\o.oneCell'=true/\(s=f\/s=d):=by
 by_cases hm:m=0
 .subst hm;have hn:news=[]:=bF (by simpa using hl);subst hn;obtain⟨O,Y,x,ah,_⟩:=uu l;refine⟨v,w,f, ?_,by simpa using l,⟨rfl,rfl,rfl,ae _,fun _ _ _=>rfl⟩,.inl rfl,by rw[x];rfl,.inl rfl⟩;rw[x];cases a<;>cases O<;>simp[Builtin.append_,run_underlying y,sizeOf,typeInfo,hi,Builtin.lenOf,Builtin.firstCells,loadCells,loadCellsFrom,ah,storeCells]
 .have aj:news≠[]:=by
   intro h0;rw[h0]at hl;have:=Nat.mul_pos (Nat.pos_of_ne_zero hm) J;simp at hl;omega
  obtain⟨b,off,rfl,hc⟩:=ag.resolve_left aj;have E: ∀j u,news[j]? =a6 u->w.cell? ((⟨b,off,a7⟩:Addr).add j)=a6 u:=fun j u hj=>by
   obtain⟨ak,al⟩:=List.getElem?_eq_some_iff.1 hj;rw[lI,hc j ak,al]
  subst ad;subst af;by_cases he:f=d
  .subst he;obtain⟨o,w',s,A,S,_,U⟩:=run_append_own_at (P:=P) w B t ty f i z i.size i.bytes y hi G rfl rfl I J v n p l ⟨b,off,a7⟩ m cp news hl E K L M N;obtain⟨O,Y,x,_⟩:=uu A;exact⟨o,w',f,s,A,S,U,by rw[x];rfl,.inl rfl⟩
  .
   rcases l.2 with ⟨rfl,rfl⟩|⟨g,q,D,rfl,an,Z,az,ao,au,aA⟩
   .have hx:p=[]:=bF (by simpa using l.1);subst hx;obtain⟨o,w',s,A,S,_,U⟩:=run_append_own_at (P:=P) w B t ty d i z i.size i.bytes y hi G rfl rfl I J (.slice a7 0 0) 0 [] (World.ownsRow_nil _ _ _ _) ⟨b,off,a7⟩ m cp news hl E K L M N;obtain⟨O,Y,x,_⟩:=uu A;exact⟨o,w',d,s,A,S,U,by rw[x];rfl,.inr rfl⟩
   .by_cases hroom:n+m<=q
    .have aw:n*i.size+news.length<=D.size:=by rw[hl,au,<-Nat.add_mul];exact Nat.mul_le_mul_right _ hroom
     have hf:=run_firstCells_some (P:=P) w i.size m ⟨b,off,a7⟩ m cp news hl E;have ab:=run_storeCells_at P g (n*i.size) f news 0 D w Z (by simpa using aw) K;simp only[Nat.add_zero]at ab;have V:(Builtin.append_ #[t,t] ty #[.slice (a6 ⟨g,0,a7⟩) n q,.slice (a6 ⟨b,off,a7⟩) m cp]).run P w=
       .ok (.slice (a6 ⟨g,0,a7⟩) (n+m) q) (w.setRow g (D.toList.take (n*i.size)++news++D.toList.drop (n*i.size+news.length)).toArray):=by
      simp[Builtin.append_,run_underlying y,sizeOf,typeInfo,hi,Builtin.lenOf,hroom,hf,Addr.add_lit,ab]
     have W:(p++news).length=(n+m)*i.size:=by grind
     refine⟨_,_,f,V,⟨W,.inr ⟨g,q,_,rfl,an,setRow_heap w g D _ f _ Z,hroom,ao, ?_, ?_⟩⟩,⟨rfl,rfl,rfl,by simp,fun k _ hk=>setRow_other w g k _ (fun e=>hk (by simp[Value.ownBlock,e]))⟩,Or.inl rfl,rfl,.inl rfl⟩
     all_goals grind
    .have holds: ∀j u,p[j]? =a6 u->w.cell? ((⟨g,0,a7⟩:Addr).add j)=a6 u:=l.cells (g:=g) rfl;have V:=run_append_grow (P:=P) w t ty d i z y hi G ⟨g,0,a7⟩ n q p l.1 holds ⟨b,off,a7⟩ m cp news hl E (by omega) (by grind [maxLen]) (growslice_fits (by omega) M);have ax:=grownCap_ge w (n+m) q d;have ay:grownCap w (n+m) q d<=maxLen:=grownCap_le_maxLen w (n+m) q d L;have W:(p++news).length=(n+m)*i.size:=by rw[ai,l.1,hl,Nat.add_mul]
     refine⟨_,_,d,V,⟨W,.inr ⟨w.heap.size,_,_,rfl,N,heap_alloc_new w.drew _,ax,ay, ?_, ?_⟩⟩,⟨rfl,rfl,rfl,by simp,fun k hk _=>Below.heap_alloc w.drew _ k hk⟩,Or.inr rfl,rfl,.inr rfl⟩
     .simp only[Array.size_append,List.size_toArray,size_zeroCells,I,l.1,hl,<-Nat.add_mul];simp_all
     grind
theorem aiK (hT:TOk P T) {d:TypeId} (o:P.underlying t=a6 (.slice d)) {w:World} {i:TypeInfo} {z:Value} {size p:Nat} (hi:P.info? d=a6 i) (q:i.zero=a6 z) (B:i.size=size) (D:i.bytes=p)
  (E:z.cells.size=size) (G:0<size) {av:Option Addr} {b off m cp:Nat} {news:List Value} (hl:news.length=m*size) (I: ∀u∈news,u.oneCell'=true)
  (J:iK w b off news) (S:0<m) (U:m<=maxLen) (V:m*p<=140737488355328) (ty:TypeId):
  ∃e w' g,(Builtin.append_ #[t,t] ty #[.slice av 0 0,.slice (a6 ⟨b,off,a7⟩) m cp]).run P w=.ok e w'/\w'.ownsRow w.heap.size g size e m news/\Below w.heap.size w w'/\e.oneCell'=true/\g=d:=by
 have s: ∀j u,news[j]? =a6 u->w.cell? ((⟨b,off,a7⟩:Addr).add j)=a6 u:=fun j u K=>by
  obtain⟨L,M⟩:=List.getElem?_eq_some_iff.1 K;rw[lI,J j L,M]
 subst B;subst D;cases av with
 |none=>
  obtain⟨e,w',g,l,f,_,W⟩:=run_append_own_at (P:=P) w w.heap.size t ty d i z i.size i.bytes o hi q rfl rfl E G (.slice a7 0 0) 0 [] (World.ownsRow_nil _ _ _ _) ⟨b,off,a7⟩ m cp news hl s I (by omega) (by simp_all) (ae _);obtain⟨av,X,N,_⟩:=uu l;rw[Nat.zero_add,aB]at l;exact⟨e,w',d,g,l,⟨f.os,f.tape,f.output,f.size,fun k hk=>f.block k hk (by simp[Value.ownBlock])⟩,by rw[N];rfl,rfl⟩
 |some O=>
  have x:=run_append_grow (P:=P) w t ty d i z o hi q O 0 0 [] (by simp) (fun j v h=>by simp at h) ⟨b,off,a7⟩ m cp news hl s (by omega) (by grind [maxLen]) (growslice_fits (by omega) (by simp_all));have y:=grownCap_ge w (0+m) 0 d;have A:grownCap w (0+m) 0 d<=maxLen:=grownCap_le_maxLen w (0+m) 0 d (by omega);simp only[Nat.zero_add]at x y A;refine⟨_,_,d,x, ?_, ?_,rfl,rfl⟩
  .refine⟨hl,.inr ⟨w.heap.size,_,_,rfl,ae _,heap_alloc_new w.drew _,y,A, ?_, ?_⟩⟩
   .have:=Nat.add_mul m (grownCap w m 0 d-m) i.size;simp_all [size_zeroCells]
   simp_all
  .exact⟨rfl,rfl,rfl,by simp,fun k hk=>Below.heap_alloc w.drew _ k hk⟩
theorem Vg {u d:TypeId} (o:P.underlying t=a6 (.slice d)) (p:P.underlying u=a6 .string) {w:World} {B:Nat} {i:TypeInfo} (hi:P.info? d=a6 i) (x:i.zero=a6 (.int .u8 0)) (A:i.size=1) (y:i.bytes=1)
  {v:Value} {n:Nat} {l:List Value} (q:w.ownsRow B d 1 v n l) (s:ByteArray) (E:n+s.size<=140737488355328) (G:B<=w.heap.size) (ty:TypeId):
  ∃e w',(Builtin.append_ #[t,u] ty #[v,.string s]).run P w=.ok e w'/\w'.ownsRow B d 1 e (n+s.size) (l++Lib.strCells s)/\w.grownBy w' v.ownBlock/\(e.ownBlock=v.ownBlock\/e.ownBlock=a6 w.heap.size)/\e.oneCell'=true:=by
 obtain⟨e,w',f,D,I,M⟩:=Lib.run_append_own_string (P:=P) w B t u ty d i o p hi x A y v n l q s (by simp only[maxLen];omega) E G;obtain⟨N,O,J,_⟩:=uu D;refine⟨e,w',f,D,I, ?_,by rw[J];rfl⟩;have S:l.length=n:=by simpa using q.1
 rcases q.2 with ⟨rfl,rfl⟩|⟨g,z,K,rfl,U,L,V,W,X,Y⟩
 .by_cases hm:s.size=0
  .simp_all
  .right;have m:=run_append_nil_string (P:=P) w t u ty d i (.int .u8 0) o p hi x s (by omega) (by omega) (by rw[y];omega);rw[m]at f;cases f;rfl
 .by_cases hroom:n+s.size<=z
  .left;have m:=Lib.run_append_room_string (P:=P) w t u ty d i o p hi A g n z K L s hroom (by omega);rw[m]at f;cases f;rfl
  .right;have holds: ∀j u,l[j]? =a6 u->w.cell? ((⟨g,0,a7⟩:Addr).add j)=a6 u:=q.cells (g:=g) rfl;have m:=Lib.run_append_grow_string (P:=P) w t u ty d i (.int .u8 0) o p hi x ⟨g,0,a7⟩ n z l (by simp_all) holds s (by omega) (by omega) (by rw[y];exact growslice_fits (by omega) (by omega));rw[m]at f;cases f;rfl
end
end
section
open Option renaming some → a6, none → a7
open Bool renaming and_eq_true → af
open List renaming length_append → ai, map_cons → au, nil_append → aB, map_nil → aX
open Nat renaming le_refl → ae, eq_of_beq_eq_true → ak, le_mul_of_pos_right → bH
open Go.RowKit
section
variable {P:Program} {T:TT} {W0:World} {c:Cx} {R:Type} {r:R} {t:TypeId}
theorem DX {d:Type} {l:List d} {b:Nat} (h:eu l b=true):l.length*b<=140737488355328:=by
 unfold eu mJ at h;simp_all
theorem gK.one {w:World} {fr:Nat->Prop} {e:Ty}: ∀(xs:List e.den) (g:List Value),gK (fV w fr e) e.size xs g-> ∀u∈g,u.oneCell'=true
 |[],_,h=>by cases h;simp
 |y::i,_,⟨d,j,l,p,m,o⟩=>by
  subst l;intro u f;rcases List.mem_append.1 f with f|f
  .exact fV.one _ _ _ m u f
  .exact gK.one i j o u f
theorem aoG (g:c.Ok W0) {st:St} (z:c.hp=st.hp) (A:c.nxt=st.nxt) {e:Ty} (B:0<e.size) {id d:Nat} {xs:List e.den} (i:dW c.hp id=a6 (.arr e d xs)) {f:Value} {w':World} {m:TypeId} {ws:List e.den} {o:List Value}
  (M:w'.ownsRow W0.heap.size m e.size f ws.length o) (p:gK (fV c.w c.free e) e.size ws o) (l:c.w.grownBy w' (c.mu id).v.ownBlock) (D: ∀b,(c.mu id).v.ownBlock=a6 b->W0.heap.size<=b)
  (N:f.ownBlock=(c.mu id).v.ownBlock\/f.ownBlock=a6 c.w.heap.size) (E:f.oneCell'=true) (G:e=.int .u8->m=qX):
  ∃c',Gv W0 c st c' {st with hp:=jB st.hp id (.arr e (d+1) ws)}/\c'.w=w'/\dh c' (.slc id (d+1) a7) f:=by
 have I:Below W0.heap.size W0 w':=g.bel.grown l g.size D;have q:(dV.arr e d xs).like (c.mu id) (.arr e (d+1) ws) ⟨0,f⟩:=⟨by omega,fun h=>by omega⟩;have s: ∀b,b<c.w.heap.size->(dV.arr e d xs).blk (c.mu id)≠a6 b->w'.heap[b]? =c.w.heap[b]? :=fun b j O=>l.block b j (by
  grind [dV.blk])
 have u: ∀b,(dV.arr e (d+1) ws).blk ⟨0,f⟩=a6 b->(dV.arr e d xs).blk (c.mu id)=a6 b\/c.w.heap.size<=b:=fun b j=>by
  simp only[dV.blk]at j ⊢
  grind
 have x: ∀(b:Nat) (L:Loop),(dV.arr e d xs).blk (c.mu id)=a6 b->c.w.heap[b]? =a6 (Obj.loop L)-> ∃J:Loop,w'.heap[b]? =a6 (Obj.loop J):=fun b L j p=>absurd p ((g.obj id _ i).no_loop (by simp) j);have y:=Cx.Le.put (w:=w') g i q l.size s u x;refine⟨c.put id (.arr e (d+1) ws) ⟨0,f⟩ w',⟨by simp[Cx.put,z],A,rfl,rfl,g.put i q I l.size s u x ?_,y⟩,rfl, ?_⟩
 .refine⟨B,m,o, ?_,gK.mono (fV.mono y.free e) _ _ p,G⟩;simp_all [Cx.put,upd_same]
 .simp only[dh];refine⟨E,.inl ⟨_,Cx.put_get i⟩,fun S U V K=> ?_⟩;rw[Cx.put_get i]at K;simp_all [jy,Cx.put,upd_same]
theorem Ve (hT:TOk P T) (o:c.Ok W0) {st:St} (J:c.hp=st.hp) (K:c.nxt=st.nxt) {f:TypeId} (L:P.underlying t=a6 (.slice f)) (hk:(T.at f).known=true) {e:Ty} (j:(T.at f).size=e.size) (M:0<e.size) (N:0<(T.at f).bytes)
  {id p:Nat} {xs:List e.den} (y:dW c.hp id=a6 (.arr e p xs)) {v:Value} {k cp:Nat} {g:Option Addr} (A:(c.mu id).v=.slice g xs.length cp) (az:k<=xs.length) (O:v=.slice g k cp)
  {d:List e.den} {a:Option Addr} {m:Nat} {s:List Value} (u:gK (fV c.w c.free e) e.size d s) (S:s=[]\/ ∃b off,a=a6 ⟨b,off,a7⟩/\b<c.w.heap.size/\iK c.w b off s)
  (aA:((xs.take k++d).length)*(T.at f).bytes<=140737488355328) (ty:TypeId) (U:e=.int .u8->f=qX):
  ∃c' x,Gv W0 c st c' {st with hp:=jB st.hp id (.arr e (p+1) (xs.take k++d))}/\(Builtin.append_ #[t,t] ty #[v,.slice a d.length m]).run P c.w=.ok x c'.w/\dh c' (.slc id (p+1) a7) x:=by
 obtain⟨_,V,W,B,X,Y⟩:=o.obj id _ y;obtain⟨i,z,Z,ab,ad,hz,ag,aF⟩:=hT.info hk;have ah:z.cells.size=e.size:=by
  have:=congrArg List.length ag;rw[hT.zlen hk,j]at this;simpa using this
 have aj:=gK.take k _ _ X;have al:=gK.length _ _ u;have an:=gK.one _ _ u;have aG:(xs.take k).length=k:=by simp;omega
 have D:c.w.ownsRow W0.heap.size V e.size v k (W.take (k*e.size)):=by
  rw[A]at B;rcases B.2 with ⟨l,e2⟩|⟨g',aH,aI,l,_⟩
  .simp only[Value.slice.injEq]at l;obtain⟨rfl,_,rfl⟩:=l;simp_all [World.ownsRow_nil]
  grind [acQ]
 have ao:k+d.length<=maxLen:=by
  have h2:k+d.length<=(k+d.length)*(T.at f).bytes:=bH _ N
  grind [maxLen]
 obtain⟨x,w',l,hr,av,E,G,aw,ax⟩:=Vf hT L Z hz ab ad (by rw[ah,j]) (by omega) (by rw[j];exact D) (a:=a) (cp:=m) (by rw[j];exact al) an (S.imp (fun h=>h) fun⟨b,off,q1,_,q3⟩=>⟨b,off,q1,q3⟩) ao
  (by simp_all) o.size ty
 rw[j]at av;have I:v.ownBlock=(c.mu id).v.ownBlock:=by rw[A,O];cases g<;>rfl
 have ay: ∀b,(c.mu id).v.ownBlock=a6 b->W0.heap.size<=b:=fun b hb=>(World.ownsRow.lt D b (I.trans hb)).1;rw[I]at E G;obtain⟨c',d1,d2,d3⟩:=aoG o J K M y (ws:=xs.take k++d) (by simp_all) (gK.append _ _ _ _ aj u) E ay G aw (fun h=>ax.elim (fun q=>q.trans (Y h)) fun q=>q.trans (U h))
 grind
theorem Pq {w:World} {fr:Nat->Prop} (s:List UInt8):gK (fV w fr (.int .u8)) (Ty.int .u8).size (cZ s) (Lib.strCells ⟨s.toArray⟩):=by
 induction s with
 |nil=>rfl
 |cons b l d=>
  refine⟨[.int .u8 b.toNat],Lib.strCells ⟨l.toArray⟩,by simp[Lib.strCells],rfl,rfl, ?_⟩
  assumption
theorem arv (hT:TOk P T) (p:c.Ok W0) {cl:Bool} {dst:Option Tmp} {ty:TypeId} {pos:String} {after:Array Edge} {guard:Option (Nat×Bool)} {st:St} {a:Act} {K:bZ->St->Option R} {args:Array Operand} {t t':TypeId} {s x:bZ} (I:c.hp=st.hp) (W:c.nxt=st.nxt) (X:bQ c st.fr a.tmps.toList)
  (A:args.toList.map (iH st.fr)=[s,x]) (h:DR T cl dst t t' s x st K=a6 r):KW P W0 c st ⟨dst,.call {callee:=.builtin .append,args:=args,argTypes:=[t,t'].toArray},ty,pos,after,guard⟩ a K r:=by
 obtain⟨al⟩:=args
 match al,A with
 |[B,J],A=>
  simp only[au,aX,List.cons.injEq,and_true]at A;obtain⟨rfl,rfl⟩:=A;have m:=dY X B;have D:=dY X J;have aI: ∀w,(execOp a.eval ⟨dst,.call {callee:=.builtin .append,args:=[B,J].toArray,argTypes:=[t,t'].toArray},ty,pos,after,guard⟩).run P w=
    ((Builtin.append_ #[t,t'] ty #[a.eval B,a.eval J]).run P w).andThen fun v E=>.ok (.value v) E:=fun w=>by
   simp[execOp,resolve,invoke,builtin,Sem.run_bind]
  unfold DR at h;split at h
  .rename_i d y an ao
   rw[ao]at D;simp only[dh]at D;have D:=D.str_inv;split at h
   .rename_i Y
    replace h:=dL h;obtain⟨Z,h⟩:=h;simp only[af]at Z;obtain⟨⟨av,aw⟩,ab⟩:=Z;have ad:=I9 hT av;obtain⟨hu,hk,aJ,aK,aO⟩:=sO hT an aw;have ab:(T.at d).bytes=1:=ak ab;obtain⟨i,z,L,aP,aQ,hz,aS,aU⟩:=hT.info hk;have M:d=qX:=hT.byte hk Y;have ag:i.zero=a6 (.int .u8 0):=by
     rcases(hT d hk).2.2.1 with q|q
     .simp_all
     .rw[Y]at q;have ax:(T.at d).k=.int .u8:=by
       cases hkq:(T.at d).k with
       |int k=>simp_all [nz]
       |struct fs=>
        rw[hkq]at q;simp only[nz]at q;cases fs with
        |nil=>simp[kH]at q
        |cons f l=>
         grind [kH]
       |slice e'=>
        rw[hkq]at q;simp only[nz]at q;cases hq:(T.at e').ty<;>rw[hq]at q<;>simp at q
       |bool=>rw[hkq]at q;cases q
       |str=>rw[hkq]at q;cases q
       |other=>rw[hkq]at q;cases q
       |fn=>rw[hkq]at q;cases q
       |ptr e'=>rw[hkq]at q;cases q
       |map _ _=>rw[hkq]at q;cases q
      exact hT.zero_byte hk ax L
    cases hsv:iH st.fr B with
    |nils=>
     rw[hsv]at h m;simp only at h;simp only[dh]at m;obtain⟨j,h⟩:=gW h;have j:y.length<=140737488355328:=of_decide_eq_true j;obtain⟨v',E,hr,o,g,ah,N⟩:=Vg (ty:=ty) hu ad L ag (by omega) (by omega) (World.ownsRow_nil c.w c.w.heap.size d 1) ⟨y.toArray⟩ (by show 0+y.toArray.size<=_;simpa using j) (ae _);obtain⟨id,n',f1,f2,f3,f4⟩:=jD h;have ay:Below c.w.heap.size c.w E:=⟨g.os,g.tape,g.output,g.size,fun k hk=>g.block k hk (by simp[Value.ownBlock])⟩;have az:0+(⟨y.toArray⟩:ByteArray).size=(cZ y).length:=by show 0+y.toArray.size=_;simp[cZ]
     rw[aB,az]at o;obtain⟨O,S,d2,U⟩:=ui p I W f1 f2 f3 (y:=.int .u8) (by simp[Ty.size]) ay d _ o (Pq y) N (fun _=>M);exact⟨_,_,O,_,f4,S,U,.inl (by simp_all)⟩
    |slc id ver vw=>
     rw[hsv]at h m;simp only at h;split at h
     .rename_i u xs G
      rw[<-I]at G;replace h:=dL h;obtain⟨V,h⟩:=h;have V:u=ver:=by simpa using V
      subst V;split at h
      .replace h:=gW h;obtain⟨j,h⟩:=h;have j:=DX j;simp only[dh]at m;have aA:=(m.2.2 _ _ _ G).2 rfl;simp only[jy]at aA;obtain⟨_,e0,zs,aj,hL,aF⟩:=p.obj id _ G;have aG:e0=d:=(aF rfl).trans M.symm;subst aG;have aH:(⟨y.toArray⟩:ByteArray).size=(cZ y).length:=by show y.toArray.size=_;simp[cZ]
       obtain⟨v',E,hr,o,g,ah,N⟩:=Vg (ty:=ty) hu ad L ag (by omega) (by omega) aj ⟨y.toArray⟩ (by simp_all) p.size;rw[aH,<-ai]at o;obtain⟨O,S,d2,U⟩:=aoG p I W (e:=.int .u8) (by simp[Ty.size]) G o (gK.append _ _ _ _ hL (Pq y)) g (fun b hb=>(World.ownsRow.lt aj b hb).1) ah N (fun _=>M);exact⟨_,_,O,_,h,S,U,.inl (by simp_all)⟩
      .cases h
     .cases h
    |_=>rw[hsv]at h;cases h
   .cases h
  .cases h
theorem axg (hT:TOk P T) (D:c.Ok W0) {cl:Bool} {call:gX R} {o:Oper} {st:St} {a:Act} {K:bZ->St->Option R} {args:Array Operand} {ts:Array TypeId} (E:c.hp=st.hp) (U:c.nxt=st.nxt) (aI:bQ c st.fr a.tmps.toList)
  (ho:o.op=.call {callee:=.builtin .append,args:=args,argTypes:=ts}) (h:fF T cl call o st K=a6 r):KW P W0 c st o a K r:=by
 obtain⟨aV,op,O,aW,aY,aZ⟩:=o;simp only at ho;subst ho;simp only[fF,lJ]at h;split at h<;>try (cases h;done)
 all_goals try (rename_i hb _;cases hb;done)
 rename_i s x hb ab
 split at h<;>try (cases h;done)
 rename_i t t' aJ
 obtain⟨ts⟩:=ts;simp only at aJ;subst aJ;rw[cond_eq_ite]at h;split at h
 rotate_left
 .grind [arv]
 rename_i ah
 have ah:t=t':=by simpa using ah
 subst ah;obtain⟨al⟩:=args
 match al,ab with
 |[s0,x0],ab=>
  simp only[au,aX,List.cons.injEq,and_true]at ab;obtain⟨rfl,rfl⟩:=ab;have f:=dY aI s0;have hx:=dY aI x0;have aK: ∀w,(execOp a.eval ⟨aV,.call {callee:=.builtin .append,args:=[s0,x0].toArray,argTypes:=[t,t].toArray},O,aW,aY,aZ⟩).run P w=
    ((Builtin.append_ #[t,t] O #[a.eval s0,a.eval x0]).run P w).andThen fun v w'=>.ok (.value v) w':=fun w=>by
   simp[execOp,resolve,invoke,builtin,Sem.run_bind]
  unfold Nr at h;split at h
  .rename_i et ad
   split at h
   .rename_i e he
    split at h
    .cases h
    .rename_i j aO
     rw[<-E]at aO;obtain⟨a2,m2,aj,aP,l,ag⟩:=aeZ D aO hx;split at h
     .
      rename_i V
      rw[V]at f;simp only[dh]at f;replace h:=gW h;obtain⟨p,h⟩:=h;simp only[af]at p;obtain⟨y,hk,d,G,I⟩:=sO hT ad p.1;have W:=DX p.2;obtain⟨i,z,J,an,ao,hz,aw,bd⟩:=hT.info hk;have ax:z.cells.size=e.size:=by
       have:=congrArg List.length aw;rw[hT.zlen hk,d]at this;simpa using this
      have ay:=gK.length _ _ l;have az:=gK.one _ _ l;have aQ:0+j.length<=maxLen:=by
       have h2:j.length<=j.length*(T.at et).bytes:=bH _ I;simp only[maxLen];omega
      obtain⟨v',w',e1,hr,X,L,bC,aA,aF⟩:=Vf hT y J hz an ao (by rw[ax,d]) (by omega) (World.ownsRow_nil c.w c.w.heap.size et (T.at et).size) (a:=a2) (cp:=m2) (by rw[d];exact ay) az (ag.imp (fun h=>h) fun⟨b,aS,q1,_,q3⟩=>⟨b,aS,q1,q3⟩) aQ
       (by simp_all) (ae _) O
      rw[d,aB,Nat.zero_add]at X;obtain⟨id,n',f1,f2,f3,f4⟩:=jD h;have bf:Below c.w.heap.size c.w w':=⟨L.os,L.tape,L.output,L.size,fun k hk=>L.block k hk (by simp[Value.ownBlock])⟩;obtain⟨M,A,d2,N⟩:=ui D E U f1 f2 f3 G bf e1 aj X l aA (fun q=>(aF.elim (fun q=>q) fun q=>q).trans (hT.byte hk (by rw[he,q])));exact⟨_,_,M,_,f4,A,N,.inl (by simp_all)⟩
     .
      rename_i V
      rw[V]at f;simp only[dh]at f;obtain⟨Y,f⟩:=f;replace h:=gW h;obtain⟨p,h⟩:=h;simp only[af]at p;obtain⟨y,hk,d,G,I⟩:=sO hT ad p.1;have W:=DX p.2;obtain⟨i,z,J,an,ao,hz,aw,bd⟩:=hT.info hk;have ax:z.cells.size=e.size:=by
       have:=congrArg List.length aw;rw[hT.zlen hk,d]at this;simpa using this
      have ay:=gK.length _ _ l;have az:=gK.one _ _ l;have aQ:0+j.length<=maxLen:=by
       have h2:j.length<=j.length*(T.at et).bytes:=bH _ I;simp only[maxLen];omega
      cases hlt:TC 0 j.length with
      |false=>
       rw[hlt]at h;simp only[ac]at h;have h0:j.length=0:=by simpa [TC] using hlt
       refine⟨.emp,.slice Y 0 0,c,st,h,Gv.refl D E U,by simp only[dh];exact⟨Y,rfl⟩,.inl ?_⟩;rw[aK,f,aP,h0];cases a2<;>cases Y<;>simp[Builtin.append_,run_underlying y,sizeOf,typeInfo,J,Builtin.lenOf,Builtin.firstCells,loadCells,loadCellsFrom,storeCells]
      |true=>
       rw[hlt]at h;simp only[aa]at h;have bg:0<j.length:=by simpa [TC] using hlt
       have bi:aj≠[]:=by
        grind [Nat.mul_pos]
       obtain⟨b,aS,rfl,_,hc⟩:=ag.resolve_left bi;obtain⟨v',w',e1,hr,X,L,aA,aF⟩:=aiK hT y J hz an ao (by rw[ax,d]) (by omega) (w:=c.w) (av:=Y) (cp:=m2) (by rw[d];exact ay) az hc bg (by omega) W O;rw[d]at X;obtain⟨id,n',f1,f2,f3,f4⟩:=jD h;obtain⟨M,A,d2,N⟩:=ui D E U f1 f2 f3 G L e1 aj X l aA (fun q=>aF.trans (hT.byte hk (by rw[he,q])));exact⟨_,_,M,_,f4,A,N,.inl (by simp_all)⟩
     .
      rename_i id bn vw V
      rw[V]at f;split at h
      .rename_i e' u xs Z
       rw[<-E]at Z;replace h:=dL h;obtain⟨aG,h⟩:=h;have aG:u=bn:=by simpa using aG
       subst aG;split at h
       .rename_i bD aH
        have br:=jb aH;cases br;rw[ik]at aH;cases aH;simp only[dh]at f;have S:=(f.2.2 _ _ _ Z).2 rfl;obtain⟨_,e0,zs,bt,hL,bF⟩:=D.obj id _ Z;obtain⟨g,cp,hv,p,_⟩:=uu bt;split at h
        .replace h:=gW h;obtain⟨B,h⟩:=h;simp only[af]at B;obtain⟨y,hk,d,G,I⟩:=sO hT ad B.1;have W:=DX B.2;simp only[jy]at S;rw[hv]at S;obtain⟨M,v',A,d2,N⟩:=Ve hT D E U y hk d G I Z hv (ae _) S (m:=m2) l ag (by simp_all) O (fun q=>hT.byte hk (by rw[he,q]));rw[List.take_length]at A;exact⟨_,_,M,_,h,A,N,.inl (by simp_all)⟩
        .rename_i lo J
         replace h:=gW h;obtain⟨B,h⟩:=h;simp only[af,bY,beq_iff_eq]at B;obtain⟨B,rfl,bu⟩:=B;obtain⟨y,hk,d,G,I⟩:=sO hT ad B;have W:=DX bu;simp only[jy]at S;obtain⟨g',m',bG,aU,p1,p2,p3,S⟩:=S;rw[hv]at aU;cases aU;have bz:a.eval s0=.slice g J.toNat cp:=by
          simp_all [Addr.add]
         obtain⟨M,v',A,d2,N⟩:=Ve hT D E U y hk d G I Z hv (k:=J.toNat) (by omega) bz (m:=m2) l ag W O (fun q=>hT.byte hk (by rw[he,q]));exact⟨_,_,M,_,h,A,N,.inl (by rw[aK,aP,d2];rfl)⟩
       .cases h
      .cases h
     .cases h
   .cases h
  .cases h
end
end
section
open Option renaming some → a6, none → a7
open Bool renaming and_eq_true → af, not_eq_true' → aW
open List renaming append_assoc → ah, length_append → ai, map_cons → au, nil_append → aB, drop_of_length_le → aI, map_nil → aX, length_take → aZ, take_of_length_le → bG
open Nat renaming le_refl → ae, eq_of_beq_eq_true → ak, le_trans → aK
open Go.RowKit
section
variable {P:Program} {T:TT} {W0:World} {c:Cx} {R:Type} {r:R} {t:TypeId}
theorem KE {cs vs d:List bZ} {off:Nat} (h:putCells cs off vs=a6 d):off+vs.length<=cs.length/\d=cs.take off++vs++cs.drop (off+vs.length):=by
 unfold putCells at h;replace h:=dL h;simp_all
theorem SY (hT:TOk P T) (hk:(T.at t).known=true) {w:World} {g o:Nat} {d:Array Value} {e:TypeId} (f:w.heap[g]? =a6 (.cells d e (0,0))) {v:Value} (hl:v.cells.size=(T.at t).size) (i:o+v.cells.size<=d.size)
  (j: ∀u∈v.cells.toList,u.oneCell'=true):
  (Instr.storeAt t (.pointer (a6 ⟨g,o,a7⟩)) v).run P w=.ok () (w.setRow g (d.toList.take o++v.cells.toList++d.toList.drop (o+v.cells.size)).toArray):=by
 have l:=run_storeCells_at P g o e v.cells.toList 0 d w f (by simpa using i) j;simp only[Nat.add_zero,Array.length_toList]at l;simp only[Instr.storeAt,Instr.sureAddr,Sem.run_bind,Sem.run_pure,Result.andThen_ok,storeVar,hT.sizeOf hk w,Sem.run_ite];simp_all
theorem axi (hT:TOk P T) (s:c.Ok W0) {dst:Option Nat} {ty:TypeId} {pos} {after} {guard} {st:St} {a:Act} {K:St->Option R} {x y:Operand} (W:c.hp=st.hp) (ao:c.nxt=st.nxt) (av:bQ c st.fr a.tmps.toList)
  (h:Ny T st t (iH st.fr x) (iH st.fr y) K=a6 r): ∃c' aw,K aw=a6 r/\Gv W0 c st c' aw/\(execOp a.eval ⟨dst,.store t x y,ty,pos,after,guard⟩).run P c.w=.ok .skip c'.w:=by
 simp only[Ny]at h;split at h
 .cases h
 rename_i m aF
 replace h:=dL h;obtain⟨hk,h⟩:=h;simp only[af,beq_iff_eq]at hk;obtain⟨hk,ax⟩:=hk;obtain⟨r1,r2⟩:=PN aF (dY av y);have hl:m.length=(a.eval y).cells.size:=by simpa using bQ.length _ _ r1
 have D:=dY av x;have ay: ∀w w',(Instr.storeAt t (a.eval x) (a.eval y)).run P w=.ok () w'->(execOp a.eval ⟨dst,.store t x y,ty,pos,after,guard⟩).run P w=.ok .skip w':=fun w w' hw=>by
  simp_all [execOp]
 split at h
 .rename_i id f ab
  rw[ab]at D;split at h
  .rename_i E cs z
   split at h
   .rename_i bg X
    obtain⟨p1,rfl⟩:=KE X;rw[<-W]at z;simp only[dh]at D;have hv:=D.2.2 _ _ z;obtain⟨hB,us,h3,h4,h5⟩:=s.obj id _ z;have bi:cs.length=us.size:=by simpa using bQ.length _ _ h4
    have G:=SY (o:=f) hT hk h3 (v:=a.eval y) (by rw[<-hl,ax]) (by omega) r2;rw[<-hv]at G;have J:(dV.box E cs).like (c.mu id) (.box E (cs.take f++m++cs.drop (f+m.length))) (c.mu id):=rfl;have M:c.w.heap.size<=(c.w.setRow (c.mu id).blk (us.toList.take f++(a.eval y).cells.toList++us.toList.drop (f+(a.eval y).cells.size)).toArray).heap.size:=by simp
    have N: ∀b,b<c.w.heap.size->(dV.box E cs).blk (c.mu id)≠a6 b->(c.w.setRow (c.mu id).blk (us.toList.take f++(a.eval y).cells.toList++us.toList.drop (f+(a.eval y).cells.size)).toArray).heap[b]? =c.w.heap[b]? :=
     fun b _ ad=>setRow_other _ _ _ _ (fun e=>ad (by simp[dV.blk,e]))
    have O: ∀b,(dV.box E (cs.take f++m++cs.drop (f+m.length))).blk (c.mu id)=a6 b->(dV.box E cs).blk (c.mu id)=a6 b\/c.w.heap.size<=b:=fun b A=>.inl A;have S: ∀(b:Nat) (L:Loop),(dV.box E cs).blk (c.mu id)=a6 b->c.w.heap[b]? =a6 (Obj.loop L)-> ∃L':Loop,(c.w.setRow (c.mu id).blk (us.toList.take f++(a.eval y).cells.toList++us.toList.drop (f+(a.eval y).cells.size)).toArray).heap[b]? =a6 (Obj.loop L'):=fun b L A U=>absurd U ((s.obj id _ z).no_loop (by simp) A);have Y:=Cx.Le.put (w:=c.w.setRow (c.mu id).blk (us.toList.take f++(a.eval y).cells.toList++us.toList.drop (f+(a.eval y).cells.size)).toArray) s z J M N O S;have ag:Below W0.heap.size W0 (c.w.setRow (c.mu id).blk (us.toList.take f++(a.eval y).cells.toList++us.toList.drop (f+(a.eval y).cells.size)).toArray):=
     s.bel.trans ⟨rfl,rfl,rfl,by simp,fun k hk=>setRow_other _ _ _ _ (by omega)⟩
    refine⟨c.put id _ (c.mu id) _,_,h,⟨by simp[Cx.put,W],ao,rfl,rfl,s.put z J ag M N O S ?_,Y⟩,ay _ _ G⟩;refine⟨by simp only[Cx.put,upd_same];exact hB,(us.toList.take f++(a.eval y).cells.toList++us.toList.drop (f+(a.eval y).cells.size)).toArray, ?_, ?_, ?_⟩
    .simp only[Cx.put,upd_same]
     grind [setRow_heap]
    .grind [bQ.append,bQ.take,bQ.drop,bQ.le]
    grind
   .cases h
  .cases h
 .rename_i id aG i f ab
  rw[ab]at D;split at h
  .rename_i e u j I
   rw[<-W]at I;replace h:=dL h;obtain⟨aj,h⟩:=h;have aj:u=aG:=by simpa using aj
   subst aj;replace h:=dL h;obtain⟨V,h⟩:=h;have V:i<j.length:=by simpa [TC] using V
   split at h
   .rename_i cs X
    split at h
    .rename_i x' aH
     simp only[dh]at D;obtain⟨B,n',aJ,q1,q2⟩:=(D.2.2 _ _ _ I).2 rfl;obtain⟨aO,e0,zs,al,U,aP⟩:=s.obj id _ I;rcases al.2 with ⟨Z,e2⟩|⟨g,bn,l,Z,e2,e3,e4,e5,e6,e7⟩
     .omega
     rw[q1]at Z;simp only[Value.slice.injEq,Option.some.injEq,Addr.mk.injEq,and_true]at Z;obtain⟨rfl,rfl,rfl⟩:=Z;obtain⟨d,d1,d2,p,q,d3,d4⟩:=gK.at_ i j zs V U;have aQ:j.getD i e.dflt=j[i]:=by simp[List.getD,V]
     rw[aQ]at X;obtain⟨p1,rfl⟩:=KE X;have hf:=GU (c:=c) e _ _ d2;have br:=bQ.length _ _ hf;have bu:f+m.length<=d.length:=by omega
     have aS:=bQ.append _ _ _ _ (bQ.append _ _ _ _ (bQ.take f _ _ hf) r1) (bQ.drop (f+m.length) _ _ hf);have az:=qJ aH aS;have aU:=fV.length _ _ _ az;have an:l.toList=p++d++q++l.toList.drop (j.length*e.size):=by
      grind [List.take_append_drop]
     have z:l.size=j.length*e.size+(l.toList.drop (j.length*e.size)).length:=by
      have h1:=congrArg List.length an;have h2:=congrArg List.length d3;rw[al.1]at h2
      grind
     have aA:=congrArg List.length d3;rw[al.1]at aA;simp only[ai]at aA;have G:=SY (o:=i*e.size+f) hT hk e3 (v:=a.eval y) (by rw[<-hl,ax]) (by omega) r2;rw[<-q2]at G;have aV:l.toList.take (i*e.size+f)++(a.eval y).cells.toList++l.toList.drop (i*e.size+f+(a.eval y).cells.size)=p++(d.take f++(a.eval y).cells.toList++d.drop (f+m.length))++q++l.toList.drop (j.length*e.size):=by
      have t1:l.toList.take (i*e.size+f)=p++d.take f:=by
       rw[an,ah,ah,List.take_append,bG (by omega),d4,Nat.add_sub_cancel_left,List.take_append_of_le_length (by omega)]
      have t2:l.toList.drop (i*e.size+f+(a.eval y).cells.size)=d.drop (f+m.length)++q++l.toList.drop (j.length*e.size):=by
       conv=>lhs;rw[an]
       rw[ah,ah,List.drop_append,aI (by omega),aB,d4,List.drop_append,List.drop_append];have z1:i*e.size+f+(a.eval y).cells.size-i*e.size=f+m.length:=by omega
       have z2:f+m.length-d.length=0:=by omega
       rw[z1,z2];simp
      rw[t1,t2];simp
     rw[aV]at G;have aY:=gK.set x' (d.take f++(a.eval y).cells.toList++d.drop (f+m.length)) aU az i j p d q V (by grind) d4 d1;generalize d.take f++(a.eval y).cells.toList++d.drop (f+m.length)=d' at*;have J:(dV.arr e u j).like (c.mu id) (.arr e u (iR j i x')) (c.mu id):=⟨ae _,fun _=>⟨rfl,rfl⟩⟩;have bd:(dV.arr e u j).blk (c.mu id)=a6 B:=by simp[dV.blk,q1,Value.ownBlock]
     have M:c.w.heap.size<=(c.w.setRow B (p++d'++q++l.toList.drop (j.length*e.size)).toArray).heap.size:=by simp
     have N: ∀b,b<c.w.heap.size->(dV.arr e u j).blk (c.mu id)≠a6 b->(c.w.setRow B (p++d'++q++l.toList.drop (j.length*e.size)).toArray).heap[b]? =c.w.heap[b]? :=
      fun b _ ad=>setRow_other _ _ _ _ (fun e=>ad (by rw[bd,e]))
     have O: ∀b,(dV.arr e u (iR j i x')).blk (c.mu id)=a6 b->(dV.arr e u j).blk (c.mu id)=a6 b\/c.w.heap.size<=b:=fun b A=>.inl A;have S: ∀(b:Nat) (L:Loop),(dV.arr e u j).blk (c.mu id)=a6 b->c.w.heap[b]? =a6 (Obj.loop L)-> ∃L':Loop,(c.w.setRow B (p++d'++q++l.toList.drop (j.length*e.size)).toArray).heap[b]? =a6 (Obj.loop L'):=fun b L A U=>absurd U ((s.obj id _ I).no_loop (by simp) A);have Y:=Cx.Le.put (w:=c.w.setRow B (p++d'++q++l.toList.drop (j.length*e.size)).toArray) s I J M N O S;have ag:Below W0.heap.size W0 (c.w.setRow B (p++d'++q++l.toList.drop (j.length*e.size)).toArray):=
      s.bel.trans ⟨rfl,rfl,rfl,by simp,fun k hk=>setRow_other _ _ _ _ (by omega)⟩
     refine⟨c.put id _ (c.mu id) _,_,h,⟨by simp[Cx.put,W],ao,rfl,rfl,s.put I J ag M N O S ?_,Y⟩,ay _ _ G⟩;refine⟨aO,e0,p++d'++q, ?_,gK.mono (fV.mono Y.free e) _ _ aY,aP⟩;have bf:(p++d'++q).length=j.length*e.size:=by
      grind
     simp only[Cx.put,upd_same,iR,List.length_set];refine⟨bf,.inr ⟨B,aJ,_,q1,e2,setRow_heap c.w _ l _ e0 _ e3,e4,e5, ?_, ?_⟩⟩
     all_goals grind
    .cases h
   .cases h
  .cases h
 .cases h
theorem KD {w:World} {B:Nat} {e:TypeId} {size n:Nat} {v d:Value} {i:List Value} (h:w.ownsRow B e size v n i) {hi:Int} (D:0<=hi) (E:hi<=n) (s:jy size v (a6 (0,hi)) d):
  w.ownsRow B e size d hi.toNat (i.take (hi.toNat*size))/\ ∀b,d.ownBlock=a6 b->v.ownBlock=a6 b:=by
 obtain⟨a,m,cp,j,_,_,G,u⟩:=s;have hk:hi.toNat<=n:=by omega
 have q:(i.take (hi.toNat*size)).length=hi.toNat*size:=by
  rw[aZ,h.1];simp_all
 rcases h.2 with ⟨f,l⟩|⟨g,I,x,f,l,y,J,z,A,K⟩
 .rw[j]at f;cases f;subst l;have:hi.toNat=0:=by omega
  have o:d=.slice a7 0 0:=by rw[u,this];rfl
  subst o;refine⟨⟨q,.inl ⟨rfl,this⟩⟩,fun b p=>by cases p⟩
 .rw[j]at f;cases f;have o:d=.slice (a6 ⟨g,0,a7⟩) hi.toNat cp:=by
   grind [Addr.add]
  subst o;subst j;refine⟨⟨q,.inr ⟨g,cp,x,rfl,l,y,by omega,z,A, ?_⟩⟩,fun b p=>p⟩
  grind
theorem aBp {st:St} {c':Cx} {l:St} (hd:Gv W0 c st c' l) {id off i:Nat} {m:TypeId} {cs:List bZ} {e:Ty} {w:Nat} {xs:List e.den} {hi:Int} (al:id≠i)
  (u:dW l.hp id=a6 (.box m cs)) (g:dW l.hp i=a6 (.arr e w xs)) (an:cs.getD off .undef=.slc i w (a6 (0,hi))):
  ∃v,Gv W0 c st v {l with hp:=jB (jB l.hp i (.arr e (w+1) (xs.take hi.toNat))) id (.box m (cs.set off (.slc i (w+1) a7)))}/\v.w=c'.w:=by
 have o:=hd.ok;rw[<-hd.hp]at u g;obtain⟨hB,us,h3,x,I⟩:=o.obj id _ u;have ao:cs.length=us.toList.length:=bQ.length _ _ x;have av:off<cs.length:=by
  grind
 have aw:off<us.toList.length:=by omega
 have J:dh c' (.slc i w (a6 (0,hi))) us.toList[off]:=by
  have:=bQ.getD x off;simp_all
 obtain⟨K,M,N,y,d,O⟩:=o.obj i _ g;have p:=J;simp only[dh]at p;have z:=(p.2.2 _ _ _ g).2 rfl;have⟨S,U⟩:0<=hi/\hi<=bK xs:=by
  obtain⟨a1,n1,f,A,_,V,W,_⟩:=z;obtain⟨a2,c2,X,_⟩:=uu y;rw[X]at A;cases A;exact⟨V,W⟩
 obtain⟨ax,B⟩:=KD y S U z;have hk:(dV.arr e w xs).like (c'.mu i) (.arr e (w+1) (xs.take hi.toNat)) ⟨(c'.mu i).blk,us.toList[off]⟩:=⟨by omega,fun e=>by omega⟩;have D:=Cx.Le.put (w:=c'.w) o g hk (ae _) (fun _ _ _=>rfl) (fun b j=>.inl (B b j)) (fun b L _ d=>⟨L,d⟩);have q:=Cx.Ok.put (w:=c'.w) o g hk o.bel (ae _) (fun _ _ _=>rfl) (fun b j=>.inl (B b j)) (fun b L _ d=>⟨L,d⟩) (by
  refine⟨K,M,N.take (hi.toNat*e.size), ?_,gK.take _ _ _ (gK.mono (fV.mono D.free e) _ _ d),O⟩;simp_all [bK,Cx.put,upd_same])
 have ay:dh (c'.put i (dV.arr e (w+1) (List.take hi.toNat xs)) ⟨(c'.mu i).blk,us.toList[off]⟩ c'.w) (.slc i (w+1) a7) us.toList[off]:=by
  simp only[dh];refine⟨p.1,.inl ⟨_,Cx.put_get g⟩,fun t' u' az Y=> ?_⟩;rw[Cx.put_get g]at Y;simp_all [jy,Cx.put,upd_same]
 have E:dW (c'.put i (dV.arr e (w+1) (List.take hi.toNat xs)) ⟨(c'.mu i).blk,us.toList[off]⟩ c'.w).hp id=a6 (.box m cs):=by
  simp only[Cx.put,jJ]
  grind
 have aA:(c'.put i (dV.arr e (w+1) (List.take hi.toNat xs)) ⟨(c'.mu i).blk,us.toList[off]⟩ c'.w).mu id=c'.mu id:=by
  simp_all [Cx.put,upd_ne]
 generalize s:c'.put i (dV.arr e (w+1) (List.take hi.toNat xs)) ⟨(c'.mu i).blk,us.toList[off]⟩ c'.w=f at*;have Z:f.w=c'.w:=by rw[<-s];rfl
 have ab:f.hp=jB c'.hp i (.arr e (w+1) (xs.take hi.toNat)):=by rw[<-s];rfl
 have ad:f.nxt=c'.nxt:=by rw[<-s];rfl
 have G:(dV.box m cs).like (f.mu id) (.box m (cs.set off (.slc i (w+1) a7))) (f.mu id):=rfl;have ag:=Cx.Le.put (w:=f.w) q E G (ae _) (fun _ _ _=>rfl) (fun b j=>.inl j) (fun b L _ d=>⟨L,d⟩);have aj:=Cx.Ok.put (w:=f.w) q E G q.bel (ae _) (fun _ _ _=>rfl) (fun b j=>.inl j) (fun b L _ d=>⟨L,d⟩) (by
  refine⟨by simp_all [Cx.put,upd_same],us,by simp_all [Cx.put,upd_same], ?_,I⟩
  grind [bQ.le,bQ.setL])
 refine⟨_,⟨?_, ?_,hd.fr,hd.stk,aj,(hd.le.trans D).trans ag⟩,Z⟩
 .simp only[Cx.put];rw[ab,hd.hp]
 .show f.nxt=l.nxt;rw[ad,hd.nxt]
theorem aq7 {g:iw} {st:St} {x y:bZ} {K:St->Option R} {c':Cx} {f:St} (hd:Gv W0 c st c' f) (h:agc g f x y K=a6 r): ∃d e,K e=a6 r/\Gv W0 c st d e/\d.w=c'.w:=by
 have same:K f=a6 r-> ∃d e,K e=a6 r/\Gv W0 c st d e/\d.w=c'.w:=fun h=>⟨c',f,h,hd,rfl⟩;unfold agc at h;split at h
 .split at h
  .split at h
   .rw[cond_eq_ite]at h;split at h
    .rename_i i
     simp only[af,aW]at i;split at h
     .rename_i l m
      split at h
      .rename_i o
       rw[cond_eq_ite]at h;split at h
       .rename_i j
        simp only[af,beq_iff_eq]at j
        grind [ak,aBp]
       .exact same h
      .exact same h
     .exact same h
    .exact same h
   .exact same h
  .exact same h
 .exact same h
theorem aCp (hT:TOk P T) (l:c.Ok W0) {cl:Bool} {call:gX R} {o:Oper} {st:St} {a:Act} {K:bZ->St->Option R} {x y:Operand} (m:c.hp=st.hp) (p:c.nxt=st.nxt) (q:bQ c st.fr a.tmps.toList)
  (d:o.op=.store t x y) (h:fF T cl call o st K=a6 r):KW P W0 c st o a K r:=by
 obtain⟨e,E,f,g,i,j⟩:=o;simp only at d;subst d;simp only[fF]at h;obtain⟨G,I,s,hd,u⟩:=axi (dst:=e) (ty:=f) (pos:=g) (after:=i) (guard:=j) hT l m p q h;obtain⟨v,z,A,B,D⟩:=aq7 hd s;exact⟨_,undef,v,z,A,B,by simp[dh],.inr ⟨by rw[D];exact u,rfl⟩⟩
theorem Zh (w:World) (t d ty:TypeId) (B size n:Nat) (v:Value) (f:List Value) (e:TypeId) (h:w.ownsRow B e size v n f) (i:P.underlying ty=a6 (.pointer d)):
  ∃u w',(Builtin.unsafeSliceData_ #[t] ty #[v]).run P w=.ok u w'/\Below w.heap.size w w'/\u.oneCell'=true/\(∃p,u=.pointer p)/\ ∀a m cp,v=.slice a m cp->m≠0->u=.pointer a:=by
 rcases h.2 with ⟨rfl,rfl⟩|⟨g,j,l,rfl,_,o,s,_⟩
 .exact⟨_,w,Lib.run_unsafeSliceData_nil w _ _ 0 0,Below.refl _ _,rfl,⟨_,rfl⟩,fun a m cp h q=>by simp_all⟩
 .by_cases hc:j=0
  .subst hc;refine⟨_,_,Lib.run_unsafeSliceData_zero w _ _ d i ⟨g,0,a7⟩ n (e,l.size) (by simp[World.shape?,o]),pV _ _,rfl,⟨_,rfl⟩,fun a m cp h q=> ?_⟩;cases h;omega
  .exact⟨_,w,Lib.run_unsafeSliceData_row w _ _ _ _ _ hc,Below.refl _ _,rfl,⟨_,rfl⟩,fun a m cp h _=>by cases h;rfl⟩
theorem ag5 (hT:TOk P T) (q:c.Ok W0) {cl:Bool} {call:gX R} {o:Oper} {st:St} {a:Act} {K:bZ->St->Option R} {args:Array Operand} {i:Array TypeId} (s:c.hp=st.hp) (E:c.nxt=st.nxt) (G:bQ c st.fr a.tmps.toList)
  (x:o.op=.call {callee:=.builtin .unsafeSliceData,args:=args,argTypes:=i}) (h:fF T cl call o st K=a6 r):KW P W0 c st o a K r:=by
 obtain⟨I,op,j,J,L,M⟩:=o;simp only at x;subst x;simp only[fF,lJ]at h;split at h<;>try (cases h;done)
 all_goals try (rename_i y _;cases y;done)
 rename_i id aj y f
 split at h<;>try (cases h;done)
 rename_i t z
 split at h<;>try (cases h;done)
 rename_i e v N d
 rw[cond_eq_ite]at h;split at h
 .rename_i A
  simp only[af,beq_iff_eq]at A;obtain⟨rfl,an,O⟩:=A;obtain⟨i⟩:=i;simp only at z;subst z;obtain⟨S⟩:=args
  match S with
  |[]=>simp at f
  |_::_::_=>simp at f
  |[l]=>
   simp only[au,aX,List.cons.injEq,and_true]at f;have m:=dY G l;rw[f]at m;simp only[dh]at m;rw[<-s]at d;have B:=(m.2.2 _ _ _ d).2 rfl;simp only[jy]at B;obtain⟨_,U,V,W,hL,ao⟩:=q.obj id _ d;obtain⟨X,Y⟩:=hT.isPtr O;obtain⟨u,p,Z,D,ab,hp,ad⟩:=Zh c.w t X j W0.heap.size e.size N.length (c.mu id).v V U W Y;refine⟨_,u,c.at_ p,st,h,⟨s,E,rfl,rfl,q.ext D,Cx.Le.ext D⟩, ?_,.inl ?_⟩
   .simp only[dh];refine⟨ab,.inl ⟨_,d⟩,fun t' u' ag g=> ?_⟩;have g:dW c.hp id=a6 (.arr t' u' ag):=g;rw[d]at g;cases g;exact⟨ae _,fun _=>⟨hp,ad⟩⟩
   .have:(execOp a.eval ⟨I,.call {callee:=.builtin .unsafeSliceData,args:=[l].toArray,argTypes:=[t].toArray},j,J,L,M⟩).run P c.w=
      ((Builtin.unsafeSliceData_ #[t] j #[a.eval l]).run P c.w).andThen fun v p=>.ok (.value v) p:=by
     simp[execOp,resolve,invoke,builtin,Sem.run_bind]
    rw[this,B,Z];rfl
 .cases h
theorem aAY {w:World} {fr:Nat->Prop} (xs:List Int) (d:List Value) (h:gK (fV w fr (.int .u8)) 1 xs d):d=xs.map (.int .u8):=ET xs d h
theorem OY (w:World): ∀(xs:List Int) (a:Addr) (d:ByteArray),(∀j x,xs[j]? =a6 x->w.cell? (a.add j)=a6 (.int .u8 x))->(loadBytes a d xs.length).run P w=.ok (xs.foldl (fun r n=>r.push (UInt8.ofNat n.toNat)) d) w
 |[],a,d,_=>by simp[loadBytes]
 |x::xs,a,d,h=>by
  have f:w.cell? a=a6 (.int .u8 x):=by
   have:=h 0 x rfl
   assumption
  have g:=OY w xs (a.add 1) (d.push (UInt8.ofNat x.toNat)) fun j y e=>by
   have:=h (j+1) y (by simpa using e)
   grind [Addr.add]
  simp_all [loadBytes]
theorem XU {d it ty e:TypeId} (hp:P.underlying d=a6 (.pointer e)) (i:P.cellsOf e=1) (w:World) (g cells:Nat) (l:w.shape? g=a6 (e,cells)) (xs:List Int) (m:xs≠[]) (D:xs.length<=cells) (E:xs.length<=9223372036854775807)
  (o: ∀j x,xs[j]? =a6 x->w.cell? ((⟨g,0,a7⟩:Addr).add j)=a6 (.int .u8 x)):
  (Builtin.unsafeString_ #[d,it] ty #[.pointer (a6 ⟨g,0,a7⟩),.int .i64 xs.length]).run P w=.ok (.string ⟨(ofBytes xs).toArray⟩) (w.freeze ⟨g,0,a7⟩ xs.length):=by
 have p:xs.length≠0:=by simpa using m
 have q:=OY (P:=P) w xs ⟨g,0,a7⟩ .empty o;have u:=Lib.liesAt_bytes (P:=P) i (cells/P.cellsOf e) xs.length (by simp_all);have v: ¬(9223372036854775807:Int)<(xs.length:Int):=by omega
 have y:Builtin.unsafeString_ #[d,it] ty #[.pointer (a6 ⟨g,0,a7⟩),.int .i64 xs.length]=
   (do
    let n<-asInt (.int .i64 xs.length)
    if n<0 then runtimePanic (.error "unsafe.String: len out of range")
    if n>IntKind.i64.max then unsupported (.unsafePointer "String: a length above the largest int")
    if n=0 then pure (.string .empty)
    else if<-variablesAt ⟨g,0,a7⟩ (<-elemOf d) n.toNat then do
     let s<-loadBytes ⟨g,0,a7⟩ .empty n.toNat
     freeze ⟨g,0,a7⟩ n.toNat
     pure (.string s)
    else unsupported (.unsafePointer "String: not so many bytes at ptr")):=rfl
 rw[y];have z:IntKind.i64.max=9223372036854775807:=rfl;have A: ¬(xs.length:Int)<0:=by omega
 have f:=Qb xs [];have B:(⟨([]:List UInt8).toArray⟩:ByteArray)=.empty:=rfl;rw[B]at f;simp[asInt,asIntOf,z,v,A,p,variablesAt,l,elemOf,run_underlying hp,u,q];exact f
theorem ag2 (d:c.Ok W0) {st:St} (u:c.hp=st.hp) (x:c.nxt=st.nxt) {id f:Nat} {e:Ty} {xs:List e.den} (i:dW c.hp id=a6 (.arr e f xs)) {w':World} (j:c.w.heap.size<=w'.heap.size)
  (m: ∀b,(c.mu id).v.ownBlock≠a6 b->w'.heap[b]? =c.w.heap[b]?) (l:w'.os=c.w.os/\w'.tape=c.w.tape/\w'.output=c.w.output):
  ∃c',Gv W0 c st c' {st with hp:=jB st.hp id .dead}/\c'.w=w':=by
 have o:(dV.arr e f xs).like (c.mu id) .dead (c.mu id):=trivial;have p: ∀(b:Nat) (L:Loop),(dV.arr e f xs).blk (c.mu id)=a6 b->c.w.heap[b]? =a6 (Obj.loop L)-> ∃y:Loop,w'.heap[b]? =a6 (Obj.loop y):=fun b L g z=>absurd z ((d.obj id _ i).no_loop (by simp) g);have q: ∀b,dV.dead.blk (c.mu id)=a6 b->(dV.arr e f xs).blk (c.mu id)=a6 b\/c.w.heap.size<=b:=fun b g=>by cases g
 have s: ∀b,b<c.w.heap.size->(dV.arr e f xs).blk (c.mu id)≠a6 b->w'.heap[b]? =c.w.heap[b]? :=fun b _ A=>m b A;have B:Below W0.heap.size W0 w':=by
  refine⟨l.1.trans d.bel.os,l.2.1.trans d.bel.tape,l.2.2.trans d.bel.output,aK d.bel.size j,fun b g=>(m b fun h=> ?_).trans (d.bel.block b g)⟩;have:=((d.obj id _ i).lt (b:=b) h).1;omega
 have D:=Cx.Le.put (w:=w') d i o j s q p;exact⟨c.put id .dead (c.mu id) w',⟨by simp[Cx.put,u],x,rfl,rfl,d.put i o B j s q p trivial,D⟩,rfl⟩
theorem WE (hT:TOk P T) (y:c.Ok W0) {cl:Bool} {call:gX R} {o:Oper} {st:St} {a:Act} {K:bZ->St->Option R} {args:Array Operand} {z:Array TypeId} (A:c.hp=st.hp) (U:c.nxt=st.nxt) (V:bQ c st.fr a.tmps.toList)
  (W:o.op=.call {callee:=.builtin .unsafeString,args:=args,argTypes:=z}) (h:fF T cl call o st K=a6 r):KW P W0 c st o a K r:=by
 obtain⟨an,op,l,ao,av,aw⟩:=o;simp only at W;subst W;simp only[fF,lJ]at h;split at h<;>try (cases h;done)
 all_goals try (rename_i u _;cases u;done)
 rename_i id aU n u f
 split at h<;>try (cases h;done)
 rename_i B m X
 split at h<;>try (cases h;done)
 rename_i v d q
 rw[cond_eq_ite]at h;split at h
 .rename_i Y
  simp only[af,beq_iff_eq]at Y;obtain⟨rfl,ax⟩:=Y;replace h:=gW h;obtain⟨D,h⟩:=h;have D:n=(d.length:Int):=by simpa [bY,bK] using D
  subst D;obtain⟨z⟩:=z;simp only at X;subst X;obtain⟨al⟩:=args
  match al with
  |[]=>simp at f
  |[_]=>simp at f
  |_::_::_::_=>simp at f
  |[E,G]=>
   simp only[au,aX,List.cons.injEq,and_true]at f;have I:=dY V E;have i:=dY V G;rw[f.1]at I;rw[f.2]at i;simp only[dh]at I i;have i:=i.int_inv;rw[<-A]at q;obtain⟨hp,ay⟩:=(I.2.2 _ _ _ q).2 rfl;obtain⟨_,e0,Z,ab,hL,J⟩:=y.obj id _ q;have J:=J rfl;obtain⟨az,aA⟩:=hT.isBytes ax;have ad:(execOp a.eval ⟨an,.call {callee:=.builtin .unsafeString,args:=[E,G].toArray,argTypes:=[B,m].toArray},l,ao,av,aw⟩).run P c.w=
     ((Builtin.unsafeString_ #[B,m] l #[a.eval E,a.eval G]).run P c.w).andThen fun v L=>.ok (.value v) L:=by
    simp[execOp,resolve,invoke,builtin,Sem.run_bind]
   have aF:Z=d.map (.int .u8):=ET d Z hL;by_cases hx:d=[]
   .subst hx;obtain⟨p,hp⟩:=hp;obtain⟨M,N,O⟩:=ag2 y A U q (w':=c.w) (ae _) (fun _ _=>rfl) ⟨rfl,rfl,rfl⟩;refine⟨_,.string .empty,M,_,h,N, ?_,.inl ?_⟩
    .simp only[dh];exact VD.str_mk
    .rw[ad,hp,i];have:=Lib.run_unsafeString_none (P:=P) c.w B m l p;simp only[List.length_nil,Int.natCast_zero]at this ⊢;rw[this,O];rfl
   .have s:d.length≠0:=by simpa using hx
    rcases ab.2 with ⟨_,h0⟩|⟨g,aG,ag,S,aV,hg,aY,aH,aj,bd⟩
    .exact absurd h0 s
    .have hp:=ay _ _ _ S s;have aJ: ∀b,(c.mu id).v.ownBlock≠a6 b->(c.w.freeze ⟨g,0,a7⟩ d.length).heap[b]? =c.w.heap[b]? :=fun b u=>by
      have aO:g≠b:=fun e=>u (by rw[S,<-e];rfl);unfold World.freeze;rw[aq s];simp only[Array.getElem?_modify];rw[aq aO]
     have aP:(c.w.freeze ⟨g,0,a7⟩ d.length).heap.size=c.w.heap.size:=by
      unfold World.freeze;rw[aq s];simp
     have aQ:(c.w.freeze ⟨g,0,a7⟩ d.length).os=c.w.os/\(c.w.freeze ⟨g,0,a7⟩ d.length).tape=c.w.tape/\(c.w.freeze ⟨g,0,a7⟩ d.length).output=c.w.output:=by
      unfold World.freeze;rw[aq s];exact⟨rfl,rfl,rfl⟩
     obtain⟨M,N,O⟩:=ag2 y A U q (w':=c.w.freeze ⟨g,0,a7⟩ d.length) (Nat.le_of_eq aP.symm) aJ aQ;refine⟨_,.string ⟨(ofBytes d).toArray⟩,M,_,h,N, ?_,.inl ?_⟩
     .simp only[dh];exact VD.str_mk
     .rw[ad,hp,i];have aS: ∀j x,d[j]? =a6 x->c.w.cell? ((⟨g,0,a7⟩:Addr).add j)=a6 (.int .u8 x):=fun j x hj=>by
       have:=ab.cells (g:=g) (by rw[S];rfl) j (.int .u8 x) (by rw[aF];simp[hj]);exact this
      have aj:ag.size=aG:=by simpa [Ty.size] using aj
      rw[XU (ty:=l) (it:=m) az aA c.w g ag.size (by rw[<-J];simp[World.shape?,hg]) d hx (by omega) (by unfold maxLen at aH;omega) aS,O];rfl
 .cases h
end
end
section
open Option renaming some → a6, none → a7
open Bool renaming and_eq_true → af
open List renaming map_cons → au, cons_append → aH
open Go.RowKit
theorem VX {d l:IntKind} {a:Int}: ∀(f:List MapEntry) (g:List (Int×Int)) (i:Nat),f.map (fun e=>(e.key,e.val))=g.map (fun p=>(Value.int d p.1,Value.int l p.2))->
  (Hm g a=a7/\Instr.findNow (.int d) (.int d a) f i=a6 a7/\ ∀b cl,(f++[(⟨.int d a,.int l b,cl⟩:MapEntry)]).map (fun e=>(e.key,e.val))=(xe g a b).map (fun p=>(Value.int d p.1,Value.int l p.2)))\/
  ∃v j,Hm g a=a6 v/\Instr.findNow (.int d) (.int d a) f i=a6 (a6 (i+j,.int l v))/\(∃o,f[j]? =a6 o/\o.key=.int d a)/\
   ∀b,(f.modify j (fun e=>{e with key:=.int d a,val:=.int l b})).map (fun e=>(e.key,e.val))=(xe g a b).map (fun p=>(Value.int d p.1,Value.int l p.2))
 |[],[],i,_=>.inl ⟨rfl,rfl,fun b cl=>rfl⟩
 |[],_::_,_,h=>by simp at h
 |_::_,[],_,h=>by simp at h
 |e::f,(k,v)::g,i,h=>by
  simp only[au,List.cons.injEq,Prod.mk.injEq]at h;obtain⟨⟨s,x⟩,u⟩:=h;have q:Instr.sameNow (.int d) (.int d a) e.key=a6 (a==k):=by rw[s];simp[Instr.sameNow]
  by_cases hak:a=k
  .subst hak;refine .inr ⟨v,0,by simp[Hm,bY], ?_,⟨e,rfl,s⟩,fun b=> ?_⟩
   .simp[Instr.findNow,q,x]
   .simp[xe,bY,u]
  .have m:(a==k)=false:=by simpa using hak
   rw[m]at q;rcases VX (a:=a) f g (i+1) u with ⟨g1,g2,g3⟩|⟨y,j,g1,g2,⟨o,g3,g4⟩,g5⟩
   .refine .inl ⟨by simp[Hm,bY,m,g1],by simp[Instr.findNow,q,g2],fun b cl=> ?_⟩;have:=g3 b cl;simp only[xe,bY,m,ac,aH,au,List.cons.injEq,Prod.mk.injEq];simp_all
   .refine .inr ⟨y,j+1,by simp[Hm,bY,m,g1], ?_,⟨o,by simpa using g3,g4⟩,fun b=> ?_⟩
    .grind [Instr.findNow]
    .have:=g5 b;simp only[xe,bY,m,ac,List.modify_succ_cons,au,List.cons.injEq,Prod.mk.injEq];simp_all
section
variable {P:Program} {T:TT} {W0:World} {c:Cx} {R:Type} {r:R} {t:TypeId}
theorem Xc (hT:TOk P T) {a b:IntKind} (h:T.mapOf t=a6 (a,b)): ∃k e,P.underlying t=a6 (.map k e)/\P.underlying k=a6 (.int a)/\ ∃i,P.info? e=a6 i/\i.zero=a6 (.int b 0):=by
 unfold TT.mapOf at h;replace h:=dL h;obtain⟨hk,h⟩:=h;split at h
 .rename_i k e g
  replace h:=dL h;obtain⟨d,h⟩:=h;simp only[af]at d;split at h
  .rename_i m o j l
   cases h;obtain⟨i,z,f,_⟩:=hT.info d.2;exact⟨k,e,hT.map hk g,hT.int d.1 j,i,f,hT.zero_int d.2 l f⟩
  .cases h
 .cases h
theorem aIx (g:c.Ok W0) {st:St} (i:c.hp=st.hp) (h2:c.nxt=st.nxt) {id n':Nat} (m:dW st.hp id=a7) (p:st.nxt<=id) (u:st.nxt<=n') (d e:IntKind):
  ∃c',Gv W0 c st c' {st with hp:=(id,.mp d e [])::st.hp,nxt:=n'}/\c'.w=c.w.alloc (.map #[] 0)/\dh c' (.mpv id) (.map (a6 c.w.heap.size)):=by
 have hk:=Ee i h2 m p;have f:=pV c.w (.map #[] 0);have j: ∀b,dV.blk (.mp d e []) ⟨c.w.heap.size,undef⟩=a6 b->c.w.heap.size<=b:=fun b f=>by
  simp_all [dV.blk]
 have q:=Cx.Le.push (o:=.mp d e []) (l:=⟨c.w.heap.size,undef⟩) (nxt:=n') (w:=c.w.alloc (.map #[] 0)) hk (by omega) f.size f.block j;have s:(c.push id (.mp d e []) ⟨c.w.heap.size,undef⟩ n' (c.w.alloc (.map #[] 0))).ORel W0.heap.size id (.mp d e []):=by
  refine⟨by simp[Cx.push,upd_same];exact g.size,#[],0, ?_,rfl⟩;simp only[Cx.push,upd_same];exact heap_alloc_new c.w _
 refine⟨_,⟨?_,rfl,rfl,rfl,g.push hk (by omega) f j s,q⟩,rfl, ?_⟩
 .simp[Cx.push,i]
 .simp only[dh];refine⟨rfl,.inl ⟨.mp d e [],by simp[Cx.push,fD]⟩,fun _ _ _ _=>by simp[Cx.push,upd_same]⟩
theorem arw (hT:TOk P T) (e:c.Ok W0) {cl:Bool} {call:gX R} {o:Oper} {st:St} {a:Act} {K:bZ->St->Option R} {f:Option Operand} (g:c.hp=st.hp) (i:c.nxt=st.nxt) (d:o.op=.makeMap t f)
  (h:fF T cl call o st K=a6 r):KW P W0 c st o a K r:=by
 obtain⟨y,z,A,B,D,E⟩:=o;simp only at d;subst d;simp only[fF]at h;split at h
 .rename_i j l G
  obtain⟨id,I,m,p,q,u⟩:=jD h;obtain⟨J,v,L,x⟩:=aIx e g i m p q j l;refine uh (s:=Instr.makeMap t a7) rfl u v x (by simp_all [Instr.makeMap])
 .cases h
theorem axh (hT:TOk P T) (f:c.Ok W0) {cl:Bool} {call:gX R} {o:Oper} {st:St} {a:Act} {K:bZ->St->Option R} {x y:Operand} {ok:Bool} (g:c.hp=st.hp) (q:c.nxt=st.nxt) (z:bQ c st.fr a.tmps.toList) (A:o.op=.lookup t x y ok)
  (h:fF T cl call o st K=a6 r):KW P W0 c st o a K r:=by
 obtain⟨Z,op,ty,ab,ad,ae⟩:=o;simp only at A;subst A;simp only[fF]at h;split at h
 .rename_i kk vk id L M
  split at h
  .rename_i ag d N B n l O
   replace h:=dL h;obtain⟨hk,h⟩:=h;simp only[af,decide_eq_true_eq]at hk;obtain⟨rfl,rfl,rfl⟩:=hk;obtain⟨kt,S,D,e,i,U,V⟩:=Xc hT L;have m:=dY z x;rw[M]at m;simp only[dh]at m;rw[<-g]at l;have E:=m.2.2 _ _ _ l;obtain⟨hB,W,ah,G,X⟩:=f.obj id _ l;have p:=dY z y;rw[O]at p;simp only[dh]at p;have I:=p.int_inv;have Y:(zeroValue S).run P c.w=.ok (.int d 0) c.w:=by simp[zeroValue,typeInfo,U,V]
   have J:MapKept.IsKey (.int B) (.int B n):=rfl;rcases VX (a:=n) W.toList N 0 X with ⟨g1,g2,_⟩|⟨v,j,g1,g2,_,_⟩
   .simp only[nV,ax0,g1]at h;refine uh (s:=Instr.lookup t (a.eval x) (a.eval y) ok) (u:=if ok then .tuple #[.int d 0,.bool false]else .int d 0) rfl h (Gv.refl f g q) ?_ ?_
    .cases ok
     .simp_all [dh,VD.int_mk]
     .simp only[aa,dh,if_true];exact⟨_,rfl,by simp_all [bQ,dh,VD.int_mk,VD.bool_mk]⟩
    .rw[E,I];simp[Instr.lookup,run_underlying D,MapKept.run_getObj_map G,MapKept.run_checkKey e J,MapKept.run_findKey e g2,Y,Result.andThen]
   .simp only[nV,ax0,g1]at h;refine uh (s:=Instr.lookup t (a.eval x) (a.eval y) ok) (u:=if ok then .tuple #[.int d v,.bool true]else .int d v) rfl h (Gv.refl f g q) ?_ ?_
    .cases ok
     .simp_all [dh,VD.int_mk]
     .simp only[aa,dh,if_true];exact⟨_,rfl,by simp_all [bQ,dh,VD.int_mk,VD.bool_mk]⟩
    .rw[E,I];simp[Instr.lookup,run_underlying D,MapKept.run_getObj_map G,MapKept.run_checkKey e J,MapKept.run_findKey e g2,Result.andThen]
  .cases h
 .cases h
theorem ag4 (hT:TOk P T) (u:c.Ok W0) {cl:Bool} {call:gX R} {o:Oper} {st:St} {a:Act} {K:bZ->St->Option R} {x y z:Operand} (S:c.hp=st.hp) (ae:c.nxt=st.nxt) (G:bQ c st.fr a.tmps.toList) (U:o.op=.mapUpdate t x y z)
  (h:fF T cl call o st K=a6 r):KW P W0 c st o a K r:=by
 obtain⟨ag,op,ty,ah,ai,aj⟩:=o;simp only at U;subst U;simp only[fF]at h;split at h
 .rename_i kk vk id hm ak
  split at h
  .rename_i az aA q f n m b s hn A
   replace h:=dL h;obtain⟨hk,h⟩:=h;simp only[af,decide_eq_true_eq]at hk;obtain⟨rfl,rfl,rfl,rfl⟩:=hk;obtain⟨kt,et,V,D,i,u3,u4⟩:=Xc hT hm;have I:=dY G x;rw[ak]at I;simp only[dh]at I;rw[<-S]at s;have hv:=I.2.2 _ _ _ s;obtain⟨hB,E,J,B,h4⟩:=u.obj id _ s;have M:=dY G y;rw[hn]at M;simp only[dh]at M;have al:=M.int_inv;have N:=dY G z;rw[A]at N;simp only[dh]at N;have an:=N.int_inv;have O:MapKept.IsKey (.int f) (.int f n):=rfl;have W: ∃g l,(Instr.mapUpdate t (a.eval x) (a.eval y) (a.eval z)).run P c.w=.ok () {c.w with heap:=c.w.heap.setIfInBounds (c.mu id).blk (.map g l)}/\g.toList.map (fun e=>(e.key,e.val))=(xe q n b).map (fun p=>(Value.int f p.1,Value.int m p.2)):=by
    rw[hv,al,an];rcases VX (a:=n) E.toList q 0 h4 with ⟨g1,g2,g3⟩|⟨v,j,g1,g2,⟨e0,g3,g4⟩,g5⟩
    .exact⟨E.push ⟨.int f n,.int m b,J⟩,J+1,by
      simp[Instr.mapUpdate,run_underlying V,MapKept.run_getObj_map B,MapKept.run_checkKey D O,MapKept.run_findKey D g2,MapKept.run_setObj_map _ B,Result.andThen],by
      simp_all⟩
    .have hj:E[j]? =a6 e0:=by simpa using g3
     exact⟨E.modify j (fun e'=>{e' with key:=.int f n,val:=.int m b}),J,by
      simp[Instr.mapUpdate,run_underlying V,MapKept.run_getObj_map B,MapKept.run_checkKey D O,MapKept.run_findKey D g2,hj,g4,MapKept.run_keyThatStays O,MapKept.run_setObj_map _ B,Result.andThen],by
      simp_all⟩
   obtain⟨g,l,W,ao⟩:=W;have av:(execOp a.eval ⟨ag,.mapUpdate t x y z,ty,ah,ai,aj⟩).run P c.w=.ok .skip {c.w with heap:=c.w.heap.setIfInBounds (c.mu id).blk (.map g l)}:=by
    simp_all [execOp]
   have jB:=MapKept.heap_set (o':=Obj.map g l) B;have X:(dV.mp f m q).like (c.mu id) (.mp f m (xe q n b)) (c.mu id):=rfl;have Y:c.w.heap.size<=({c.w with heap:=c.w.heap.setIfInBounds (c.mu id).blk (.map g l)}:World).heap.size:=by simp
   have Z: ∀d,d<c.w.heap.size->(dV.mp f m q).blk (c.mu id)≠a6 d->({c.w with heap:=c.w.heap.setIfInBounds (c.mu id).blk (.map g l)}:World).heap[d]? =c.w.heap[d]? :=
    fun d _ aw=>jB.2 d (fun e=>aw (by simp[dV.blk,e]))
   have ab: ∀d,(dV.mp f m (xe q n b)).blk (c.mu id)=a6 d->(dV.mp f m q).blk (c.mu id)=a6 d\/c.w.heap.size<=d:=fun d A=>.inl A;have ad: ∀(d:Nat) (L:Loop),(dV.mp f m q).blk (c.mu id)=a6 d->c.w.heap[d]? =a6 (Obj.loop L)-> ∃L':Loop,({c.w with heap:=c.w.heap.setIfInBounds (c.mu id).blk (.map g l)}:World).heap[d]? =a6 (Obj.loop L'):=fun d L A hL=>absurd hL ((u.obj id _ s).no_loop (by simp) A);have ax:=Cx.Le.put (w:={c.w with heap:=c.w.heap.setIfInBounds (c.mu id).blk (.map g l)}) u s X Y Z ab ad;have ay:Below W0.heap.size W0 {c.w with heap:=c.w.heap.setIfInBounds (c.mu id).blk (.map g l)}:=
    u.bel.trans ⟨rfl,rfl,rfl,by simp,fun k hk=>jB.2 k (by omega)⟩
   refine⟨_,undef,c.put id _ (c.mu id) _,_,h,⟨by simp[Cx.put,S],ae,rfl,rfl,u.put s X ay Y Z ab ad ?_,ax⟩,by simp[dh],.inr ⟨av,rfl⟩⟩;refine⟨by simp only[Cx.put,upd_same];exact hB,g,l, ?_,ao⟩;simp_all [Cx.put,upd_same]
  .cases h
 .cases h
end
end
section
open Option renaming some → a6, none → a7
open Nat renaming le_refl → ae, le_trans → aK
open Go.RowKit
def FW (rd:Option Nat):Fence:={Fence.wide with round:=rd}
theorem aNQ:FW a7=Fence.wide:=rfl
theorem aPa (rd:Option Nat) (f:FuncId):(FW rd).fn f:=trivial
theorem wI (rd:Option Nat) {n:Nat}:(FW rd).depth.isSome=true->1<=n:=fun h=>by simp[FW,Fence.wide]at h
theorem aK3 (rd:Option Nat):(FW rd).round=rd:=rfl
theorem aNR (rd:Option Nat) (n:Nat):(FW rd).room n:=fun _ h=>by simp[FW,Fence.wide]at h
def mkD (r:Nat):Deferred:={target:=.collected r,args:= #[]}
def Gj (c:Cx):List (List bZ)->List (Array Value)->Prop
 |[],[]=>True
 |f::d,t::e=>bQ c f t.toList/\Gj c d e
 |_,_=>False
theorem Gj.le {c c':Cx} (h:c.Le c'): ∀(e:List (List bZ)) (g:List (Array Value)),Gj c e g->Gj c' e g
 |[],[],_=>trivial
 |f::e,t::g,d=>⟨bQ.le h _ _ d.1,Gj.le h e g d.2⟩
 |[],_::_,d=>d.elim
 |_::_,[],d=>d.elim
structure Cx.Mono (c c':Cx):Prop where
 mks: ∀r,r∈c.mks->r∈c'.mks
 lp: ∀(b:Nat) (L:Loop),c.w.heap[b]? =a6 (Obj.loop L)-> ∃L':Loop,c'.w.heap[b]? =a6 (Obj.loop L')
 size:c.w.heap.size<=c'.w.heap.size
 bar:c'.bar=c.bar
 out: ∀b,c.out b->c'.out b/\c'.w.heap[b]? =c.w.heap[b]?
theorem Cx.Le.mono {c c':Cx} (h:c.Le c'):c.Mono c':=⟨h.mks,h.lp,h.size,h.bar,h.out⟩
theorem Cx.Mono.refl (c:Cx):c.Mono c:=⟨fun _ h=>h,fun b L h=>⟨L,h⟩,ae _,rfl,fun _ h=>⟨h,rfl⟩⟩
theorem Cx.Mono.trans {a b c:Cx} (h:a.Mono b) (k:b.Mono c):a.Mono c:=
 ⟨fun r e=>k.mks r (h.mks r e),fun b L f=>let⟨g,i⟩:=h.lp b L f;k.lp b g i,aK h.size k.size,k.bar.trans h.bar,fun x d=>⟨(k.out x (h.out x d).1).1,(k.out x (h.out x d).1).2.trans (h.out x d).2⟩⟩
structure ji (W0:World) (b0:Nat) (rd:Option Nat) (c:Cx) (st:St) (a:Act) (ats:List (Array Value)):Prop where
 hp:c.hp=st.hp
 nxt:c.nxt=st.nxt
 ok:c.Ok W0
 fr:bQ c st.fr a.tmps.toList
 stk:Gj c st.stk ats
 df: ∃ds:List Nat,a.defers=ds.map mkD/\ds.Nodup/\ ∀r∈ds,r∈c.mks/\b0<=r
 rd: ∀l,rd=a6 l-> ∃L:Loop,c.w.heap[l]? =a6 (Obj.loop L)
section
variable {P:Program} {T:TT} {W0:World} {b0 n:Nat} {rd:Option Nat} {c:Cx} {R:Type} {r:R} {st:St} {a:Act} {ats:List (Array Value)}
theorem ayt (a:Act) (dst:Option Nat) (v:Value) (fr:List bZ) (z:bZ) (h:bQ c fr a.tmps.toList) (e:dh c z v):bQ c (match dst with|some d=>fr.set d z|none=>fr) (a.put dst v).tmps.toList:=by
 grind [Act.put,bQ.set]
theorem aJb (st:St) (dst:Option Nat) (z:bZ):(st.put dst z).fr=(match dst with|some d=>st.fr.set d z|none=>st.fr)/\(st.put dst z).hp=st.hp/\(st.put dst z).nxt=st.nxt/\(st.put dst z).stk=st.stk:=by
 cases dst<;>exact⟨rfl,rfl,rfl,rfl⟩
theorem put_defers (a:Act) (dst:Option Nat) (v:Value):(a.put dst v).defers=a.defers:=by cases dst<;>rfl
theorem ji.put (h:ji W0 b0 rd c st a ats) {dst:Option Nat} {z:bZ} {v:Value} (d:dh c z v):ji W0 b0 rd c (st.put dst z) (a.put dst v) ats:=by
 obtain⟨e,f,g,i⟩:=aJb st dst z;exact⟨h.hp.trans f.symm,h.nxt.trans g.symm,h.ok,by rw[e];exact ayt a dst v _ z h.fr d,by rw[i];exact h.stk,by rw[put_defers];exact h.df,h.rd⟩
theorem ji.did (h:ji W0 b0 rd c st a ats) {c':Cx} {d:St} (hd:Gv W0 c st c' d):ji W0 b0 rd c' d a ats:=
 ⟨hd.hp,hd.nxt,hd.ok,by rw[hd.fr];exact bQ.le hd.le _ _ h.fr,by rw[hd.stk];exact Gj.le hd.le _ _ h.stk,
  let⟨g,i,j,e⟩:=h.df;⟨g,i,j,fun r f=>⟨hd.le.mks r (e r f).1,(e r f).2⟩⟩,fun l m=>let⟨L,o⟩:=h.rd l m;hd.le.lp l L o⟩
def After (W0:World) (b0:Nat) (rd:Option Nat) (c:Cx) (ats:List (Array Value)) (K:St->Option R) (r:R) (f:Act) (w':World):Prop:=
 ∃d e,K e=a6 r/\ji W0 b0 rd d e f ats/\c.Mono d/\d.w=w'
def nX (P:Program) (W0:World) (n:Nat) (call:gX R):Prop:=
 ∀(b0:Nat) (rd:Option Nat) (f:bZ) (g:List bZ) (m:Option Nat) (st:St) (K:bZ->St->Option R) (r:R),call f g m st K=a6 r->
  ∀(c:Cx) (a:Act) (ats:List (Array Value)) (i:Value) (j:Array Value),ji W0 b0 rd c st a ats->dh c f i->bQ c g j.toList->
   ∀(o:Oper) (next:Act->World->Prop) (Q:Exit->Act->World->Prop),(∀e z u l,K z l=a6 r->ji W0 b0 rd e l a ats->dh e z u->c.Mono e->next (a.put o.dst u) e.w)->
    o.uponIn (FW rd) n P a next Q ((do let d<-Deferred.ofValue i j;invoke d.target d.args:Sem Next).run P c.w)
def ug:Op->Bool
 |.defer _=>true
 |_=>false
theorem Ak {o:Oper} (h:ug o.op=false) (rd:Option Nat) (d:Operand->Value):Oper.semAt rd d o=execOp d o:=
 Oper.semAt_eq rd d o fun c e=>by rw[e]at h;cases h
theorem tJ (o:Oper) (w:World) (d:Operand->Value): ∀f,o.about P w d=a6 f->(FW rd).fn f:=fun _ _=>trivial
theorem pJ {o:Oper} {K:bZ->St->Option R} (hd:ug o.op=false) (h:KW P W0 c st o a K r) (g:ji W0 b0 rd c st a ats) {next:Act->World->Prop} {Q:Exit->Act->World->Prop}
  (i: ∀c' z u e,K z e=a6 r->ji W0 b0 rd c' e a ats->dh c' z u->c.Mono c'->next (a.put o.dst u) c'.w):o.wpIn (FW rd) n P a c.w next Q:=by
 obtain⟨z,u,c',e,j,f,l,d⟩:=h;refine⟨tJ o c.w _, ?_⟩;rw[Ak hd];have:=i c' z u e j (g.did f) l f.le.mono;rcases d with d|⟨d,rfl⟩
 .rw[d];exact this
 .rw[d];exact this
theorem Xo (hT:TOk P T) {cl:Bool} {call:gX R} (I:nX P W0 n call) {o:Oper} {K:bZ->St->Option R} (h:fF T cl call o st K=a6 r) (d:ji W0 b0 rd c st a ats) {next:Act->World->Prop} {Q:Exit->Act->World->Prop}
  (e: ∀c' z u B,K z B=a6 r->ji W0 b0 rd c' B a ats->dh c' z u->c.Mono c'->next (a.put o.dst u) c'.w):o.wpIn (FW rd) n P a c.w next Q:=by
 by_cases hq:iT o.op=true
 .obtain⟨z,u,J,s,L⟩:=Eg hT d.ok hq d.hp d.fr h;have hd:ug o.op=false:=by cases ho:o.op<;>simp_all [iT,kQ,ug]
  exact pJ hd ⟨z,u,c,st,J,Gv.refl d.ok d.hp d.nxt,s,.inl (L c.w (Below.refl _ _))⟩ d e
 .cases ho:o.op with
  |alloc t=>exact pJ (by rw[ho];rfl) (aCo hT d.ok d.hp d.nxt ho h) d e
  |box t x=>exact pJ (by rw[ho];rfl) (aL8 hT d.ok d.hp d.nxt d.fr ho h) d e
  |buildSlice t k O=>exact pJ (by rw[ho];rfl) (acx hT d.ok d.hp d.nxt d.fr ho h) d e
  |makeSlice t l cp=>exact pJ (by rw[ho];rfl) (ag3 hT d.ok d.hp d.nxt d.fr ho h) d e
  |store t x y=>exact pJ (by rw[ho];rfl) (aCp hT d.ok d.hp d.nxt d.fr ho h) d e
  |makeFunc fn first v=>
   obtain⟨dst,A,g,i,j,p⟩:=o;simp only at ho;subst ho;simp only[fF]at h;split at h
   .rename_i f D
    obtain⟨S⟩:=first
    simp only at D;subst D;refine pJ rfl ⟨_,.func (.func f) #[] (v.map a.eval),c,st,h,Gv.refl d.ok d.hp d.nxt, ?_,.inl ?_⟩ d e
    .simp only[dh];refine⟨_,rfl, ?_⟩;have:=bQ.map_eval (c:=c) d.fr v.toList;simpa using this
    simp_all [execOp,Instr.makeFunc]
   .rename_i l f U
    replace h:=dL h;obtain⟨V,h⟩:=h;have M:v= #[]:=by
     simp_all
    subst M;refine pJ rfl ⟨_,.func (.func f) (first.map a.eval) #[],c,st,h,Gv.refl d.ok d.hp d.nxt, ?_,.inl ?_⟩ d e
    .simp only[dh];refine⟨_,rfl, ?_⟩;have:=bQ.map_eval (c:=c) d.fr first.toList;simpa using this
    simp_all [execOp,Instr.makeFunc]
   .cases h
  |makeMap t W=>exact pJ (by rw[ho];rfl) (arw hT d.ok d.hp d.nxt ho h) d e
  |lookup t x y k=>exact pJ (by rw[ho];rfl) (axh hT d.ok d.hp d.nxt d.fr ho h) d e
  |mapUpdate t x y z=>exact pJ (by rw[ho];rfl) (ag4 hT d.ok d.hp d.nxt d.fr ho h) d e
  |call N=>
   obtain⟨E,q,G⟩:=N;cases E with
   |builtin b=>
    cases b with
    |append=>exact pJ (by rw[ho];rfl) (axg hT d.ok d.hp d.nxt d.fr ho h) d e
    |unsafeSliceData=>exact pJ (by rw[ho];rfl) (ag5 hT d.ok d.hp d.nxt d.fr ho h) d e
    |unsafeString=>exact pJ (by rw[ho];rfl) (WE hT d.ok d.hp d.nxt d.fr ho h) d e
    |len=>rw[ho]at hq;exact absurd rfl hq
    |min=>rw[ho]at hq;exact absurd rfl hq
    |max=>rw[ho]at hq;exact absurd rfl hq
    |_=>
     obtain⟨dst,A,g,i,j,p⟩:=o;simp only at ho;subst ho;simp[fF,lJ]at h
   |invoke x m=>
    simp_all [fF]
   |value f=>
    obtain⟨dst,A,g,i,j,p⟩:=o;simp only at ho;subst ho;simp only[fF]at h;refine⟨tJ _ c.w _, ?_⟩;rw[Ak rfl];have s:=I b0 rd _ _ dst st K r h c a ats (a.eval f) (q.map a.eval) d (dY d.fr f) (by
     have:=bQ.map_eval (c:=c) d.fr q.toList;simpa using this) ⟨dst,.call {callee:=.value f,args:=q,argTypes:=G},g,i,j,p⟩ next Q e
    exact s
  |_=>
   obtain⟨dst,A,g,i,j,p⟩:=o;simp only at ho;subst ho
   first
    |(simp[iT,kQ]at hq;done)
    |(simp[fF]at h;done)
theorem MP (ops:Array Oper) (j d:Nat) (h:(ops[j]?).bind (·.dst)=a6 d) (tmps:Array Value):yielded ops tmps j=(match tmps[d]? with|some (.bool b)=>a6 b|_=>a7):=by
 grind [yielded]
theorem Qx (hT:TOk P T) {cl:Bool} {call:gX R} (s:nX P W0 n call) (ops:Array Oper) {K:St->Option R} {Q:Exit->Act->World->Prop}: ∀(l:List Oper) (c:Cx) (st:St) (a:Act),iP T cl call ops K l st=a6 r->ji W0 b0 rd c st a ats->
  (∀c' g p,K g=a6 r->ji W0 b0 rd c' g p ats->c.Mono c'->Q .normal p c'.w)->wpListIn (FW rd) n P ops Q l a c.w
 |[],c,st,a,h,e,q=>by
  simp only[iP]at h;exact q c st a h e (Cx.Mono.refl c)
 |o::l,c,st,a,h,e,q=>by
  simp only[iP]at h;have Y: ∀(c:Cx) (st:St) (a:Act),ji W0 b0 rd c st a ats->(∀c' g p,K g=a6 r->ji W0 b0 rd c' g p ats->c.Mono c'->Q .normal p c'.w)->fF T cl call o st (fun v st=>iP T cl call ops K l (st.put o.dst v))=a6 r->
    o.wpIn (FW rd) n P a c.w (wpListIn (FW rd) n P ops Q l) Q:=fun c st a e q h=>
   Xo hT s h e fun c' z u g E G I J=>Qx hT s ops l c' (g.put o.dst z) (a.put o.dst u) E (G.put I) fun L M N k1 k2 k3=>q L M N k1 k2 (J.trans k3)
  have y: ∀(st:St),ji W0 b0 rd c st a ats->iP T cl call ops K l (st.put o.dst (.tup []))=a6 r->(∀f,o.about P c.w a.eval=a6 f->(FW rd).fn f)/\wpListIn (FW rd) n P ops Q l (a.put o.dst undef) c.w:=fun st e h=>
   ⟨tJ o c.w _,Qx hT s ops l c (st.put o.dst (.tup [])) (a.put o.dst undef) h (e.put (by simp only[dh];exact⟨#[],rfl,by simp[bQ]⟩)) q⟩
  simp only[wpListIn];cases hg:o.guard with
  |none=>
   rw[hg]at h;rw[am (by simp[Region.wanted,hg])]
   grind
  |some O=>
   obtain⟨j,S⟩:=O;rw[hg]at h;simp only at h;split at h
   .cases h
   .rename_i d hd
    have i:=MP ops j d hd a.tmps;have m:=e.fr.getD d;have U:=bQ.length _ _ e.fr;rw[Array.length_toList]at U;split at h
    .rename_i b A
     rw[A]at m;simp only[dh]at m;have V:=m.bool_inv;have Z:d<a.tmps.size:=by
      grind
     have B:a.tmps[d]? =a6 (.bool b):=by
      simp_all
     rw[B]at i;simp only at i;have W:a.put (a6 d) (.bool b)=a:=by
      simp only[Act.put];obtain⟨ab,ad⟩:=Array.getElem?_eq_some_iff.1 B;have:a.tmps.setIfInBounds d (.bool b)=a.tmps:=by
       grind
      rw[this]
     have D:ji W0 b0 rd c (st.put (a6 d) (.val .bool b)) a ats:=by
      have:=e.put (dst:=a6 d) (z:=.val .bool b) (v:=.bool b) (by simp_all [dh]);rwa [W]at this
     cases b<;>cases S<;>(try simp only[aa,ac]at h)
     .rw[am (by simp[Region.wanted,hg,i])]
      grind
     .rw[aq (by simp[Region.wanted,hg,i])];exact y _ D h
     .rw[aq (by simp[Region.wanted,hg,i])];exact y _ D h
     .rw[am (by simp[Region.wanted,hg,i])]
      grind
    .rename_i A
     rw[A]at m;simp only[dh]at m;obtain⟨vs,V,_⟩:=m;have X:yielded ops a.tmps j=a7:=by
      rw[i];cases he:a.tmps[d]? with
      |none=>rfl
      |some x=>
       simp_all
     rw[aq (by simp[Region.wanted,hg,X])];exact y st e h
    .cases h
end
end
section
open Bool renaming not_eq_true' → aW
open List renaming mem_cons_of_mem → aj, map_cons → au, mem_append_right → bC, mem_append_left → bD
open Nat renaming le_refl → ae
open Go.RowKit
structure Cx.Keeps (c c':Cx) (l:List Nat):Prop where
 free: ∀b,c.free b->c'.free b/\c'.w.heap[b]? =c.w.heap[b]?
 ref: ∀id∈l,c.known id->c'.known id
 obj: ∀id∈l,∀o',dW c'.hp id=some o'-> ∃o,dW c.hp id=some o/\o.like (c.mu id) o' (c'.mu id)
theorem Cx.Keeps.sub {c c':Cx} {l m:List Nat} (h:c.Keeps c' l) (e: ∀i∈m,i∈l):c.Keeps c' m:=⟨h.free,fun i d=>h.ref i (e i d),fun i d=>h.obj i (e i d)⟩
theorem Cx.Keeps.left {c c':Cx} {l m:List Nat} (h:c.Keeps c' (l++m)):c.Keeps c' l:=h.sub fun i d=>bD _ d
theorem Cx.Keeps.right {c c':Cx} {l m:List Nat} (h:c.Keeps c' (l++m)):c.Keeps c' m:=h.sub fun i d=>bC _ d
mutual
theorem dh.keeps {c c':Cx}: ∀(v:bZ) (x:Value),c.Keeps c' (refs v)->dh c v x->dh c' v x
 |.undef,_,_,_=>by simp[dh]
 |.val t x,v,h,d=>by
  simp only[dh]at d ⊢;exact⟨fun e=>let⟨cs,j,g⟩:=d.1 e;⟨cs,j,fV.mono h.free t x _ g⟩,fun e=>fV.mono h.free t x _ (d.2 e)⟩
 |.nils,_,_,d=>by assumption
 |.emp,_,_,d=>by assumption
 |.lst t x b,v,h,d=>by
  simp only[dh]at d ⊢;exact⟨⟨fun e=>let⟨cs,j,g⟩:=d.1.1 e;⟨cs,j,fV.mono h.free (.list t) x _ g⟩,fun e=>fV.mono h.free (.list t) x _ (d.1.2 e)⟩,d.2⟩
 |.nilp,_,_,d=>by assumption
 |.nilfn,_,_,d=>by assumption
 |.tup l,v,h,d=>by simp only[dh]at d ⊢;obtain⟨s,j,g⟩:=d;exact⟨s,j,bQ.keeps l _ (by simpa [refs] using h) g⟩
 |.agg l,v,h,d=>by simp only[dh]at d ⊢;obtain⟨s,j,g,y⟩:=d;exact⟨s,j,bQ.keeps l _ (by simpa [refs] using h) g,y⟩
 |.cellp t x,v,h,d=>by
  simp only[dh]at d ⊢;obtain⟨b,o,D,j,g,y,E⟩:=d;exact⟨b,o,D,j,(h.free b g).1,y.of_block (h.free b g).2,fV.mono h.free t x _ E⟩
 |.ptr id G,v,h,d=>by
  simp only[dh]at d ⊢;obtain⟨m,d⟩:=d;refine⟨m,h.ref id (by simp[refs]) d.1,fun t cs q=> ?_⟩;obtain⟨o,j,g⟩:=h.obj id (by simp[refs]) _ q;cases o<;>simp only[dV.like]at g;simp_all
 |.slf id,v,h,d=>by
  simp only[dh]at d ⊢;obtain⟨m,d⟩:=d;refine⟨m,h.ref id (by simp[refs]) d.1,fun t cs q=> ?_⟩;obtain⟨o,j,g⟩:=h.obj id (by simp[refs]) _ q;cases o<;>simp only[dV.like]at g;simp_all
 |.sd id z,v,h,d=>by
  simp only[dh]at d ⊢;obtain⟨m,d⟩:=d;refine⟨m,h.ref id (by simp[refs]) d.1,fun t u A q=> ?_⟩;obtain⟨o,j,g⟩:=h.obj id (by simp[refs]) _ q;cases o with
  |arr t' v' B=>
   grind [dV.like]
  |box _ _=>simp[dV.like]at g
  |lp _ _ _ _ _ _ _ _=>simp[dV.like]at g
  |dead=>simp[dV.like]at g
  |mp _ _ _=>simp[dV.like]at g
 |.slc id z I,v,h,d=>by
  simp only[dh]at d ⊢;obtain⟨m,d⟩:=d;refine⟨m,h.ref id (by simp[refs]) d.1,fun t u A q=> ?_⟩;obtain⟨o,j,g⟩:=h.obj id (by simp[refs]) _ q;cases o with
  |arr t' v' B=>
   grind [dV.like]
  |box _ _=>simp[dV.like]at g
  |lp _ _ _ _ _ _ _ _=>simp[dV.like]at g
  |dead=>simp[dV.like]at g
  |mp _ _ _=>simp[dV.like]at g
 |.ep id z i G,v,h,d=>by
  simp only[dh]at d ⊢;obtain⟨m,d⟩:=d;refine⟨m,h.ref id (by simp[refs]) d.1,fun t u A q=> ?_⟩;obtain⟨o,j,g⟩:=h.obj id (by simp[refs]) _ q;cases o with
  |arr t' v' B=>
   grind [dV.like]
  |box _ _=>simp[dV.like]at g
  |lp _ _ _ _ _ _ _ _=>simp[dV.like]at g
  |dead=>simp[dV.like]at g
  |mp _ _ _=>simp[dV.like]at g
 |.fn f l,v,h,d=>by simp only[dh]at d ⊢;obtain⟨s,j,g⟩:=d;exact⟨s,j,bQ.keeps l _ (by simpa [refs] using h) g⟩
 |.mfn f l,v,h,d=>by simp only[dh]at d ⊢;obtain⟨s,j,g⟩:=d;exact⟨s,j,bQ.keeps l _ (by simpa [refs] using h) g⟩
 |.mpv id,v,h,d=>by
  simp only[dh]at d ⊢;obtain⟨m,d⟩:=d;refine⟨m,h.ref id (by simp[refs]) d.1,fun J K L q=> ?_⟩;obtain⟨o,j,g⟩:=h.obj id (by simp[refs]) _ q;cases o<;>simp only[dV.like]at g;simp_all
 |.yld id,v,h,d=>by
  simp only[dh]at d ⊢;obtain⟨m,d⟩:=d;refine⟨m,h.ref id (by simp[refs]) d.1,fun f M N asg O S n p q=> ?_⟩;obtain⟨o,j,g⟩:=h.obj id (by simp[refs]) _ q;cases o<;>simp only[dV.like]at g;simp_all
theorem bQ.keeps {c c':Cx}: ∀(l:List bZ) (xs:List Value),c.Keeps c' (ni l)->bQ c l xs->bQ c' l xs
 |[],[],_,_=>by simp[bQ]
 |v::l,x::xs,h,d=>by
  simp only[ni]at h;simp only[bQ]at d ⊢;exact⟨dh.keeps v x h.left d.1,bQ.keeps l xs h.right d.2⟩
 |[],_::_,_,d=>by simp[bQ]at d
 |_::_,[],_,d=>by simp[bQ]at d
end
theorem Gj.keeps {c c':Cx}: ∀(e:List (List bZ)) (g:List (Array Value)),c.Keeps c' (uZ e)->Gj c e g->Gj c' e g
 |[],[],_,_=>trivial
 |f::e,t::g,h,d=>by
  simp only[uZ]at h;exact⟨bQ.keeps _ _ h.left d.1,Gj.keeps e g h.right d.2⟩
 |[],_::_,_,d=>d.elim
 |_::_,[],_,d=>d.elim
theorem lw (p:Nat->Bool): ∀(h:iw) (i:Nat),dW (h.filter fun e=>p e.1) i=if p i=true then dW h i else none
 |[],i=>by simp[dW]
 |(k,o)::h,i=>by
  rw[List.filter_cons];by_cases hk:p k=true
  .simp only[hk,if_true,fD,lw p h i]
   grind
  .rw[aq hk,lw p h i,fD]
   grind
theorem zQ: ∀(h:iw) (i:Nat) (o:dV),dW h i=some o->(i,o)∈h
 |[],i,o,d=>by simp[dW]at d
 |(k,e)::h,i,o,d=>by
  rw[fD]at d;split at d
  .simp_all
  .exact aj _ (zQ h i o d)
theorem Ei: ∀(h:iw) (e:Nat×dV),e∈h-> ∀i∈e.2.refs,i∈Ag h
 |[],e,d,i,f=>by simp at d
 |(k,o)::h,e,d,i,f=>by
  simp only[Ag,List.mem_append];rcases List.mem_cons.1 d with g|g
  .simp_all
  .right;exact Ei h e g i f
theorem xf {d l:List Nat} (h:Hr d l=true): ∀i∈l,i∉d:=by
 intro i e hd;have:=List.all_eq_true.1 h i e;simp only[aW,acB]at this;have f:d.any (Nat.beq i)=true:=List.any_eq_true.2 ⟨i,hd,by simp⟩;simp_all
theorem Cx.keeps_filter {c:Cx} {p:Nat->Bool} {l:List Nat} (q: ∀i∈l,i∉((c.hp.filter fun e=> !p e.1).map (·.1))):c.Keeps {c with hp:=c.hp.filter fun e=>p e.1} l:=by
 refine⟨fun b g=>⟨⟨g.1, ?_,g.2.2⟩,rfl⟩,fun i j hk=> ?_,fun i j m d=> ?_⟩
 .rintro ⟨i,o,f,s⟩;rw[lw]at f;split at f
  .exact g.2.1 ⟨i,o,f,s⟩
  .cases f
 .rcases hk with ⟨o,d⟩|hk
  .left;refine⟨o, ?_⟩;rw[lw];split
   .exact d
   .rename_i hp
    exfalso;refine q i j (List.mem_map.2 ⟨(i,o),List.mem_filter.2 ⟨zQ _ _ _ d,by simp[hp]⟩,rfl⟩)
  .exact .inr hk
 .rw[lw]at d;split at d
  .exact⟨m,d,m.like_refl _⟩
  .cases d
section
variable {P:Program} {T:TT} {W0:World} {b0 n:Nat} {rd:Option Nat} {c:Cx} {R:Type} {r:R} {st:St} {a:Act} {ats:List (Array Value)}
theorem Xq (c:Cx) (p:Nat->Bool): ∀b,c.out b->({c with hp:=c.hp.filter fun e=>p e.1}:Cx).out b/\({c with hp:=c.hp.filter fun e=>p e.1}:Cx).w.heap[b]? =c.w.heap[b]? :=fun b f=>⟨⟨f.1,(by
 rintro ⟨i,o,d,g⟩;simp only at d g;rw[lw]at d;split at d
 .exact f.2.1 ⟨i,o,d,g⟩
 .cases d),f.2.2⟩,rfl⟩
theorem Cx.Ok.filter (l:c.Ok W0) {p:Nat->Bool} (hk:c.Keeps {c with hp:=c.hp.filter fun e=>p e.1} (Ag (c.hp.filter fun e=>p e.1))):({c with hp:=c.hp.filter fun e=>p e.1}:Cx).Ok W0:=by
 have sub: ∀i o,dW (c.hp.filter fun e=>p e.1) i=some o->dW c.hp i=some o:=fun i o h=>by
  simp_all [lw]
 refine⟨l.bel,fun i o y=> ?_,fun i j o q b d g=>l.inj i j o q b (sub i o d) (sub j q g),l.mks,fun b u=>⟨(l.bar b u).1,(fun⟨i,o,d,g⟩=>(l.bar b u).2.1 ⟨i,o,sub i o d,g⟩),(l.bar b u).2.2⟩,l.phi⟩;have m:=l.obj i o (sub i o y);have z:=zQ _ _ _ y;cases o with
 |box e cs=>
  obtain⟨d,A,g,s,v⟩:=m;exact⟨d,A,g,bQ.keeps _ _ (hk.sub fun j x=>Ei _ _ z j x) s,v⟩
 |arr t ver D=>
  obtain⟨m,e,B,d,g,s⟩:=m;exact⟨m,e,B,d,gK.mono (fV.mono hk.free t) _ _ g,s⟩
 |lp f fr ps asg bd ky n p=>
  obtain⟨m,d,L,g,s,v⟩:=m;exact⟨m,d,L,g,bQ.keeps _ _ (hk.sub fun j x=>Ei _ _ z j x) s,v⟩
 |dead=>trivial
 |mp kk vk E=>exact m
theorem ji.gc (d:ji W0 b0 rd c st a ats) {f:Nat} {v:bZ} {u:Value} (m:dh c v u) {g:St} (h:gc f v st=some g):
  ∃c',ji W0 b0 rd c' g a ats/\dh c' v u/\c.Mono c'/\c'.w=c.w/\g.stk=st.stk/\g.fr=st.fr:=by
 obtain⟨fr,stk,o,q⟩:=st;simp only[Go.Proofs.YtkichehglnecnaaGreatDoor.gc]at h;rw[cond_eq_ite]at h;split at h
 .rename_i j
  cases h;have l:=d.hp;simp only at l;subst l;have s: ∀p:Nat->Bool,Hr ((c.hp.filter fun e=> !p e.1).map (·.1)) (refs v++ni fr++uZ stk++Ag (c.hp.filter fun e=>p e.1))=true->
    ∃c',ji W0 b0 rd c' ⟨fr,stk,c.hp.filter fun e=>p e.1,q⟩ a ats/\dh c' v u/\c.Mono c'/\c'.w=c.w/\stk=stk/\fr=fr:=fun p j=>by
   have x:=xf j;have hk:=Cx.keeps_filter (c:=c) (p:=p) x;exact⟨{c with hp:=c.hp.filter fun e=>p e.1},⟨rfl,d.nxt,d.ok.filter (p:=p) hk.right,bQ.keeps _ _ hk.left.left.right d.fr,Gj.keeps _ _ hk.left.right d.stk,d.df,d.rd⟩,dh.keeps _ _ hk.left.left.left m,⟨fun _ h=>h,fun b L h=>⟨L,h⟩,ae _,rfl,Xq c p⟩,rfl,rfl,rfl⟩
  exact s (fun i=>Nat.blt i f||acB (ayy (c.hp.filter fun e=> !Nat.blt e.1 f) 3 (refs v++ni fr++uZ stk++Ag (c.hp.filter fun e=>Nat.blt e.1 f))) i) j
 .cases h
theorem agR (f:dV->dV): ∀(h:iw) (i:Nat),dW (h.map fun e=>(e.1,f e.2)) i=(dW h i).map f
 |[],i=>rfl
 |(k,o)::h,i=>by
  simp only[au,fD,agR f h i];split<;>rfl
def Cx.anew (c:Cx):Cx:={c with hp:=c.hp.map fun e=>(e.1,e.2.anew c.hp)}
theorem dV.anew_blk (h:iw) (o:dV) (l:Loc):(o.anew h).blk l=o.blk l:=by cases o<;>rfl
theorem Cx.anew_get (c:Cx) (i:Nat):dW c.anew.hp i=(dW c.hp i).map (dV.anew c.hp):=agR _ _ _
theorem Cx.anew_free (c:Cx): ∀b,c.free b->c.anew.free b/\c.anew.w.heap[b]? =c.w.heap[b]? :=fun b d=>⟨⟨d.1,by
 rintro ⟨i,o,e,f⟩;rw[Cx.anew_get]at e;obtain⟨g,j,rfl⟩:=Option.map_eq_some_iff.1 e;rw[dV.anew_blk]at f;exact d.2.1 ⟨i,g,j,f⟩,d.2.2⟩,rfl⟩
theorem Cx.anew_out (c:Cx): ∀b,c.out b->c.anew.out b/\c.anew.w.heap[b]? =c.w.heap[b]? :=fun b d=>⟨⟨d.1,(by
 rintro ⟨i,o,e,f⟩;rw[Cx.anew_get]at e;obtain⟨g,j,rfl⟩:=Option.map_eq_some_iff.1 e;rw[dV.anew_blk]at f;exact d.2.1 ⟨i,g,j,f⟩),d.2.2⟩,rfl⟩
theorem Cx.anew_known (c:Cx) {i:Nat} (h:c.known i):c.anew.known i:=by
 rcases h with ⟨o,d⟩|h
 .exact .inl ⟨_,by rw[Cx.anew_get,d];rfl⟩
 .exact .inr h
theorem GZ {h:iw} {id d:Nat} (hf:Wl h id d=true): ∃t xs,dW h id=some (.arr t d xs):=by
 simp only[Wl,aF8]at hf
 grind
mutual
theorem dh.anew {c:Cx}: ∀(v:bZ) (x:Value),dh c v x->dh c.anew (Go.Proofs.YtkichehglnecnaaGreatDoor.anew c.hp v) x
 |.undef,_,_=>by simp[dh,Go.Proofs.YtkichehglnecnaaGreatDoor.anew]
 |.val t x,v,d=>by
  simp only[dh,Go.Proofs.YtkichehglnecnaaGreatDoor.anew]at d ⊢;exact⟨fun e=>let⟨cs,j,g⟩:=d.1 e;⟨cs,j,fV.mono c.anew_free t x _ g⟩,fun e=>fV.mono c.anew_free t x _ (d.2 e)⟩
 |.nils,_,d=>by simpa only[dh,Go.Proofs.YtkichehglnecnaaGreatDoor.anew] using d
 |.emp,_,d=>by simpa only[dh,Go.Proofs.YtkichehglnecnaaGreatDoor.anew] using d
 |.lst t x b,v,d=>by
  simp only[dh,Go.Proofs.YtkichehglnecnaaGreatDoor.anew]at d ⊢;exact⟨⟨fun e=>let⟨cs,j,g⟩:=d.1.1 e;⟨cs,j,fV.mono c.anew_free (.list t) x _ g⟩,fun e=>fV.mono c.anew_free (.list t) x _ (d.1.2 e)⟩,d.2⟩
 |.nilp,_,d=>by simpa only[dh,Go.Proofs.YtkichehglnecnaaGreatDoor.anew] using d
 |.nilfn,_,d=>by simpa only[dh,Go.Proofs.YtkichehglnecnaaGreatDoor.anew] using d
 |.tup l,v,d=>by simp only[dh,Go.Proofs.YtkichehglnecnaaGreatDoor.anew]at d ⊢;obtain⟨s,j,g⟩:=d;exact⟨s,j,bQ.anew l _ g⟩
 |.agg l,v,d=>by simp only[dh,Go.Proofs.YtkichehglnecnaaGreatDoor.anew]at d ⊢;obtain⟨s,j,g,A⟩:=d;exact⟨s,j,bQ.anew l _ g,A⟩
 |.cellp t x,v,d=>by
  simp only[dh,Go.Proofs.YtkichehglnecnaaGreatDoor.anew]at d ⊢;obtain⟨b,o,K,j,g,A,L⟩:=d;exact⟨b,o,K,j,(c.anew_free b g).1,A.of_block (c.anew_free b g).2,fV.mono c.anew_free t x _ L⟩
 |.ptr id M,v,d=>by
  simp only[dh,Go.Proofs.YtkichehglnecnaaGreatDoor.anew]at d ⊢;obtain⟨q,d⟩:=d;refine⟨q,c.anew_known d.1,fun t cs m=> ?_⟩;rw[Cx.anew_get]at m;obtain⟨o,j,g⟩:=Option.map_eq_some_iff.1 m;cases o<;>simp only[dV.anew,reduceCtorEq]at g;exact d.2 _ _ j
 |.slf id,v,d=>by
  simp only[dh,Go.Proofs.YtkichehglnecnaaGreatDoor.anew]at d ⊢;obtain⟨q,d⟩:=d;refine⟨q,c.anew_known d.1,fun t cs m=> ?_⟩;rw[Cx.anew_get]at m;obtain⟨o,j,g⟩:=Option.map_eq_some_iff.1 m;cases o<;>simp only[dV.anew,reduceCtorEq]at g;exact d.2 _ _ j
 |.sd id D,v,d=>by
  simp only[dh,Go.Proofs.YtkichehglnecnaaGreatDoor.anew]at d ⊢;rw[cond_eq_ite];split
  .rename_i z
   obtain⟨E,G,y⟩:=GZ z;simp only[dh];obtain⟨q,d⟩:=d;refine⟨q,c.anew_known d.1,fun t u I m=>⟨Nat.zero_le _,fun J=> ?_⟩⟩;exact(d.2 _ _ _ y).2 rfl
  .simp[dh]
 |.slc id D N,v,d=>by
  simp only[dh,Go.Proofs.YtkichehglnecnaaGreatDoor.anew]at d ⊢;rw[cond_eq_ite];split
  .rename_i z
   obtain⟨E,G,y⟩:=GZ z;simp only[dh];obtain⟨q,d⟩:=d;refine⟨q,c.anew_known d.1,fun t u I m=>⟨Nat.zero_le _,fun J=> ?_⟩⟩;rw[Cx.anew_get,y]at m;simp only[Option.map_some,dV.anew,Option.some.injEq,dV.arr.injEq]at m;obtain⟨B,_,_⟩:=m;rw[<-B];exact(d.2 _ _ _ y).2 rfl
  .simp[dh]
 |.ep id D i M,v,d=>by
  simp only[dh,Go.Proofs.YtkichehglnecnaaGreatDoor.anew]at d ⊢;rw[cond_eq_ite];split
  .rename_i z
   obtain⟨E,G,y⟩:=GZ z;simp only[dh];obtain⟨q,d⟩:=d;refine⟨q,c.anew_known d.1,fun t u I m=>⟨Nat.zero_le _,fun J=> ?_⟩⟩;rw[Cx.anew_get,y]at m;simp only[Option.map_some,dV.anew,Option.some.injEq,dV.arr.injEq]at m;obtain⟨B,_,_⟩:=m;rw[<-B];exact(d.2 _ _ _ y).2 rfl
  .simp[dh]
 |.fn f l,v,d=>by simp only[dh,Go.Proofs.YtkichehglnecnaaGreatDoor.anew]at d ⊢;obtain⟨s,j,g⟩:=d;exact⟨s,j,bQ.anew l _ g⟩
 |.mfn f l,v,d=>by simp only[dh,Go.Proofs.YtkichehglnecnaaGreatDoor.anew]at d ⊢;obtain⟨s,j,g⟩:=d;exact⟨s,j,bQ.anew l _ g⟩
 |.mpv id,v,d=>by
  simp only[dh,Go.Proofs.YtkichehglnecnaaGreatDoor.anew]at d ⊢;obtain⟨q,d⟩:=d;refine⟨q,c.anew_known d.1,fun O S U m=> ?_⟩;rw[Cx.anew_get]at m;obtain⟨o,j,g⟩:=Option.map_eq_some_iff.1 m;cases o<;>simp only[dV.anew,reduceCtorEq]at g;exact d.2 _ _ _ j
 |.yld id,v,d=>by
  simp only[dh,Go.Proofs.YtkichehglnecnaaGreatDoor.anew]at d ⊢;obtain⟨q,d⟩:=d;refine⟨q,c.anew_known d.1,fun f V W asg X Y n p m=> ?_⟩;rw[Cx.anew_get]at m;obtain⟨o,j,g⟩:=Option.map_eq_some_iff.1 m;cases o<;>simp only[dV.anew,reduceCtorEq]at g;exact d.2 _ _ _ _ _ _ _ _ j
theorem bQ.anew {c:Cx}: ∀(l:List bZ) (xs:List Value),bQ c l xs->bQ c.anew (DC c.hp l) xs
 |[],[],_=>by simp[bQ,DC]
 |v::l,x::xs,d=>by
  simp only[bQ,DC]at d ⊢;exact⟨dh.anew v x d.1,bQ.anew l xs d.2⟩
 |[],_::_,d=>by simp[bQ]at d
 |_::_,[],d=>by simp[bQ]at d
end
theorem Gj.anew {c:Cx}: ∀(e:List (List bZ)) (g:List (Array Value)),Gj c e g->Gj c.anew (e.map (DC c.hp)) g
 |[],[],_=>trivial
 |f::e,t::g,d=>⟨bQ.anew _ _ d.1,Gj.anew e g d.2⟩
 |[],_::_,d=>d.elim
 |_::_,[],d=>d.elim
theorem ji.anew (d:ji W0 b0 rd c st a ats): ∃c',ji W0 b0 rd c' (abg st) a ats/\c.Mono c'/\c'.w=c.w:=by
 obtain⟨z,K,M,N⟩:=st;have v:=d.hp;simp only at v;subst v;refine⟨c.anew,⟨rfl,d.nxt,⟨d.ok.bel,fun i o x=> ?_,fun i j o q b g l m u=> ?_,d.ok.mks,fun b A=>(Cx.anew_out c b (d.ok.bar b A)).1,d.ok.phi⟩,bQ.anew _ _ d.fr,Gj.anew _ _ d.stk,d.df,d.rd⟩,⟨fun _ h=>h,fun b L h=>⟨L,h⟩,ae _,rfl,Cx.anew_out c⟩,rfl⟩
 .rw[Cx.anew_get]at x;obtain⟨y,g,rfl⟩:=Option.map_eq_some_iff.1 x;have s:=d.ok.obj i y g;cases y with
  |box e cs=>
   obtain⟨g,B,l,m,u⟩:=s;exact⟨g,B,l,bQ.anew _ _ m,u⟩
  |arr t ver O=>
   obtain⟨s,e,D,g,l,m⟩:=s;exact⟨s,e,D,g,gK.mono (fV.mono c.anew_free t) _ _ l,m⟩
  |lp f z ps asg bd ky n p=>
   obtain⟨s,g,L,l,m,u⟩:=s;exact⟨s,g,L,l,bQ.anew _ _ m,u⟩
  |dead=>trivial
  |mp kk vk S=>exact s
 .rw[Cx.anew_get]at g l;obtain⟨E,G,rfl⟩:=Option.map_eq_some_iff.1 g;obtain⟨I,J,rfl⟩:=Option.map_eq_some_iff.1 l;rw[dV.anew_blk]at m u;exact d.ok.inj i j E I b G J m u
theorem D6 {l:List Nat}: ∀(i:Nat) (fr:List bZ) (xs:List Value),bQ c fr xs->bQ c (KA l i fr) xs
 |i,[],[],_=>by simp[bQ,KA]
 |i,v::fr,x::xs,h=>by
  simp only[bQ,KA]at h ⊢;refine⟨?_,D6 (i+1) fr xs h.2⟩;rw[cond_eq_ite]
  grind [dh]
 |i,[],_::_,h=>by simp[bQ]at h
 |i,_::_,[],h=>by simp[bQ]at h
end
end
end Go.Proofs.YtkichehglnecnaaGreatDoor
