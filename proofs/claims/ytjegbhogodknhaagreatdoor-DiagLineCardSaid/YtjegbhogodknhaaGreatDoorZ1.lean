/- Parts of the proof, joined and shortened by a program: the plain machine, the functions as it prints them, and the mathematics over them. -/
import Derived.Calls
import Derived.Still
import Derived.Orders
import Derived.Laws.Sem
import Derived.Test.YtjegbhogodknhaaGreatDoorProg
import Derived.WalkKit
import Derived.WalkSmall
import Derived.Below
import Derived.Laws.AppendOwn
import Derived.Lib.LaidTab
import Derived.Lib.ItoaNum
import Derived.KernelRfl
import Derived.Laws.StructEq
import Derived.Laws.Slices
import Derived.Laws.Cells
import Derived.Laws.Strings
import Derived.Laws.MakeOwn
import Derived.Laws.BytesString
import Derived.Maps.AppendAt
import Derived.Lib.AppendStr
import Derived.Lib.UnsafeStr
import Derived.MapKept
import Derived.TacticsIn
import Derived.RangeFuncIn
import Derived.RangeFuncLeaves
import Derived.Sort.QuietThIn
set_option linter.unusedVariables false
set_option linter.unusedSimpArgs false
set_option maxRecDepth 100000
set_option maxHeartbeats 4000000
namespace Go.Proofs.YtjegbhogodknhaaGreatDoor
section
open Option renaming some → a6, none → a7
theorem aa.{u} {d:Sort u} (a b:d):cond true a b=a:=rfl
theorem ac.{u} {d:Sort u} (a b:d):cond false a b=b:=rfl
theorem am.{u} {c:Prop} {h:Decidable c} (d:c) {f:Sort u} {t e:f}:ite c t e=t:=if_pos d
theorem aq.{u} {c:Prop} {h:Decidable c} (d:¬c) {f:Sort u} {t e:f}:ite c t e=e:=if_neg d
inductive Ty where
 |unit
 |bool
 |int (k:IntKind)
 |str
 |list (t:Ty)
 |pair (a b:Ty)
 deriving DecidableEq
@[reducible] def Ty.den:Ty->Type
 |.unit=>Unit
 |.bool=>Bool
 |.int _=>Int
 |.str=>List UInt8
 |.list t=>List t.den
 |.pair a b=>a.den×b.den
def Ty.dflt:(t:Ty)->t.den
 |.unit=>()
 |.bool=>false
 |.int _=>0
 |.str=>[]
 |.list _=>[]
 |.pair a b=>(a.dflt,b.dflt)
def Ty.size:Ty->Nat
 |.unit=>0
 |.pair a b=>a.size+b.size
 |_=>1
def Ty.isAgg:Ty->Bool
 |.unit=>true
 |.pair _ _=>true
 |_=>false
def mJ {t':Ty} (t:Ty) (x:t'.den):Option t.den:=if h:t'=t then a6 (cast (congrArg Ty.den h) x)else a7
def Ty.same:(t:Ty)->t.den->t.den->Bool
 |.unit,_,_=>true
 |.bool,x,y=>x==y
 |.int _,x,y=>x==y
 |.str,x,y=>x==y
 |.list _,_,_=>false
 |.pair a b,x,y=>a.same x.1 y.1&&b.same x.2 y.2
def Ty.comparable:Ty->Bool
 |.list _=>false
 |.pair a b=>a.comparable&&b.comparable
 |_=>true
def sub {d:Type} (l:List d) (lo hi:Int):List d:=(l.take hi.toNat).drop lo.toNat
inductive cO where
 |undef
 |val (t:Ty) (x:t.den)
 |nils
 |nilp
 |nilfn
 |tup (l:List cO)
 |agg (l:List cO)
 |cellp (t:Ty) (x:t.den)
 |ptr (id off:Nat)
 |slc (id ver:Nat) (view:Option (Int×Int))
 |ep (id ver:Nat) (i:Nat) (off:Nat)
 |fn (f:FuncId) (caps:List cO)
 |mfn (f:FuncId) (fst:List cO)
 |mpv (id:Nat)
 |yld (id:Nat)
 |emp
 |lst (t:Ty) (x:List t.den) (nil:Bool)
 |slf (id:Nat)
 |sd (id ver:Nat)
inductive Ex where
 |normal
 |exit (id:Nat)
 |goto (l:Nat)
 |ret
inductive dZ where
 |box (t:TypeId) (cells:List cO)
 |arr (t:Ty) (ver:Nat) (xs:List t.den)
 |lp (f:FuncId) (fr:List cO) (ps:List Nat) (kH bd:Code) (key:Option Nat) (state:Nat) (pend:Option Ex)
 |dead
 |mp (kk vk:IntKind) (es:List (Int×Int))
abbrev iD:=List (Nat×dZ)
def ed:iD->Nat->Option dZ
 |[],_=>a7
 |(k,o)::h,i=>bif k==i then a6 o else ed h i
def jW:iD->Nat->dZ->iD
 |[],_,_=>[]
 |(k,o)::h,i,d=>bif k==i then(k,d)::h else(k,o)::jW h i d
structure St where
 fr:List cO
 stk:List (List cO)
 hp:iD
 nxt:Nat
inductive TK where
 |bool|str|other
 |int (k:IntKind)
 |slice (e:TypeId)
 |struct (fs:List (Nat×TypeId))
 |fn
 |ptr (e:TypeId)
 |map (k e:TypeId)
structure TI where
 known:Bool
 k:TK
 size:Nat
 bytes:Nat
 ty:Option Ty
 zero:List cO
 eq:Bool
 bld:Bool:=false
 keep:Bool:=false
instance:Inhabited TI:=⟨⟨false,.other,0,0,a7,[],false,false,false⟩⟩
inductive TT where
 |nil
 |node (k:Nat) (i:TI) (l r:TT)
def TT.at:TT->TypeId->TI
 |.nil,_=>default
 |.node k i l r,t=>bif Nat.beq k t then i else bif Nat.blt t k then l.at t else r.at t
def TI.isAgg (i:TI):Bool:=match i.k with|.struct _=>true|_=>false
def flat:(t:Ty)->t.den->List cO
 |.unit,_=>[]
 |.pair a b,x=>flat a x.1++flat b x.2
 |.bool,x=>[.val .bool x]
 |.int k,x=>[.val (.int k) x]
 |.str,x=>[.val .str x]
 |.list t,x=>[.val (.list t) x]
def cO.cells:cO->Option (List cO)
 |.val t x=>a6 (flat t x)
 |.agg l=>a6 l
 |.undef=>a7
 |.tup _=>a7
 |v=>a6 [v]
def leaf (t:Ty):cO->Option t.den
 |.val t' x=>mJ t x
 |.nils=>match t with|.list _=>a6 []|_=>a7
 |_=>a7
def mk:(t:Ty)->List cO->Option (t.den×List cO)
 |.unit,l=>a6 ((),l)
 |.pair a b,l=>
  match mk a l with
  |some (x,d)=>match mk b d with
   |some (y,e)=>a6 ((x,y),e)
   |none=>a7
  |none=>a7
 |.bool,c::l=>match leaf .bool c with|some x=>a6 (x,l)|none=>a7
 |.int k,c::l=>match leaf (.int k) c with|some x=>a6 (x,l)|none=>a7
 |.str,c::l=>match leaf .str c with|some x=>a6 (x,l)|none=>a7
 |.list t,c::l=>match leaf (.list t) c with|some x=>a6 (x,l)|none=>a7
 |_,[]=>a7
def I9 (t:Ty) (l:List cO):Option t.den:=
 match mk t l with
 |some (x,[])=>a6 x
 |_=>a7
def cO.isNils:cO->Bool
 |.nils=>true
 |_=>false
def norm (i:TI) (l:List cO):cO:=
 match i.k with
 |.struct _=>match i.ty with
  |some t=>match I9 t l with
   |some x=>bif i.keep&&l.any cO.isNils then .agg l else .val t x
   |none=>.agg l
  |none=>.agg l
 |_=>match l with
  |[v]=>v
  |_=>.undef
def acR {d:Type} (xs:List d):Option (Int×Int)->List d
 |none=>xs
 |some (lo,e)=>sub xs lo e
def DY (hp:iD) (t:Ty) (id d:Nat) (e:Option (Int×Int)):Option (List t.den):=
 match ed hp id with
 |some (.arr t' v f)=>bif v==d then(match mJ (.list t) (t':=.list t') f with|some ys=>a6 (acR ys e)|none=>a7)else a7
 |_=>a7
def cO.as (hp:iD) (t:Ty):cO->Option t.den
 |.val t' x=>mJ t x
 |.nils=>match t with|.list _=>a6 []|_=>a7
 |.emp=>match t with|.list _=>a6 []|_=>a7
 |.lst e xs _=>mJ (t':=.list e) t xs
 |.slc id ver d=>match t with|.list e=>DY hp e id ver d|_=>a7
 |.agg l=>bif t.isAgg then I9 t l else a7
 |_=>a7
def Zn:(t:Ty)->t.den->Nat->cO
 |.pair a _,x,0=>.val a x.1
 |.pair _ b,x,n+1=>Zn b x.2 n
 |_,_,_=>.undef
def TR:(t:Ty)->t.den->Nat->cO
 |.pair a _,x,0=>.cellp a x.1
 |.pair _ b,x,n+1=>TR b x.2 n
 |_,_,_=>.undef
def yY:Value->cO
 |.bool b=>.val .bool b
 |.int k n=>.val (.int k) n
 |.string s=>.val .str s.data.toList
 |.slice a7 0 0=>.nils
 |.pointer a7=>.nilp
 |.nilFunc=>.nilfn
 |_=>.undef
def Zb:Value->cO
 |.agg cs=>bif cs.toList.all Value.oneCell' then .agg (cs.toList.map yY)else .undef
 |.tuple _=>.undef
 |v=>yY v
def iM (fr:List cO):Operand->cO
 |.tmp t=>fr.getD t .undef
 |.const v=>Zb v
 |.global _=>.undef
 |.func f=>.fn f []
def nC:Nat:=140737488355328
def dJ (k:IntKind) (a b:Int):Int:=k.wrap (a+b)
def fO (k:IntKind) (a b:Int):Int:=k.wrap (a-b)
def anA (k:IntKind) (a b:Int):Int:=k.wrap (a*b)
def aFO (k:IntKind) (a b:Int):Int:=k.wrap (a.tdiv b)
def ao8 (d:BinOp) (k:IntKind) (a b:Int):Int:=
 let x:=BitVec.ofInt k.bits a
 let y:=BitVec.ofInt k.bits b
 match d with
 |.and=>k.wrap (x&&& y).toNat
 |.or=>k.wrap (x|||y).toNat
 |.xor=>k.wrap (x^^^y).toNat
 |_=>k.wrap (x&&& ~~~y).toNat
def ay0 (k:IntKind) (a b:Int):Int:=k.wrap (a*2^(min b.toNat k.bits))
def ay1 (k:IntKind) (a b:Int):Int:=a.fdiv (2^(min b.toNat k.bits))
def iV (a b:Int):Bool:=decide (a<b)
def leI (a b:Int):Bool:=decide (a<=b)
def cZ (a b:Int):Bool:=a==b
def bV {d:Type} (l:List d):Int:=(l.length:Int)
def QN (a b:Nat):Bool:=decide (a<b)
def eqN (a b:Nat):Bool:=Nat.beq a b
def leN (a b:Nat):Bool:=decide (a<=b)
def JJ (a b:Int):Int:=if b<a then b else a
def Eo (a b:Int):Int:=if b>a then b else a
def dm (s:List UInt8) (i:Int):Int:=((s.getD i.toNat 0).toNat:Int)
def gW {e:Type} (l:List e) (d:e) (i:Int):e:=l.getD i.toNat d
def iG (a b:List UInt8):Bool:=a==b
def ltS (a b:List UInt8):Bool:=Op.bytesLess a b
def dR (l:List UInt8):List Int:=l.map fun b=>(b.toNat:Int)
def ofBytes (l:List Int):List UInt8:=l.map fun n=>UInt8.ofNat n.toNat
def aIw (l:List UInt8):Bool:=decide (l.length<=nC)
def fG {d:Type} (l:List d) (e:Nat):Bool:=decide (l.length*e<=nC)
def iy {d:Type} (l:List d) (i:Int):Bool:=decide (0<=i)&&decide (i<(l.length:Int))
def gy (n lo hi:Int):Bool:=decide (0<=lo)&&(decide (lo<=hi)&&decide (hi<=n))
def jd {d:Type} (l:List d) (i:Nat) (x:d):List d:=l.set i x
def Bg (d:BinOp) (k:IntKind) (a b:Int):cO:=
 match d with
 |.add=>.val (.int k) (dJ k a b)
 |.sub=>.val (.int k) (fO k a b)
 |.mul=>.val (.int k) (anA k a b)
 |.eql=>.val .bool (cZ a b)
 |.neq=>.val .bool (!cZ a b)
 |.lss=>.val .bool (iV a b)
 |.leq=>.val .bool (leI a b)
 |.gtr=>.val .bool (iV b a)
 |.geq=>.val .bool (leI b a)
 |_=>.undef
def YW (d:BinOp) (a b:List UInt8):cO:=
 match d with
 |.eql=>.val .bool (iG a b)
 |.neq=>.val .bool (!iG a b)
 |.lss=>.val .bool (ltS a b)
 |.leq=>.val .bool (ltS a b||iG a b)
 |.gtr=>.val .bool (!(ltS a b||iG a b))
 |.geq=>.val .bool (!ltS a b)
 |_=>.undef
def TT.eqOk (T:TT):Nat->TypeId->Bool
 |0,_=>false
 |n+1,t=>(T.at t).known&&(match(T.at t).k with
  |.bool|.int _|.str=>true
  |.struct d=>(T.at t).eq&&d.all fun f=>T.eqOk n f.2
  |_=>false)
section
variable {R:Type}
def oN (b:Bool) (k:Option R):Option R:=cond b k a7
def adp (T:TT) (d:BinOp) (t:TypeId) (x y:cO) (K:cO->Option R):Option R:=
 match x,y with
 |.val (.int k) a,.val (.int f) b=>
  if k=f then
   match d with
   |.quo=>oN (!cZ b 0) (K (.val (.int k) (aFO k a b)))
   |.rem=>oN (!cZ b 0) (K (.val (.int k) (a.tmod b)))
   |.add|.sub|.mul|.eql|.neq|.lss|.leq|.gtr|.geq=>K (Bg d k a b)
   |.and|.or|.xor|.andNot=>K (.val (.int k) (ao8 d k a b))
   |.shl=>oN (leI 0 b) (K (.val (.int k) (ay0 k a b)))
   |.shr=>oN (leI 0 b) (K (.val (.int k) (ay1 k a b)))
  else
   match d with
   |.shl=>oN (leI 0 b) (K (.val (.int k) (ay0 k a b)))
   |.shr=>oN (leI 0 b) (K (.val (.int k) (ay1 k a b)))
   |_=>a7
 |.val .bool a,.val .bool b=>
  bif(T.at t).known then
   match(T.at t).k,d with
   |.bool,.eql=>K (.val .bool (a==b))
   |.bool,.neq=>K (.val .bool (!(a==b)))
   |_,_=>a7
  else a7
 |.val .str a,.val .str b=>
  match d with
  |.add=>oN (decide (a.length+b.length<=nC)) (K (.val .str (a++b)))
  |.eql|.neq|.lss|.leq|.gtr|.geq=>K (YW d a b)
  |_=>a7
 |.lst _ _ b,.nils=>bif(T.at t).known then(match(T.at t).k,d with
  |.slice _,.eql=>K (.val .bool b)
  |.slice _,.neq=>K (.val .bool (!b))
  |_,_=>a7)else a7
 |x,y=>
  bif !T.eqOk 6 t then a7 else
  match(T.at t).k,(T.at t).ty with
  |.struct _,a6 e=>
   match x.as [] e,y.as [] e,d with
   |some a,a6 b,.eql=>K (.val .bool (e.same a b))
   |some a,a6 b,.neq=>K (.val .bool (!e.same a b))
   |_,_,_=>a7
  |_,_=>a7
def F6:List (Int×Int)->Int->Option Int
 |[],_=>a7
 |(k,v)::l,a=>bif cZ a k then a6 v else F6 l a
def tV (l:List (Int×Int)) (a:Int):Int:=match F6 l a with
 |some v=>v
 |none=>0
def ate (l:List (Int×Int)) (a:Int):Bool:=match F6 l a with
 |some _=>true
 |none=>false
def xx:List (Int×Int)->Int->Int->List (Int×Int)
 |[],a,b=>[(a,b)]
 |(k,v)::l,a,b=>bif cZ a k then(k,b)::l else(k,v)::xx l a b
def TT.mapOf (T:TT) (t:TypeId):Option (IntKind×IntKind):=bif(T.at t).known then(match(T.at t).k with
 |.map k e=>bif(T.at k).known&&(T.at e).known then(match(T.at k).k,(T.at e).k with
  |.int a,.int b=>a6 (a,b)
  |_,_=>a7)else a7
 |_=>a7)else a7
def auK (hp:iD) (x y:cO):Bool:=match x with
 |.slc id ver _=>(match y with
  |.nils=>(match ed hp id with
   |some (.arr _ v d)=>v==ver&&QN 0 d.length
   |_=>false)
  |_=>false)
 |_=>false
def atL (hp:iD) (x y:cO):Bool:=match x with
 |.ptr id _=>(match y with
  |.nilp=>(match ed hp id with
   |some (.box _ _)=>true
   |_=>false)
  |_=>false)
 |_=>false
def TG (T:TT) (hp:iD) (d:BinOp) (t:TypeId) (x y:cO) (K:cO->Option R):Option R:=
 bif auK hp x y then(bif(T.at t).known then(match(T.at t).k,d with
  |.slice _,.eql=>K (.val .bool false)
  |.slice _,.neq=>K (.val .bool true)
  |_,_=>a7)else a7)else bif atL hp x y then(bif(T.at t).known then(match(T.at t).k,d with
  |.ptr _,.eql=>K (.val .bool false)
  |.ptr _,.neq=>K (.val .bool true)
  |_,_=>a7)else a7)else adp T d t x y K
def aqZ (d:UnOp) (x:cO) (K:cO->Option R):Option R:=
 match d,x with
 |.not,.val .bool b=>K (.val .bool (!b))
 |.neg,.val (.int k) a=>K (.val (.int k) (fO k 0 a))
 |_,_=>a7
def F7 (cl:Bool) (st:St) (dst:Option Nat):Nat:=cond cl st.nxt<|1000000*st.stk.length+dst.getD 0
def alloc (cl:Bool) (dst:Option Nat) (o:dZ) (st:St) (K:Nat->St->Option R):Option R:=
 match ed st.hp (F7 cl st dst)with
 |some _=>a7
 |none=>bif st.nxt.ble (F7 cl st dst)then K (F7 cl st dst) {st with hp:=(F7 cl st dst,o)::st.hp,nxt:=bif cl then F7 cl st dst+1 else st.nxt}else a7
def Kv (cs:List cO) (off k:Nat):Option (List cO):=cond ((off+k).ble cs.length) (a6 ((cs.drop off).take k)) a7
def putCells (cs:List cO) (off:Nat) (vs:List cO):Option (List cO):=cond ((off+vs.length).ble cs.length) (a6 (cs.take off++vs++cs.drop (off+vs.length))) a7
def NZ (T:TT) (hp:iD) (t:TypeId) (a:cO) (K:cO->Option R):Option R:=
 bif !(T.at t).known then a7 else
 match a with
 |.cellp u x=>match(T.at t).ty with
  |some d=>match mJ d x with
   |some y=>K (.val d y)
   |none=>a7
  |none=>a7
 |.ptr id off=>match ed hp id with
  |some (.box _ cs)=>match Kv cs off (T.at t).size with
   |some l=>K (norm (T.at t) l)
   |none=>a7
  |_=>a7
 |.ep id ver i off=>match ed hp id with
  |some (.arr u v e)=>bif v==ver then
    (bif QN i e.length then
     (match Kv (flat u (e.getD i u.dflt)) off (T.at t).size with
     |some l=>K (norm (T.at t) l)
     |none=>a7)else a7)else a7
  |_=>a7
 |_=>a7
def KO (T:TT) (st:St) (t:TypeId) (a v:cO) (K:St->Option R):Option R:=
 match v.cells with
 |none=>a7
 |some d=>
  bif(T.at t).known&&d.length==(T.at t).size then
   match a with
   |.ptr id off=>match ed st.hp id with
    |some (.box bt cs)=>match putCells cs off d with
     |some f=>K {st with hp:=jW st.hp id (.box bt f)}
     |none=>a7
    |_=>a7
   |.ep id ver i off=>match ed st.hp id with
    |some (.arr u w e)=>bif w==ver then
      (bif QN i e.length then
       (match putCells (flat u (e.getD i u.dflt)) off d with
       |some cs=>match I9 u cs with
        |some x=>K {st with hp:=jW st.hp id (.arr u w (jd e i x))}
        |none=>a7
       |none=>a7)else a7)else a7
    |_=>a7
   |_=>a7
  else a7
def adq (d:iD) (st:St) (a v:cO) (K:St->Option R):Option R:=
 match a,v with
 |.ptr id off,.slc i _ (a6 _)=>match ed d id with
  |some (.box _ f)=>match f.getD off .undef with
   |.slc i0 _ a7=>bif Nat.beq i0 i&& !Nat.beq i id then
     (match ed st.hp id,ed st.hp i with
     |some (.box bt cs),a6 (.arr e w g)=>match cs.getD off .undef with
      |.slc i1 w1 (a6 (lo,j))=>bif Nat.beq i1 i&&(w1==w&&lo==0)then
        K {st with hp:=jW (jW st.hp i (.arr e (w+1) (g.take j.toNat))) id (.box bt (cs.set off (.slc i (w+1) a7)))}else K st
      |_=>K st
     |_,_=>K st)else K st
   |_=>K st
  |_=>K st
 |_,_=>K st
def KI (T:TT) (d:List (Nat×TypeId)) (cs:List cO):List (Nat×cO)->Option (List cO)
 |[]=>a6 cs
 |(i,v)::g=>match d[i]?,v.cells with
  |some (off,e),a6 f=>bif(T.at e).known&&f.length==(T.at e).size then
    (match putCells cs off f with
    |some j=>KI T d j g
    |none=>a7)else a7
  |_,_=>a7
def KL (e:Ty) (xs:List e.den):List (Nat×cO)->Option (List e.den)
 |[]=>a6 xs
 |(i,v)::d=>match v.as [] e with
  |some x=>bif QN i xs.length then KL e (xs.set i x) d else a7
  |none=>a7
def intOf:cO->Option Int
 |.val (.int _) n=>a6 n
 |_=>a7
def bound (d:Int):Option cO->Option Int
 |none=>a6 d
 |some v=>intOf v
def TT.rowOf (T:TT) (t:TypeId) (size:Nat):Bool:=
 match(T.at t).k with
 |.slice e=>(T.at t).known&&((T.at e).known&&((T.at e).size==size&&(QN 0 size&&QN 0 (T.at e).bytes)))
 |_=>false
def TT.isPtr (T:TT) (t:TypeId):Bool:=
 match(T.at t).k with
 |.ptr _=>(T.at t).known
 |_=>false
def TT.isBytes (T:TT) (t:TypeId):Bool:=
 match(T.at t).k with
 |.ptr e=>(T.at t).known&&((T.at e).known&&(match(T.at e).ty with|some (.int .u8)=>Nat.beq (T.at e).size 1|_=>false))
 |_=>false
def TT.isStr (T:TT) (t:TypeId):Bool:=
 match(T.at t).k with
 |.str=>(T.at t).known
 |_=>false
def KN (T:TT) (hp:iD) (t:TypeId) (x:cO) (lo hi f:Option cO) (K:cO->Option R):Option R:=
 match x,f with
 |.val .str s,a7=>match bound 0 lo,bound (bV s) hi with
  |some l,a6 h=>oN (T.isStr t&&gy (bV s) l h) (K (.val .str (sub s l h)))
  |_,_=>a7
 |.val (.list e) d,a7=>match bound 0 lo,bound (bV d) hi with
  |some l,a6 h=>oN (T.rowOf t e.size&&gy (bV d) l h) (K (.val (.list e) (sub d l h)))
  |_,_=>a7
 |.val (.list e) d,a6 m=>match bound 0 lo,hi.bind intOf,intOf m with
  |some l,a6 h,a6 k=>oN (T.rowOf t e.size&&(l==0&&(h==0&&k==0))) (K .emp)
  |_,_,_=>a7
 |.nils,a7=>match bound 0 lo,bound 0 hi with
  |some l,a6 h=>oN (T.rowOf t (T.at (match(T.at t).k with|.slice e=>e|_=>0)).size&&(cZ l 0&&cZ h 0)) (K .nils)
  |_,_=>a7
 |.slc id ver a7,a7=>match ed hp id with
  |some (.arr e v d)=>bif v==ver then
    (match bound 0 lo,bound (bV d) hi with
    |some l,a6 h=>oN (T.rowOf t e.size&&gy (bV d) l h) (K (.slc id ver (a6 (l,h))))
    |_,_=>a7)else a7
  |_=>a7
 |_,_=>a7
def TT.fieldAt (T:TT) (t:TypeId) (f:Nat):Option (Nat×TypeId):=
 match(T.at t).k with
 |.struct e=>bif(T.at t).known then
   (match e[f]? with
   |some (off,d)=>bif(T.at d).known&&QN 0 (T.at d).size then a6 (off,d)else a7
   |none=>a7)else a7
 |_=>a7
def wJ (T:TT) (hp:iD) (t:TypeId) (x:cO) (f:Nat) (K:cO->Option R):Option R:=
 match T.fieldAt t f with
 |some (off,_)=>match x with
  |.cellp u x=>match(T.at t).ty with
   |some d=>match mJ d x with
    |some y=>K (TR d y f)
    |none=>a7
   |none=>a7
  |.ptr id o=>match ed hp id with
   |some (.box _ _)=>K (.ptr id (o+off))
   |_=>a7
  |.ep id ver i o=>match ed hp id with
   |some (.arr _ v _)=>bif v==ver then K (.ep id ver i (o+off))else a7
   |_=>a7
  |_=>a7
 |none=>a7
def KJ (T:TT) (t:TypeId) (x:cO) (f:Nat) (K:cO->Option R):Option R:=
 match T.fieldAt t f with
 |some (off,d)=>match x with
  |.val u x=>match(T.at t).ty with
   |some e=>match mJ e x with
    |some y=>K (Zn e y f)
    |none=>a7
   |none=>a7
  |.agg l=>match Kv l off (T.at d).size with
   |some cs=>K (norm (T.at d) cs)
   |none=>a7
  |_=>a7
 |none=>a7
def wK (T:TT) (hp:iD) (t:TypeId) (x i:cO) (K:cO->Option R):Option R:=
 match intOf i with
 |none=>a7
 |some i=>match x with
  |.val (.list e) d=>oN (T.rowOf t e.size&&iy d i) (K (.cellp e (gW d e.dflt i)))
  |.slc id ver f=>match ed hp id with
   |some (.arr e v d)=>bif v==ver then
     (match f with
     |none=>oN (T.rowOf t e.size&&iy d i) (K (.ep id ver i.toNat 0))
     |some (lo,g)=>oN (T.rowOf t e.size&&(decide (0<=i)&&iV (lo+i) g)) (K (.ep id ver (lo+i).toNat 0)))else a7
   |_=>a7
  |_=>a7
def adr (T:TT) (hp:iD) (t:TypeId) (x:cO) (K:cO->Option R):Option R:=
 match x with
 |.val .str s=>oN (T.isStr t) (K (.val (.int .i64) (bV s)))
 |.val (.list e) d=>oN (T.rowOf t e.size) (K (.val (.int .i64) (bV d)))
 |.nils=>oN (T.rowOf t (T.at (match(T.at t).k with|.slice e=>e|_=>0)).size) (K (.val (.int .i64) 0))
 |.slc id ver f=>match ed hp id with
  |some (.arr e v d)=>bif v==ver then
    oN (T.rowOf t e.size) (match f with
    |none=>K (.val (.int .i64) (bV d))
    |some (lo,g)=>K (.val (.int .i64) (g-lo)))else a7
  |_=>a7
 |_=>a7
def KH (T:TT) (cl:Bool) (dst:Option Nat) (t:TypeId) (s x:cO) (st:St) (K:cO->St->Option R):Option R:=
 match(T.at t).k with
 |.slice g=>match(T.at g).ty with
  |some e=>match x.as st.hp (.list e)with
   |none=>a7
   |some d=>match s with
    |.nils=>oN (T.rowOf t e.size&&fG d (T.at g).bytes) (alloc cl dst (.arr e 0 d) st fun id st=>K (.slc id 0 a7) st)
    |.emp=>oN (T.rowOf t e.size&&fG d (T.at g).bytes) (bif QN 0 d.length then alloc cl dst (.arr e 0 d) st fun id st=>K (.slc id 0 a7) st else K .emp st)
    |.slc id ver j=>match ed st.hp id with
     |some (.arr e' v f)=>bif v==ver then
       (match mJ (t':=.list e') (.list e) f with
       |some f=>match j with
        |none=>oN (T.rowOf t e.size&&fG (f++d) (T.at g).bytes) (K (.slc id (ver+1) a7) {st with hp:=jW st.hp id (.arr e (ver+1) (f++d))})
        |some (lo,i)=>oN (T.rowOf t e.size&&(cZ lo 0&&fG (f.take i.toNat++d) (T.at g).bytes))
          (K (.slc id (ver+1) a7) {st with hp:=jW st.hp id (.arr e (ver+1) (f.take i.toNat++d))})
       |none=>a7)else a7
     |_=>a7
    |_=>a7
  |none=>a7
 |_=>a7
def CP (T:TT) (cl:Bool) (dst:Option Nat) (t t':TypeId) (s x:cO) (st:St) (K:cO->St->Option R):Option R:=
 match(T.at t).k,x with
 |.slice d,.val .str y=>match(T.at d).ty with
  |some (.int .u8)=>bif T.isStr t'&&T.rowOf t 1&&Nat.beq (T.at d).bytes 1 then
    (match s with
    |.nils=>oN (aIw y) (alloc cl dst (.arr (.int .u8) 0 (dR y)) st fun id st=>K (.slc id 0 a7) st)
    |.slc id ver f=>match ed st.hp id with
     |some (.arr (.int .u8) v e)=>bif v==ver then
       (match f with
       |none=>oN (fG (e++dR y) 1) (K (.slc id (ver+1) a7) {st with hp:=jW st.hp id (.arr (.int .u8) (ver+1) (e++dR y))})
       |some _=>a7)else a7
     |_=>a7
    |_=>a7)else a7
  |_=>a7
 |_,_=>a7
def CQ (T:TT) (s d:TypeId) (x:cO) (hp:iD) (K:cO->Option R):Option R:=
 bif !((T.at s).known&&(T.at d).known)then a7 else
 match(T.at s).k,(T.at d).k,x with
 |.int _,.int k,.val (.int _) n=>K (.val (.int k) (k.wrap n))
 |.str,.str,.val .str s=>K (.val .str s)
 |.slice e,.str,x=>match(T.at e).k with
  |.int .u8=>match x.as hp (.list (.int .u8))with
   |some f=>oN (T.at e).known (K (.val .str (ofBytes f)))
   |none=>a7
  |_=>a7
 |_,_,_=>a7
abbrev gZ (R:Type):=cO->List cO->Option Nat->St->(cO->St->Option R)->Option R
def DT (k:IntKind):List cO->Option (List Int)
 |[]=>a6 []
 |.val (.int d) a::l=>if k=d then match DT k l with
   |some l=>a6 (a::l)
   |none=>a7
  else a7
 |_=>a7
def mF (T:TT) (cl:Bool) (o:Oper) (b:Builtin) (d:List TypeId) (args:List cO) (st:St) (K:cO->St->Option R):Option R:=
 match b,args with
 |.len,[x]=>match d with
  |[t]=>adr T st.hp t x fun v=>K v st
  |_=>a7
 |.min,.val (.int k) a::l=>match DT k l with
  |some l=>K (.val (.int k) (l.foldl JJ a)) st
  |none=>a7
 |.max,.val (.int k) a::l=>match DT k l with
  |some l=>K (.val (.int k) (l.foldl Eo a)) st
  |none=>a7
 |.append,[s,x]=>match d with
  |[t,g]=>bif t==g then KH T cl o.dst t s x st K else CP T cl o.dst t g s x st K
  |_=>a7
 |.unsafeSliceData,[.slc id f a7]=>match d with
  |[t]=>match ed st.hp id with
   |some (.arr e v _)=>bif v==f&&(T.rowOf t e.size&&T.isPtr o.type)then K (.sd id f) st else a7
   |_=>a7
  |_=>a7
 |.unsafeString,[.sd id f,.val (.int .i64) n]=>match d with
  |[j,_]=>match ed st.hp id with
   |some (.arr (.int .u8) v i)=>bif v==f&&T.isBytes j then oN (cZ n (bV i)) (K (.val .str (ofBytes i)) {st with hp:=jW st.hp id .dead})else a7
   |_=>a7
  |_=>a7
 |_,_=>a7
def fH (T:TT) (cl:Bool) (call:gZ R) (o:Oper) (st:St) (K:cO->St->Option R):Option R:=
 match o.op with
 |.move x|.assign x=>K (iM st.fr x) st
 |.pick c a b=>match iM st.fr c with
  |.val .bool t=>bif t then K (iM st.fr a) st else K (iM st.fr b) st
  |_=>a7
 |.alloc t=>bif(T.at t).known then
   (match(T.at t).k,(T.at t).zero with
   |.slice j,[.nils]=>match(T.at j).ty with
    |some e=>bif QN 0 e.size then alloc cl (a6 (o.dst.getD 0+500000)) (.arr e 0 []) st fun i st=>alloc cl o.dst (.box t [.slc i 0 a7]) st fun id st=>K (.ptr id 0) st
     else a7
    |none=>alloc cl o.dst (.box t (T.at t).zero) st fun id st=>K (.ptr id 0) st
   |.struct _,[.nilp,.nils]=>bif(T.at t).bld then
     alloc cl (a6 (o.dst.getD 0+500000)) (.arr (.int .u8) 0 []) st fun i st=>alloc cl o.dst (.box t [.slf (F7 cl st o.dst),.slc i 0 a7]) st fun id st=>K (.ptr id 0) st
    else alloc cl o.dst (.box t (T.at t).zero) st fun id st=>K (.ptr id 0) st
   |_,z=>alloc cl o.dst (.box t z) st fun id st=>K (.ptr id 0) st)else a7
 |.box t x=>match(iM st.fr x).cells with
  |some D=>bif(T.at t).known&&D.length==(T.at t).size then alloc cl o.dst (.box t D) st fun id st=>K (.ptr id 0) st else a7
  |none=>a7
 |.build t A=>bif !(T.at t).known then a7 else
  match(T.at t).k with
  |.struct J=>match KI T J (T.at t).zero (A.toList.map fun p=>(p.1,iM st.fr p.2))with
   |some cs=>K (norm (T.at t) cs) st
   |none=>a7
  |_=>a7
 |.buildSlice t n A=>match(T.at t).k with
  |.slice j=>match(T.at j).ty with
   |some e=>match I9 e (T.at j).zero with
    |some d=>bif T.rowOf t e.size&&leN (n*e.size) 1000000 then
      (match KL e (List.replicate n d) (A.toList.map fun p=>(p.1,iM st.fr p.2))with
      |some L=>alloc cl o.dst (.arr e 0 L) st fun id st=>K (.slc id 0 a7) st
      |none=>a7)else a7
    |none=>a7
   |none=>a7
  |_=>a7
 |.load t a=>NZ T st.hp t (iM st.fr a) fun v=>K v st
 |.store t a v=>KO T st t (iM st.fr a) (iM st.fr v) fun M=>adq st.hp M (iM st.fr a) (iM st.fr v) fun st=>K .undef st
 |.nilCheck x=>match iM st.fr x with
  |.ptr id off=>match ed st.hp id with
   |some (.box _ _)=>K (.ptr id off) st
   |_=>a7
  |.cellp t x=>K (.cellp t x) st
  |.ep id ver i off=>match ed st.hp id with
   |some (.arr _ v _)=>bif v==ver then K (.ep id ver i off) st else a7
   |_=>a7
  |_=>a7
 |.binOp op t x y _=>TG T st.hp op t (iM st.fr x) (iM st.fr y) fun v=>K v st
 |.unOp op _ x=>aqZ op (iM st.fr x) fun v=>K v st
 |.makeMap t r=>match r,T.mapOf t with
  |none,a6 (q,g)=>alloc cl o.dst (.mp q g []) st fun id st=>K (.mpv id) st
  |_,_=>a7
 |.mapUpdate t m k x=>match T.mapOf t,iM st.fr m with
  |some (q,g),.mpv id=>match ed st.hp id,iM st.fr k,iM st.fr x with
   |some (.mp kk' vk' u),.val (.int B) a,.val (.int N) b=>
    bif decide (kk'=q)&&(decide (B=q)&&(decide (vk'=g)&&decide (N=g)))then K .undef {st with hp:=jW st.hp id (.mp q g (xx u a b))}else a7
   |_,_,_=>a7
  |_,_=>a7
 |.lookup t m k ok=>match T.mapOf t,iM st.fr m with
  |some (q,g),.mpv id=>match ed st.hp id,iM st.fr k with
   |some (.mp kk' vk' u),.val (.int B) a=>
    bif decide (kk'=q)&&(decide (B=q)&&decide (vk'=g))then
     K (bif ok then .tup [.val (.int g) (tV u a),.val .bool (ate u a)]else .val (.int g) (tV u a)) st else a7
   |_,_=>a7
  |_,_=>a7
 |.convert s d x=>CQ T s d (iM st.fr x) st.hp fun v=>K v st
 |.makeFunc f first I=>match f,first.toList with
  |.func f,[]=>K (.fn f (I.toList.map (iM st.fr))) st
  |.func f,l=>bif I.toList.isEmpty then K (.mfn f (l.map (iM st.fr))) st else a7
  |_,_=>a7
 |.makeSlice t l c=>match(T.at t).k with
  |.slice j=>match(T.at j).ty,intOf (iM st.fr l),intOf (iM st.fr c)with
   |some e,a6 l,a6 c=>match I9 e (T.at j).zero with
    |some d=>oN (T.rowOf t e.size&&(decide (0<=l)&&(decide (l<=c)&&decide (c.toNat*(T.at j).bytes<=nC))))
      (alloc cl o.dst (.arr e 0 (List.replicate l.toNat d)) st fun id st=>K (.slc id 0 a7) st)
    |none=>a7
   |_,_,_=>a7
  |_=>a7
 |.slice t x lo hi O=>KN T st.hp t (iM st.fr x) (lo.map (iM st.fr)) (hi.map (iM st.fr)) (O.map (iM st.fr)) fun v=>K v st
 |.fieldAddr t x f=>wJ T st.hp t (iM st.fr x) f fun v=>K v st
 |.field t x f=>KJ T t (iM st.fr x) f fun v=>K v st
 |.indexAddr t x i=>wK T st.hp t (iM st.fr x) (iM st.fr i) fun v=>K v st
 |.index t x i=>match iM st.fr x,intOf (iM st.fr i)with
  |.val .str s,a6 i=>oN (T.isStr t&&iy s i) (K (.val (.int .u8) (dm s i)) st)
  |_,_=>a7
 |.extract x n=>match iM st.fr x with
  |.tup l=>match l[n]? with
   |some v=>K v st
   |none=>a7
  |_=>a7
 |.call c=>match c.callee with
  |.builtin b=>mF T cl o b c.argTypes.toList (c.args.toList.map (iM st.fr)) st K
  |.value f=>call (iM st.fr f) (c.args.toList.map (iM st.fr)) o.dst st K
  |_=>a7
 |_=>a7
def St.put (st:St) (dst:Option Nat) (v:cO):St:=
 match dst with
 |some d=>{st with fr:=st.fr.set d v}
 |none=>st
def iU (T:TT) (cl:Bool) (call:gZ R) (ops:Array Oper) (K:St->Option R):List Oper->St->Option R
 |[],st=>K st
 |o::e,st=>
  match o.guard with
  |none=>fH T cl call o st fun v st=>iU T cl call ops K e (st.put o.dst v)
  |some (j,f)=>match(ops[j]?).bind (·.dst)with
   |none=>a7
   |some d=>match st.fr.getD d .undef with
    |.val .bool b=>
     bif b then
      (bif f then fH T cl call o (st.put (a6 d) (.val .bool true)) fun v st=>iU T cl call ops K e (st.put o.dst v)
      else iU T cl call ops K e ((st.put (a6 d) (.val .bool true)).put o.dst (.tup [])))
     else
      (bif f then iU T cl call ops K e ((st.put (a6 d) (.val .bool false)).put o.dst (.tup []))
      else fH T cl call o (st.put (a6 d) (.val .bool false)) fun v st=>iU T cl call ops K e (st.put o.dst v))
    |.tup []=>iU T cl call ops K e (st.put o.dst (.tup []))
    |_=>a7
mutual
def refs:cO->List Nat
 |.ptr id _=>[id]
 |.slc id _ _=>[id]
 |.ep id _ _ _=>[id]
 |.slf id=>[id]
 |.sd id _=>[id]
 |.yld id=>[id]
 |.tup l=>nY l
 |.agg l=>nY l
 |.fn _ l=>nY l
 |.mfn _ l=>nY l
 |.mpv id=>[id]
 |_=>[]
def nY:List cO->List Nat
 |[]=>[]
 |v::l=>refs v++nY l
end
def uZ:List (List cO)->List Nat
 |[]=>[]
 |l::d=>nY l++uZ d
def dZ.refs:dZ->List Nat
 |.box _ cs=>nY cs
 |.lp _ fr _ _ _ _ _ _=>nY fr
 |_=>[]
def zF:iD->List Nat
 |[]=>[]
 |(_,o)::h=>o.refs++zF h
def Z4 (l:List Nat) (i:Nat):Bool:=l.any (Nat.beq i)
def atS (h:iD):Nat->List Nat->List Nat
 |0,l=>l
 |n+1,l=>atS h n (l++zF (h.filter fun e=>Z4 l e.1))
def F9 (d l:List Nat):Bool:=l.all fun i=> !Z4 d i
def gc (d:Nat) (v:cO) (st:St):Option St:=
 let i:=st.hp.filter fun e=>Nat.blt e.1 d
 let new:=st.hp.filter fun e=> !Nat.blt e.1 d
 let f:=atS new 3 (refs v++nY st.fr++uZ st.stk++zF i)
 let g:=st.hp.filter fun e=>Nat.blt e.1 d||Z4 f e.1
 let j:=((st.hp.filter fun e=> !(Nat.blt e.1 d||Z4 f e.1)).map (·.1))
 bif F9 j (refs v++nY st.fr++uZ st.stk++zF g)then a6 {st with hp:=g}else a7
def aAV (h:iD) (id:Nat):Option Nat:=
 match ed h id with
 |some (.arr _ v _)=>a6 v
 |_=>a7
def Ue (h:iD) (id d:Nat):Bool:=match aAV h id with
 |some v=>v==d
 |none=>false
mutual
def anew (h:iD):cO->cO
 |.slc id d e=>bif Ue h id d then .slc id 0 e else .undef
 |.ep id d i off=>bif Ue h id d then .ep id 0 i off else .undef
 |.sd id d=>bif Ue h id d then .sd id 0 else .undef
 |.tup l=>.tup (Ci h l)
 |.agg l=>.agg (Ci h l)
 |.fn f l=>.fn f (Ci h l)
 |.mfn f l=>.mfn f (Ci h l)
 |v=>v
def Ci (h:iD):List cO->List cO
 |[]=>[]
 |v::l=>anew h v::Ci h l
end
def dZ.anew (h:iD):dZ->dZ
 |.box t cs=>.box t (Ci h cs)
 |.lp f fr ps a b k n p=>.lp f (Ci h fr) ps a b k n p
 |.arr t _ d=>.arr t 0 d
 |o=>o
def YQ (st:St):St:=
 {st with fr:=Ci st.hp st.fr,stk:=st.stk.map (Ci st.hp),hp:=st.hp.map fun e=>(e.1,e.2.anew st.hp)}
structure fZ where
 slots:List Nat
 owns:List (Nat×Ty)
 after:List Nat
 aowns:List (Nat×Ty)
 rets:List Nat
 give:List (Nat×Ty)
def I7 (l:List Nat):Nat->List cO->List cO
 |_,[]=>[]
 |i,v::r=>(bif Z4 l i then v else .undef)::I7 l (i+1) r
def Az (s:Nat) (t:Ty) (st:St):Option St:=
 match st.fr.getD s .undef with
 |.nils=>match ed st.hp (1000000*st.stk.length+800000+s)with
  |some _=>a7
  |none=>bif st.nxt.ble (1000000*st.stk.length+800000+s)&&Nat.blt 0 t.size then
    a6 {st with fr:=st.fr.set s (.slc (1000000*st.stk.length+800000+s) 0 a7),hp:=(1000000*st.stk.length+800000+s,.arr t 0 [])::st.hp}else a7
 |.slc id ver d=>match ed st.hp id with
  |some (.arr u w e)=>bif w==ver then
    (match d with
    |none=>a6 st
    |some (lo,f)=>bif lo==0 then
      a6 {st with fr:=st.fr.set s (.slc id (ver+1) a7),hp:=jW st.hp id (.arr u (ver+1) (e.take f.toNat))}else a7)else a7
  |_=>a7
 |_=>a7
def arA (k:Nat) (o:dZ):iD->iD
 |[]=>[(k,o)]
 |(j,p)::h=>bif Nat.ble j k then(k,o)::(j,p)::h else(j,p)::arA k o h
def nZ:iD->iD
 |[]=>[]
 |(k,o)::h=>arA k o (nZ h)
def U1 (id off:Nat) (t:Ty) (st:St):Option St:=
 match ed st.hp id with
 |some (.box bt cs)=>match cs.getD off .undef with
  |.nils=>match t with
   |.pair .unit d=>a6 {st with hp:=jW st.hp id (.box bt (cs.set off (.val (.list d) [])))}
   |t=>match ed st.hp (id+500000+2000*off)with
    |some _=>a7
    |none=>bif st.nxt.ble (id+500000+2000*off)&&Nat.blt 0 t.size then
      a6 {st with hp:=jW ((id+500000+2000*off,.arr t 0 [])::st.hp) id (.box bt (cs.set off (.slc (id+500000+2000*off) 0 a7)))}else a7
  |_=>a6 st
 |_=>a6 st
def Q3 (id off:Nat) (t:Ty) (st:St):Option St:=
 match U1 id off t st with
 |some st=>a6 {st with hp:=nZ st.hp}
 |none=>a7
def FP (s:Nat) (t:Ty) (st:St):Option St:=
 match st.fr.getD s .undef with
 |.nils=>a6 {st with fr:=st.fr.set s (.val (.list t) [])}
 |.emp=>a6 {st with fr:=st.fr.set s (.val (.list t) [])}
 |.slc id ver a7=>match ed st.hp id with
  |some (.arr u w d)=>bif w==ver&&F9 ((st.hp.filter fun e=> !(!Nat.beq e.1 id)).map (·.1)) (nY (st.fr.set s .undef)++uZ st.stk++zF (st.hp.filter fun e=> !Nat.beq e.1 id))then
    a6 {st with fr:=st.fr.set s (.val (.list u) d),hp:=st.hp.filter fun e=> !Nat.beq e.1 id}else a7
  |_=>a7
 |.slc _ _ (a6 _)=>a7
 |_=>a6 st
def Ro (s:Nat) (t:Ty) (st:St):Option St:=
 match st.fr.getD s .undef with
 |.slc id ver a7=>bif Nat.beq id (1000000*st.stk.length+800000+s)then a6 {st with hp:=nZ st.hp}else
  match ed st.hp id with
  |some (.arr u w d)=>bif st.nxt.ble (1000000*st.stk.length+800000+s)&&F9 [id,1000000*st.stk.length+800000+s] (nY (st.fr.set s .undef)++uZ st.stk++zF (st.hp.filter fun e=> !(Nat.beq e.1 id||Nat.beq e.1 (1000000*st.stk.length+800000+s))))then
    a6 {st with fr:=st.fr.set s (.slc (1000000*st.stk.length+800000+s) ver a7),hp:=nZ ((1000000*st.stk.length+800000+s,.arr u w d)::st.hp.filter fun e=> !(Nat.beq e.1 id||Nat.beq e.1 (1000000*st.stk.length+800000+s)))}else a7
  |_=>a7
 |.ptr id 0=>bif Nat.beq id (1000000*st.stk.length+800000+s)then a6 {st with hp:=nZ st.hp}else
  match ed st.hp id with
  |some (.box u d)=>bif st.nxt.ble (1000000*st.stk.length+800000+s)&&F9 [id,1000000*st.stk.length+800000+s] (nY (st.fr.set s .undef)++uZ st.stk++(nY d++zF (st.hp.filter fun e=> !(Nat.beq e.1 id||Nat.beq e.1 (1000000*st.stk.length+800000+s)))))then
    a6 {st with fr:=st.fr.set s (.ptr (1000000*st.stk.length+800000+s) 0),hp:=nZ ((1000000*st.stk.length+800000+s,.box u d)::st.hp.filter fun e=> !(Nat.beq e.1 id||Nat.beq e.1 (1000000*st.stk.length+800000+s)))}else a7
  |_=>a7
 |_=>match Az s t st with
  |some st=>a6 {st with hp:=nZ st.hp}
  |none=>a7
def Hu:List (Nat×Ty)->St->Option St
 |[],st=>a6 st
 |(s,t)::l,st=>match FP s t st with
  |some st=>Hu l st
  |none=>a7
def lw:List (Nat×Ty)->St->Option St
 |[],st=>a6 st
 |(s,.pair .unit t)::l,st=>match FP s t st with
  |some st=>lw l st
  |none=>a7
 |(s,.pair (.list .unit) t)::l,st=>match Q3 (s/100) (s %100) t st with
  |some st=>lw l st
  |none=>a7
 |(s,.pair (.list .bool) t)::l,st=>match Ro s t st with
  |some st=>lw l st
  |none=>a7
 |(s,t)::l,st=>match Az s t st with
  |some st=>lw l st
  |none=>a7
def Nz (d:List Nat) (e:List (Nat×Ty)) (st:St):Option St:=
 match(match e with
  |[]=>a6 {st with fr:=I7 d 0 st.fr}
  |_=>gc (1000000*st.stk.length) .undef {st with fr:=I7 d 0 st.fr})with
 |some st=>match lw e st with
  |some st=>match gc (1000000*st.stk.length) .undef st with
   |some st=>a6 (YQ st)
   |none=>a7
  |none=>a7
 |none=>a7
def av2 (k:fZ) (st:St):Option St:=
 match Hu k.give {st with fr:=I7 k.rets 0 st.fr}with
 |some st=>match gc (1000000*st.stk.length) .undef st with
  |some st=>a6 (YQ st)
  |none=>a7
 |none=>a7
def iter (kp:Option fZ) (F:St->(Ex->St->Option R)->Option R):Nat->St->(Ex->St->Option R)->Option R
 |0,_,_=>a7
 |n+1,st,K=>F st fun d st=>match d with
  |.normal=>match kp with
   |none=>iter kp F n st K
   |some k=>match Nz k.slots k.owns st with
    |some st=>iter kp F n st K
    |none=>a7
  |.ret=>match kp with
   |none=>K .ret st
   |some k=>match av2 k st with
    |some st=>K .ret st
    |none=>a7
  |d=>match kp with
   |none=>K d st
   |some k=>match Nz k.after k.aowns st with
    |some st=>K d st
    |none=>a7
def dN:Code->Nat
 |.region id _ _=>id
 |.seq a _=>dN a
 |.block _ c=>dN c
 |.loop c=>dN c
 |.scope c=>dN c
 |.cond _ a _=>dN a
 |_=>0
def bY:Nat:=10000000000000000000000000000000000000000
def Ty.rigid:Ty->Bool
 |.list _=>false
 |.pair a b=>a.rigid&&b.rigid
 |_=>true
structure Sum where
 ps:List Ty
 rs:List (Ty×Bool)
 f:(ps.foldr Ty.pair Ty.unit).den->Option ((rs.map (·.1)).foldr Ty.pair Ty.unit).den
def Cj (hp:iD):(ps:List Ty)->List cO->Option (ps.foldr Ty.pair Ty.unit).den
 |[],[]=>a6 ()
 |t::d,v::e=>match v.as hp t with
  |some x=>match Cj hp d e with
   |some y=>a6 (x,y)
   |none=>a7
  |none=>a7
 |_,_=>a7
def Ty.elem:Ty->Ty
 |.list t=>t
 |t=>t
def qN (id:Nat):(rs:List (Ty×Bool))->((rs.map (·.1)).foldr Ty.pair Ty.unit).den->List cO
 |[],_=>[]
 |(t,false)::rs,y=>.val t y.1::qN id rs y.2
 |(_,true)::rs,y=>.slc id 0 a7::qN id rs y.2
def Au:(rs:List (Ty×Bool))->((rs.map (·.1)).foldr Ty.pair Ty.unit).den->Option (Σ e:Ty,List e.den)
 |[],_=>a7
 |(_,false)::rs,y=>Au rs y.2
 |(.list e,true)::_,y=>a6 ⟨e,y.1⟩
 |(_,true)::_,_=>a7
def pG:cO->Bool
 |.slc _ _ _=>true
 |.agg _=>true
 |_=>false
def OW:List cO->cO
 |[v]=>v
 |vs=>.tup vs
def news:List (Ty×Bool)->Nat
 |[]=>0
 |(_,false)::d=>news d
 |(_,true)::d=>news d+1
def bU {d e:Type} (o:Option d) (k:d->Option e):Option e:=
 match o with
 |some x=>k x
 |none=>a7
def Sum.call (s:Sum) (cl:Bool) (args:List cO) (dst:Option Nat) (st:St) (K:cO->St->Option R):Option R:=
 bif s.rs.all (fun r=>r.1.rigid||(r.2&&r.1.elem.rigid))|| !args.any pG then
  match Cj st.hp s.ps args with
  |some x=>bU (s.f x) fun y=>match Au s.rs y with
   |none=>bif Nat.beq (news s.rs) 0 then K (OW (qN 0 s.rs y)) st else a7
   |some ⟨e,d⟩=>bif Nat.beq (news s.rs) 1 then alloc cl (a6 (dst.getD 0+100000)) (.arr e 0 d) st fun id st=>K (OW (qN id s.rs y)) st else a7
  |none=>a7
 else a7
structure gu where
 bt:TypeId
 cs:List (Ty×Bool)
 ps:List Ty
 rs:List Ty
 f:((cs.map (·.1)).foldr Ty.pair Ty.unit).den->(ps.foldr Ty.pair Ty.unit).den->Option (((cs.map (·.1)).foldr Ty.pair Ty.unit).den×(rs.foldr Ty.pair Ty.unit).den)
def KF:(d:List Ty)->(d.foldr Ty.pair Ty.unit).den->List cO
 |[],_=>[]
 |t::d,x=>.val t x.1::KF d x.2
def ru:List (Ty×Bool)->List cO->List (Nat×Nat)
 |(_,true)::cs,.slc id ver _::d=>(id,ver)::ru cs d
 |_::cs,_::d=>ru cs d
 |_,_=>[]
def wH:List (Ty×Bool)->List cO->List Nat
 |(_,false)::cs,v::d=>refs v++wH cs d
 |_::cs,_::d=>wH cs d
 |_,_=>[]
def lL (hp:iD) (d:Bool):(cs:List (Ty×Bool))->List cO->Option ((cs.map (·.1)).foldr Ty.pair Ty.unit).den
 |[],[]=>a6 ()
 |(t,false)::cs,v::f=>bif d&&(pG v&& !t.rigid)then a7 else match v.as hp t with
  |some x=>match lL hp d cs f with
   |some y=>a6 (x,y)
   |none=>a7
  |none=>a7
 |(.list e,true)::cs,.slc id ver a7::f=>match ed hp id with
  |some (.arr t v g)=>bif v==ver then(match mJ (.list e) (t':=.list t) g with
   |some x=>match lL hp d cs f with
    |some y=>a6 (x,y)
    |none=>a7
   |none=>a7)else a7
  |_=>a7
 |_,_=>a7
def IQ:(cs:List (Ty×Bool))->List (Nat×Nat)->((cs.map (·.1)).foldr Ty.pair Ty.unit).den->List cO
 |[],_,_=>[]
 |(t,false)::cs,l,y=>.val t y.1::IQ cs l y.2
 |(_,true)::cs,(i,v)::l,y=>.slc i v a7::IQ cs l y.2
 |(_,true)::cs,[],y=>.undef::IQ cs [] y.2
def wC:(cs:List (Ty×Bool))->List (Nat×Nat)->((cs.map (·.1)).foldr Ty.pair Ty.unit).den->iD
 |[],_,_=>[]
 |(_,false)::cs,l,y=>wC cs l y.2
 |(.list e,true)::cs,(i,v)::l,y=>(i,.arr e v y.1)::wC cs l y.2
 |(_,true)::cs,l,y=>wC cs l y.2
def PZ:iD->iD->iD
 |[],h=>h
 |(i,o)::l,h=>PZ l (jW h i o)
def jV:List (Ty×Bool)->Nat->List (Nat×Nat)
 |[],_=>[]
 |(_,true)::cs,n=>(n,0)::jV cs (n+1)
 |(_,false)::cs,n=>jV cs n
def UW:List Nat->Bool
 |[]=>true
 |i::l=> !Z4 l i&&UW l
def gu.rigid (s:gu):Bool:=s.cs.all (fun c=>c.1.rigid||(c.2&&c.1.elem.rigid))&&s.rs.all Ty.rigid
def vH (cl:Bool):Nat->List (Ty×Bool)->List cO->St->(List cO->St->Option R)->Option R
 |n,(.list e,true)::cs,.nils::d,st,K=>bif QN 0 e.size then alloc cl (a6 n) (.arr e 0 []) st fun id st=>vH cl (n+1) cs d st fun l st=>K (.slc id 0 a7::l) st else a7
 |n,_::cs,v::d,st,K=>vH cl (n+1) cs d st fun l st=>K (v::l) st
 |_,_,l,st,K=>K l st
def gu.go (s:gu) (id:Nat) (d:List cO) (st:St) (K:cO->St->Option R):Option R:=
 match ed st.hp id with
 |some (.box t cells)=>
  bif Nat.beq t s.bt&&((UW ((ru s.cs cells).map (·.1))&&F9 (id::(ru s.cs cells).map (·.1)) (nY d++wH s.cs cells))&&(s.rigid|| !d.any pG))then
   match lL st.hp (!s.rigid) s.cs cells with
   |some x=>match Cj st.hp s.ps d with
    |some y=>bU (s.f x y) fun z=>K (OW (KF s.rs z.2))
      {st with hp:=jW (PZ (wC s.cs ((ru s.cs cells).map fun p=>(p.1,p.2+1)) z.1) st.hp) id (.box t (IQ s.cs ((ru s.cs cells).map fun p=>(p.1,p.2+1)) z.1))}
    |none=>a7
   |none=>a7
  else a7
 |_=>a7
def gu.call (s:gu) (cl:Bool) (args:List cO) (st:St) (K:cO->St->Option R):Option R:=
 match args with
 |.ptr id 0::d=>match ed st.hp id with
  |some (.box t cells)=>bif cells.any (fun v=>match v with|.nils=>true|_=>false)then
    vH cl (200000+20*(id %5000)) s.cs cells st fun cells st=>s.go id d {st with hp:=jW st.hp id (.box t cells)} K
   else s.go id d st K
  |_=>a7
 |_=>a7
inductive Job where
 |call (f:FuncId) (args:List cO)
 |yield (id:Nat) (args:List cO)
structure dO where
 V:Type
 A:V->Type
 B:V->Type
 get:St->Option V
 spec:(v:V)->Option (A v⊕B v)
 exA:V->Ex
 stA:St->(v:V)->A v->St
 stB:St->(v:V)->B v->St
 dep:Nat:=0
 exB:V->Ex:=fun _=>.ret
def dX {e i d:Type} (o:e⊕i) (f:e->d) (g:i->d):d:=
 match o with
 |.inl a=>f a
 |.inr b=>g b
structure Env where
 P:Program
 T:TT
 cl:Bool
 kp:FuncId->Nat->Option fZ
 sg:FuncId->Option Sum
 lp:FuncId->Nat->Option dO
 rf:FuncId->Nat->Bool:=fun _ _=>false
 bf:FuncId->Bool:=fun _=>false
 dp:Nat:=0
 sb:FuncId->Option gu:=fun _=>a7
def Env.at (E:Env) (n:Nat):Env:={E with dp:=n}
def SI (T:TT) (args:List cO) (st:St) (K:cO->St->Option R):Option R:=
 match args with
 |[.ptr id 0]=>match ed st.hp id with
  |some (.box t (.slf i:: .slc _ _ _::[]))=>bif Nat.beq i id&&((T.at t).known&&(T.at t).bld)then K (.tup []) st else a7
  |_=>a7
 |_=>a7
abbrev pV (R:Type):=Job->St->(cO->St->Option R)->Option R
structure YP where
 q:Job->St->Option cO
 s:pV St
 u:pV Unit
def yV (E:Env) (f:pV R):gZ R:=fun j d l st K=>
 match j with
 |.fn g e=>match E.sg g with
  |some s=>s.call E.cl (d++e) l st K
  |none=>match E.sb g with
   |some s=>s.call E.cl (d++e) st K
   |none=>bif E.bf g then SI E.T (d++e) st K else f (.call g (d++e)) st K
 |.mfn g i=>match E.sb g with
  |some s=>s.call E.cl (i++d) st K
  |none=>f (.call g (i++d)) st K
 |.yld id=>f (.yield id d) st K
 |_=>a7
def cO.rigid:cO->Bool
 |.val t _=>t.rigid
 |_=>false
def cO.calm:cO->Bool
 |.val _ _=>true
 |_=>false
def cO.rigidR:cO->Bool
 |.tup l=>l.all cO.rigid
 |v=>v.rigid
def Xk (hp:iD):cO->Option cO
 |.val t x=>a6 (.val t x)
 |.nils=>a6 .nils
 |.slc id ver d=>match ed hp id with
  |some (.arr t v e)=>bif v==ver then a6 (.val (.list t) (acR e d))else a7
  |_=>a7
 |_=>a7
def Sm (hp:iD):List cO->Option (List cO)
 |[]=>a6 []
 |v::l=>match Xk hp v with
  |some v=>match Sm hp l with
   |some l=>a6 (v::l)
   |none=>a7
  |none=>a7
def Tc (E:Env) (e:Job->St->Option cO):gZ R:=fun f d i st K=>
 match f with
 |.fn g []=>match E.sg g with
  |some s=>bif s.rs.all (fun r=> !r.2&&r.1.rigid)then s.call E.cl d i st K else a7
  |none=>match Sm st.hp d with
   |some d=>match e (.call g d) ⟨[],[],[],st.nxt⟩with
    |some v=>bif v.rigidR then K v st else a7
    |none=>a7
   |none=>a7
 |_=>a7
def lJ:Op->Bool
 |.move _|.assign _|.pick _ _ _|.load _ _|.nilCheck _|.binOp _ _ _ _ _|.unOp _ _ _|.slice _ _ _ _ _|.fieldAddr _ _ _|.field _ _ _|.indexAddr _ _ _|.index _ _ _|.extract _ _|.build _ _|.convert _ _ _=>true
 |.call c=>match c.callee with
  |.builtin .len=>true
  |.builtin .min=>true
  |.builtin .max=>true
  |.value _=>true
  |_=>false
 |_=>false
def je:Op->Bool
 |.call c=>match c.callee with
  |.builtin .len=>true
  |.builtin .min=>true
  |.builtin .max=>true
  |_=>false
 |o=>lJ o
def JO:Op->Bool
 |.move _|.assign _|.pick _ _ _|.nilCheck _|.binOp _ _ _ _ _|.unOp _ _ _|.slice _ _ _ _ _|.fieldAddr _ _ _|.field _ _ _|.indexAddr _ _ _|.index _ _ _|.extract _ _=>true
 |.call c=>match c.callee with
  |.builtin .len=>true
  |.builtin .min=>true
  |.builtin .max=>true
  |_=>false
 |_=>false
def QW:Op->Bool
 |.move _|.assign _|.pick _ _ _|.load _ _|.index _ _ _|.extract _ _|.alloc _|.box _ _=>true
 |.call c=>match c.callee with
  |.builtin .len=>true
  |.builtin .unsafeSliceData=>true
  |_=>false
 |_=>false
def pz (ops:Array Oper):Bool:=ops.toList.all fun o=>match o.op with|.defer _=>false|.select _ _=>false|_=>true
def XV (l:List Nat) (i:Nat):Bool:=l.any (Nat.beq i)
def G6 (ops:Array Oper) (j:Nat) (D:List Nat):Bool:=match ops[j]? with
 |some d=>d.after.any fun e=>Region.binds .any e&&XV D e.on
 |none=>false
def aGj (ops:Array Oper) (d:Array Bool) (n:Nat) (D:List Nat):List Nat:=(List.range n).foldl (fun D j=>cond (!d.getD j true&&(!XV D j&&G6 ops j D)) (j::D) D) D
def V5 (ops:Array Oper) (d:Array Bool) (i:Nat) (pure:Bool):Bool:=match ops[i]? with
 |some f=>let D:=aGj ops d ops.size [i]
  XV D i&&(D.all (fun j=> !d.getD j true&&(Nat.beq j i||G6 ops j D))&&(List.range ops.size).all fun j=>d.getD j true||(XV D j||(match ops[j]? with
   |some e=>f.apart ops e&&(pure||QW e.op)
   |none=>true)))
 |none=>false
def ahb (ops:Array Oper) (f:Op->Bool) (i:Nat):Bool:=match ops[i]? with
 |some o=>f o.op
 |none=>false
def yZ {d:Type} (f:d->d->Bool):List d->List d->Bool
 |[],[]=>true
 |x::l,y::m=>f x y&&yZ f l m
 |_,_=>false
def Zi:(t:Ty)->t.den->t.den->Bool
 |.unit,_,_=>true
 |.bool,x,y=>x==y
 |.int _,x,y=>cZ x y
 |.str,x,y=>iG x y
 |.list t,x,y=>yZ (Zi t) x y
 |.pair a b,x,y=>Zi a x.1 y.1&&Zi b x.2 y.2
def ags:Option (Int×Int)->Option (Int×Int)->Bool
 |none,a7=>true
 |some a,a6 b=>cZ a.1 b.1&&cZ a.2 b.2
 |_,_=>false
mutual
def WA (a b:cO):Bool:=
 match a with
 |.undef=>match b with|.undef=>true|_=>false
 |.val t x=>match b with
  |.val u y=>(match mJ t y with|some y=>Zi t x y|none=>false)
  |_=>false
 |.nils=>match b with|.nils=>true|_=>false
 |.nilp=>match b with|.nilp=>true|_=>false
 |.nilfn=>match b with|.nilfn=>true|_=>false
 |.emp=>match b with|.emp=>true|_=>false
 |.tup l=>match b with|.tup m=>Jy l m|_=>false
 |.agg l=>match b with|.agg m=>Jy l m|_=>false
 |.cellp t x=>match b with
  |.cellp u y=>(match mJ t y with|some y=>Zi t x y|none=>false)
  |_=>false
 |.lst t x n=>match b with
  |.lst u y m=>n==m&&(match mJ (.list t) (t':=.list u) y with|some y=>Zi (.list t) x y|none=>false)
  |_=>false
 |.ptr i o=>match b with|.ptr j p=>Nat.beq i j&&Nat.beq o p|_=>false
 |.slc i v w=>match b with|.slc j u x=>Nat.beq i j&&(Nat.beq v u&&ags w x)|_=>false
 |.ep i v n o=>match b with|.ep j u m p=>Nat.beq i j&&(Nat.beq v u&&(eqN n m&&Nat.beq o p))|_=>false
 |.fn f l=>match b with|.fn g m=>Nat.beq f g&&Jy l m|_=>false
 |.mfn f l=>match b with|.mfn g m=>Nat.beq f g&&Jy l m|_=>false
 |.mpv i=>match b with|.mpv j=>Nat.beq i j|_=>false
 |.yld i=>match b with|.yld j=>Nat.beq i j|_=>false
 |.slf i=>match b with|.slf j=>Nat.beq i j|_=>false
 |.sd i v=>match b with|.sd j u=>Nat.beq i j&&Nat.beq v u|_=>false
def Jy:List cO->List cO->Bool
 |[],m=>match m with|[]=>true|_=>false
 |a::l,m=>match m with|b::m=>WA a b&&Jy l m|_=>false
end
def aBE (a b:Ex):Bool:=match a with
 |.normal=>match b with|.normal=>true|_=>false
 |.exit i=>match b with|.exit j=>Nat.beq i j|_=>false
 |.goto i=>match b with|.goto j=>Nat.beq i j|_=>false
 |.ret=>match b with|.ret=>true|_=>false
def aqU:Option Ex->Option Ex->Bool
 |none,a7=>true
 |some a,a6 b=>aBE a b
 |_,_=>false
def eqO (a b:dZ):Bool:=
 match a with
 |.box t l=>match b with|.box u m=>Nat.beq t u&&Jy l m|_=>false
 |.arr t v x=>match b with
  |.arr u w y=>Nat.beq v w&&(match mJ (.list t) (t':=.list u) y with|some y=>Zi (.list t) x y|none=>false)
  |_=>false
 |.lp f fr ps _ _ k n p=>match b with
  |.lp g fs qs _ _ h m q=>Nat.beq f g&&(Jy fr fs&&(yZ Nat.beq ps qs&&((match k,h with|some k,a6 h=>Nat.beq k h|_,_=>false)&&(Nat.beq n m&&aqU p q))))
  |_=>false
 |.dead=>match b with|.dead=>true|_=>false
 |.mp k v l=>match b with
  |.mp k' v' m=>decide (k=k')&&(decide (v=v')&&decide (l=m))
  |_=>false
def eqH:iD->iD->Bool
 |[],h=>match h with|[]=>true|_=>false
 |(i,a)::h,g=>match g with
  |(j,b)::g=>Nat.beq i j&&(eqO a b&&eqH h g)
  |[]=>false
def aqW (a b:St):Bool:=Jy a.fr b.fr&&(yZ Jy a.stk b.stk&&(eqH a.hp b.hp&&Nat.beq a.nxt b.nxt))
def We (d:iD) (i:Nat) (a:dZ):Option dZ:=match a with
 |.lp f fr ps _ _ (a6 k) n p=>match ed d i with
  |some (.lp g _ _ kH bd (a6 h) _ _)=>bif Nat.beq f g&&Nat.beq k h then a6 (.lp f fr ps kH bd (a6 k) n p)else a7
  |_=>a7
 |.lp _ _ _ _ _ a7 _ _=>a7
 |a=>a6 a
def V7 (d:iD):iD->Option iD
 |[]=>a6 []
 |(i,a)::h=>match We d i a with
  |some a=>match V7 d h with
   |some h=>a6 ((i,a)::h)
   |none=>a7
  |none=>a7
def vN:iD->Bool
 |[]=>true
 |(k,_)::h=> !h.any (fun e=>Nat.beq e.1 k)&&vN h
def UN (d:iD):List (Option St)->Option St
 |some a::l=>bif(a6 a::l).all (fun b=>match b with|some b=>aqW a b&&vN b.hp|none=>false)then
   (match V7 d a.hp with|some h=>a6 {a with hp:=h}|none=>a7)else a7
 |_=>a7
def tidy (cl:Bool) (st:St):St:=cond cl st {st with hp:=nZ st.hp}
def vZ (ops:Array Oper) (i k:Nat):Bool:=match ops[i]? with
 |some d=>d.after.any fun e=>Region.binds .any e&&Nat.beq e.on k
 |none=>false
def Hz (ops:Array Oper) (x y:Oper):Bool:=match y.dst with
 |some d=> !(x.looksAt ops).contains d&&x.dst !=a6 d
 |none=>true
def OD (ops:Array Oper) (log:List Nat) (i:Nat):Bool:=match ops[i]? with
 |some d=>Hz ops {d with dst:=a7} d&&log.all fun k=>match ops[k]? with
  |some ok=>Hz ops ok d&&(vZ ops i k||ok.apart ops d)
  |none=>false
 |none=>false
def aty (ops:Array Oper) (log:List Nat) (i:Nat):Bool:=match ops[i]? with
 |some d=>log.all fun k=>match ops[k]? with
  |some ok=>vZ ops i k||ok.apart ops d
  |none=>false
 |none=>false
def rG (ops:Array Oper):List Nat->List cO->List cO
 |[],e=>e
 |i::l,e=>match(ops[i]?).bind (·.dst)with
  |some d=>(rG ops l e).set d .undef
  |none=>rG ops l e
def sameAt (dst:Option Nat) (z:cO) (st:St):Bool:=match dst with
 |some d=>WA z (st.fr.getD d .undef)
 |none=>true
def MR (s:Sum):Bool:=s.rs.all fun r=> !r.2&&r.1.rigid
def IV (sg:FuncId->Option Sum) (cl:Bool):gZ R:=fun e d f st K=>match e with
 |.fn g []=>match sg g with
  |some s=>bif MR s&&d.all cO.calm then s.call cl d f st K else a7
  |none=>a7
 |_=>a7
def yl (sg:FuncId->Option Sum) (o:Op):Bool:=match o with
 |.call c=>match c.callee with
  |.builtin _=>true
  |.value (.func g)=>match sg g with
   |some s=>MR s
   |none=>false
  |_=>false
 |_=>true
def RY:List (Option Unit)->Option R->Option R
 |[],k=>k
 |o::l,k=>bU o fun _=>RY l k
def settle (d:iD) (a:St):Option St:=match V7 d a.hp with
 |some h=>a6 {a with hp:=h}
 |none=>a7
def lu (o:Oper) (fr:List cO):List cO:=match o.op with
 |.call c=>match c.callee with
  |.value v=>iM fr v::c.args.toList.map (iM fr)
  |_=>[]
 |_=>[]
def ZI (sg:FuncId->Option Sum) (ops:Array Oper) (fr:List cO) (i:Nat):Bool:=match ops[i]? with
 |some o=>match lu o fr with
  |.fn g []::e=>match sg g with
   |some s=>(MR s&&e.all cO.calm)&&(match o.dst with|some d=>QN d fr.length|none=>true)
   |none=>false
  |_=>false
 |none=>false
def Cb (dst:Option Nat) (fr:List cO):List cO:=match dst with
 |some d=>[fr.getD d .undef]
 |none=>[]
def AL (T:TT) (cl:Bool) (call:gZ R) (ops:Array Oper) (e:List cO):List Nat->St->(St->Option R)->Option R
 |[],st,K=>K st
 |i::l,st,K=>match ops[i]? with
  |some d=>bif je d.op then(fH T cl call d st fun z _=>bif sameAt d.dst z st then AL T cl call ops e l st K else a7)
   else bif Jy (lu d e) (lu d st.fr)&&Jy (Cb d.dst e) (Cb d.dst st.fr)then AL T cl call ops e l st K else a7
  |none=>a7
def wO (T:TT) (cl:Bool) (call:gZ R) (ops:Array Oper) (j:Nat) (log:List Nat) (st:St) (K:St->Option R):Option R:=
 match ops[j]? with
 |some d=>bif d.guard.isNone&&aty ops log j then
   fH T cl call d {st with fr:=rG ops (log.filter fun i=> !vZ ops j i) st.fr,stk:=st.fr::st.stk} fun z g=>match g.stk with
    |e::f=>AL T cl call ops st.fr (log.filter fun i=> !vZ ops j i).reverse ({g with fr:=e,stk:=f}.put d.dst z) K
    |[]=>a7
  else a7
 |none=>a7
def o8 (T:TT) (cl:Bool) (sg:FuncId->Option Sum) (d:gZ St) (e:gZ Unit) (ops:Array Oper):Nat->{R:Type}->gZ R->Array Bool->List Nat->St->(St->Option R)->Option R
  |0,_,_,_,_,_,_=>a7
  |n+1,_,call,f,log,st,K=>match Region.ready .any ops f with
    |[]=>K st
    |k::rs=>match(k::rs).find? fun i=>ahb ops je i&&OD ops log i with
      |some i=>match ops[i]? with
        |some g=>bif g.guard.isNone&&OD ops log i then
            fH T cl call g st fun z st=>o8 T cl sg d e ops n call (f.setIfInBounds i true) (i::log) (st.put g.dst z) K else a7
        |none=>a7
      |none=>match(k::rs).find? fun i=>ZI sg ops st.fr i with
       |some i=>match ops[i]? with
        |some g=>bif g.guard.isNone&&OD ops log i then
            fH T cl (IV sg cl) g st fun z st=>o8 T cl sg d e ops n call (f.setIfInBounds i true) (i::log) (st.put g.dst z) K else a7
        |none=>a7
       |none=>match rs with
        |[]=>wO T cl call ops k log st fun st=>o8 T cl sg d e ops n call (f.setIfInBounds k true) log st K
        |_=>bif cl|| !ops.toList.all (fun o=>yl sg o.op)then(match UN st.hp ((k::rs).map fun j=>wO T cl d ops j log st fun st=>o8 T cl sg d e ops n d (f.setIfInBounds j true) log st fun st=>a6 (tidy cl st))with
          |some st=>K st
          |none=>a7)else
          wO T cl call ops k log st fun l=>o8 T cl sg d e ops n call (f.setIfInBounds k true) log l fun st1=>
            bif vN (tidy cl st1).hp then(match settle st.hp (tidy cl st1)with
              |some m=>RY (rs.map fun j=>wO T cl e ops j log st fun l=>o8 T cl sg d e ops n e (f.setIfInBounds j true) log l fun b=>
                  bif aqW (tidy cl st1) (tidy cl b)&&vN (tidy cl b).hp then a6 ()else a7) (K m)
              |none=>a7)else a7
def wU (ops:Array Oper):Nat->Array Bool->Option (List Nat)
 |0,d=>bif(Region.ready .any ops d).isEmpty then a6 []else a7
 |n+1,d=>match Region.ready .any ops d with
  |[]=>a6 []
  |k::e=>match(k::e).find? fun i=>ahb ops JO i&&V5 ops d i true with
   |some i=>match wU ops n (d.setIfInBounds i true)with
    |some l=>a6 (i::l)
    |none=>a7
   |none=>match(k::e).find? fun i=>ahb ops je i&&V5 ops d i false with
    |some i=>match wU ops n (d.setIfInBounds i true)with
     |some l=>a6 (i::l)
     |none=>a7
    |none=>match e with
     |[]=>match wU ops n (d.setIfInBounds k true)with
      |some l=>a6 (k::l)
      |none=>a7
     |_=>a7
def ahU (ops:Array Oper):Option (List Oper):=bif pz ops then(match wU ops ops.size (Array.replicate ops.size false)with
 |some l=>a6 (l.filterMap fun i=>ops[i]?)
 |none=>a7)else a7
def aDJ (sb:FuncId->Option gu) (o:Op):Bool:=match o with
 |.call c=>match c.callee with
  |.value (.func g)=>(sb g).isNone
  |.value _=>false
  |_=>true
 |_=>true
def MP (ops:Array Oper):Bool:=ops.toList.all (fun o=>lJ o.op)&&Region.lexB .any ops
def aGn (d:St->(Ex->St->Option R)->Option R) (K:Ex->St->Option R):Ex->St->Option R:=fun e st=>match e with
 |.normal=>d st K
 |e=>K e st
def xh (id:Nat) (K:Ex->St->Option R):Ex->St->Option R:=fun e st=>match e with
 |.exit i=>bif i==id then K .normal st else K (.exit i) st
 |e=>K e st
def Fj (F:St->(Ex->St->Option R)->Option R):St->(Ex->St->Option R)->Option R:=fun st K=>F st fun e st=>match e with
 |.normal=>K (.exit 999999) st
 |.exit i=>bif Nat.beq i 999999 then a7 else K (.exit i) st
 |e=>K e st
def cutAt (E:Env) (f:FuncId) (k:Nat) (F:St->(Ex->St->Option R)->Option R) (st:St) (K:Ex->St->Option R):Option R:=
 match E.lp f k with
 |some L=>bif L.dep.ble E.dp then(match L.get st with
  |some v=>bU (L.spec v) fun o=>dX o (fun a=>xh 999999 K (L.exA v) (L.stA st v a)) fun b=>xh 999999 K (L.exB v) (L.stB st v b)
  |none=>a7)else a7
 |none=>match E.kp f k with
  |none=>F st K
  |some d=>match Nz d.slots d.owns st with
   |some st=>iter (a6 d) (Fj F) bY st (xh 999999 K)
   |none=>a7
def asb (K:Ex->St->Option R):Ex->St->Option R:=fun e st=>match e with
 |.goto _=>a7
 |e=>K e st
def Io (k:Option fZ) (st:St):St:=match k with
 |some k=>{st with fr:=I7 k.slots 0 st.fr}
 |none=>st
def run (E:Env) (d:pV R) (i:YP) (f:FuncId):Code->St->(Ex->St->Option R)->Option R
 |.skip,st,K=>K .normal st
 |.label _,st,K=>K .normal st
 |.region id ops p,st,K=>
  let st:=Io (E.kp f (600000+id)) st
  bif p then(bif MP ops&&ops.toList.all (fun o=>je o.op)then iU E.T E.cl (Tc E i.q) ops (K .normal) ops.toList st else match ahU ops with
   |some l=>iU E.T E.cl (yV E d) ops (K .normal) l st
   |none=>bif MP ops&&ops.toList.all (fun o=>aDJ E.sb o.op)then iU E.T E.cl (Tc E i.q) ops (K .normal) ops.toList st else bif pz ops then o8 E.T E.cl E.sg (yV E i.s) (yV E i.u) ops (ops.size+1) (yV E d) (Array.replicate ops.size false) [] st (K .normal)else a7)
  else iU E.T E.cl (yV E d) ops (K .normal) ops.toList st
 |.seq a b,st,K=>run E d i f a st (aGn (cutAt E f (800000+dN b) (run E d i f b)) K)
 |.cond c x y,st,K=>match iM st.fr c with
  |.val .bool b=>bif b then run E d i f x st K else run E d i f y st K
  |_=>a7
 |.block id c,st,K=>run E d i f c st (xh id K)
 |.loop c,st,K=>match E.lp f (dN c)with
  |some L=>bif L.dep.ble E.dp then(match L.get st with
   |some v=>bU (L.spec v) fun o=>dX o (fun a=>K (L.exA v) (L.stA st v a)) fun b=>K (L.exB v) (L.stB st v b)
   |none=>a7)else a7
  |none=>match E.kp f (dN c)with
   |none=>iter a7 (run E d i f c) bY st K
   |some k=>match Nz k.slots k.owns st with
    |some st=>iter (a6 k) (run E d i f c) bY st K
    |none=>a7
 |.exit id,st,K=>K (.exit id) st
 |.goto l,st,K=>K (.goto l) st
 |.ret,st,K=>K .ret st
 |.scope c,st,K=>run E d i f c st (asb K)
 |.rangeFunc fv ps kH m,st,K=>match iM st.fr fv with
  |.fn g z=>
   let st:=Io (E.kp f (500000+dN m)) st
   alloc E.cl (a6 (700000+ps.toList.headD 0)) (.lp f st.fr ps.toList kH m (bif E.rf f (dN m)then a6 (dN m)else a7) 0 a7) st fun id st=>
    d (.call g (.yld id::z)) {st with stk:=[.yld id]::st.stk} fun _ st=>match st.stk with
     |[.yld id]::j=>match ed st.hp id with
      |some (.lp _ _ _ _ _ _ 0 a7)=>K .normal {st with stk:=j,hp:=jW st.hp id .dead}
      |some (.lp _ _ _ _ _ _ 1 (a6 e))=>K e {st with stk:=j,hp:=jW st.hp id .dead}
      |_=>a7
     |_=>a7
  |_=>a7
 |.refuse _,_,_=>a7
def ve (T:TT) (st:St):List ResultVar->(List cO->Option R)->Option R
 |[],K=>K []
 |.tmp t::l,K=>ve T st l fun d=>K (st.fr.getD t .undef::d)
 |.cell a t::l,K=>NZ T st.hp t (st.fr.getD a .undef) fun v=>ve T st l fun d=>K (v::d)
def yK (fr:List cO):List Nat->List cO->List cO
 |p::d,v::e=>yK (fr.set p v) d e
 |_,_=>fr
def pop (st:St) (K:St->Option R):Option R:=
 match st.stk with
 |d::e=>K {st with fr:=d,stk:=e}
 |[]=>a7
def Env.keyed (E:Env):Option Nat->Env
 |some _=>E
 |none=>{E with lp:=fun _ _=>a7,rf:=fun _ _=>false}
def ni (E:Env):Nat->{R:Type}->pV R
 |0,_,_,_,_=>a7
 |n+1,R,.call f i,st,K=>match E.P.funcs[f]? with
  |none=>a7
  |some fn=>match fn.body with
   |none=>a7
   |some c=>bif i.length.ble fn.ntmps then
     (run (E.at n) (ni E n) ⟨fun j st=>ni E n (R:=cO) j st fun v _=>a6 v,ni E n,ni E n⟩ f c {fr:=i++List.replicate (fn.ntmps-i.length) (.tup []),stk:=st.fr::st.stk,hp:=st.hp,nxt:=st.nxt} fun e d=>
      match e with
      |.normal|.ret=>ve E.T d fn.results.toList fun m=>
       let v:=match m with
        |[v]=>v
        |m=>.tup m
       match gc (bif E.cl then st.nxt else 1000000*d.stk.length) v {d with fr:=[]}with
       |some g=>pop g (K v)
       |none=>a7
      |_=>a7)else a7
 |n+1,R,.yield id i,st,K=>match ed st.hp id with
  |some (.lp f fr0 ps kH bd p 0 a7)=>bif i.length==ps.length then
    (run ((E.at n).keyed p) (ni E n) ⟨fun j st=>ni E n (R:=cO) j st fun v _=>a6 v,ni E n,ni E n⟩ f kH {fr:=yK fr0 ps i,stk:=[.yld id]::st.fr::st.stk,hp:=st.hp,nxt:=st.nxt} fun e d=>match e,d.stk with
     |.normal,[.yld id]::_=>match ed d.hp id with
      |some (.lp f1 fr1 ps1 asg1 bd1 u 0 a7)=>run ((E.at n).keyed p) (ni E n) ⟨fun j st=>ni E n (R:=cO) j st fun v _=>a6 v,ni E n,ni E n⟩ f bd {d with hp:=jW d.hp id (.lp f1 fr1 ps1 asg1 bd1 u 2 a7)} fun e g=>match g.stk with
       |[.yld id]::l=>match ed g.hp id with
        |some (.lp f2 fr2 ps2 asg2 bd2 q 2 a7)=>
         match gc (bif E.cl then st.nxt else 1000000*g.stk.length) .undef {g with fr:=[],stk:=l,hp:=jW g.hp id (match e with|.normal=>.lp f2 fr2 ps2 asg2 bd2 q 0 a7|e=>.lp f2 fr2 ps2 asg2 bd2 q 1 (a6 e))}with
         |some x=>pop x (K (.val .bool (match e with|.normal=>true|_=>false)))
         |none=>a7
        |_=>a7
       |_=>a7
      |_=>a7
     |_,_=>a7)else a7
  |_=>a7
end
end
section
open Option renaming some → a6, none → a7
open List renaming length_append → ae, append_assoc → ag, length_cons → az, drop_of_length_le → aO, nil_append → aQ, take_of_length_le → bD, eq_nil_of_length_eq_zero → bM
open Nat renaming le_refl → af, lt_or_ge → ak
open Tryz
open Go.RowKit
def rH:TypeId:=5
def Xn:TypeId:=146
def JR:Code->Nat->Option (Code×Code)
 |.rangeFunc _ _ kH d,k=>if dN d=k then a6 (kH,d)else match JR kH k with
  |some x=>a6 x
  |none=>JR d k
 |.seq a b,k=>match JR a k with
  |some x=>a6 x
  |none=>JR b k
 |.cond _ a b,k=>match JR a k with
  |some x=>a6 x
  |none=>JR b k
 |.block _ c,k=>JR c k
 |.loop c,k=>JR c k
 |.scope c,k=>JR c k
 |_,_=>a7
def aDU (P:Program) (f:FuncId) (k:Nat):Option (Code×Code):=
 match P.funcs[f]? with
 |some fn=>match fn.body with
  |some c=>JR c k
  |none=>a7
 |none=>a7
noncomputable def uB (f:FuncId) (k:Nat):Option (Code×Code):=aDU prog f k
def iP (w:World) (b o:Nat) (d:List Value):Prop:= ∀j (h:j<d.length),w.cell? ⟨b,o+j,a7⟩=a6 d[j]
theorem iP.of_block {w w':World} {b o:Nat} {d:List Value} (h:iP w b o d) (hb:w'.heap[b]? =w.heap[b]?):iP w' b o d:=
 fun j e=>(World.cell?_of_block (w:=w) (a:=⟨b,o+j,a7⟩) hb).trans (h j e)
theorem iP.append {w:World} {b o:Nat} {xs e:List Value}:iP w b o (xs++e)↔iP w b o xs/\iP w b (o+xs.length) e:=by
 constructor
 .intro h;refine⟨fun j d=> ?_,fun j d=> ?_⟩
  .have:=h j (by simp;omega);simp_all
  .have:=h (xs.length+j) (by simp;omega)
   grind
 .rintro ⟨f,g⟩ j d;rcases ak j xs.length with h|h
  .rw[List.getElem_append_left h];exact f j h
  .rw[List.getElem_append_right h];have:=g (j-xs.length) (by simp at d;omega)
   grind
def gV {e:Type} (R:e->List Value->Prop) (size:Nat):List e->List Value->Prop
 |[],d=>d=[]
 |x::g,d=> ∃c f,d=c++f/\c.length=size/\R x c/\gV R size g f
theorem gV.mono {d:Type} {R e:d->List Value->Prop} {size:Nat} (h: ∀x c,R x c->e x c): ∀(xs:List d) (f:List Value),gV R size xs f->gV e size xs f
 |[],_,i=>i
 |_::xs,_,⟨c,g,j,l,m,p⟩=>⟨c,g,j,l,h _ _ m,gV.mono h xs g p⟩
theorem gV.length {d:Type} {R:d->List Value->Prop} {size:Nat}: ∀(xs:List d) (e:List Value),gV R size xs e->e.length=xs.length*size
 |[],_,f=>by cases f;simp
 |_::xs,_,⟨c,g,i,j,m,l⟩=>by
  subst i;simp only[ae,az,j,gV.length xs g l,Nat.add_mul,Nat.one_mul];omega
theorem gV.append {e:Type} {R:e->List Value->Prop} {size:Nat}: ∀(xs:List e) (f:List Value) (d:List e) (us:List Value),gV R size xs f->gV R size d us->gV R size (xs++d) (f++us)
 |[],_,d,us,i,h=>by cases i;exact h
 |x::xs,_,d,us,⟨c,g,j,l,m,p⟩,h=>by
  subst j;exact⟨c,g++us,by simp,l,m,gV.append xs g d us p h⟩
theorem gV.take {d:Type} {R:d->List Value->Prop} {size:Nat}: ∀(k:Nat) (xs:List d) (e:List Value),gV R size xs e->gV R size (xs.take k) (e.take (k*size))
 |0,_,_,_=>by simp[gV]
 |k+1,[],_,g=>by cases g;simp[gV]
 |k+1,x::xs,_,⟨c,f,i,j,l,m⟩=>by
  subst i;refine⟨c,f.take (k*size), ?_,j,l,gV.take k xs f m⟩;simp_all [List.take_append,bD,Nat.add_mul]
theorem gV.drop {e:Type} {R:e->List Value->Prop} {size:Nat}: ∀(k:Nat) (xs:List e) (f:List Value),gV R size xs f->gV R size (xs.drop k) (f.drop (k*size))
 |0,_,_,h=>by simpa using h
 |k+1,[],_,i=>by cases i;simp[gV]
 |k+1,x::xs,_,⟨c,d,j,g,m,l⟩=>by
  subst j;have:(c++d).drop ((k+1)*size)=d.drop (k*size):=by
   rw[List.drop_append,aO (by rw[g,Nat.add_mul];omega),aQ,g,Nat.add_mul];congr 1;omega
  rw[this,List.drop_succ_cons];exact gV.drop k xs d l
theorem gV.at_ {f:Type} {R:f->List Value->Prop} {size:Nat}: ∀(i:Nat) (xs:List f) (g:List Value) (hi:i<xs.length),gV R size xs g->
  ∃c,c.length=size/\R xs[i] c/\ ∃d j,g=d++c++j/\d.length=i*size
 |i,[],_,hi,_=>by simp at hi
 |0,x::xs,_,_,⟨c,e,l,m,p,q⟩=>⟨c,m,p,[],e,by simp[l],by simp⟩
 |i+1,x::xs,_,hi,⟨c,e,l,m,p,q⟩=>by
  obtain⟨u,v,y,d,j,z,A⟩:=gV.at_ i xs e (by simpa using hi) q
  grind
theorem gV.set {j:Type} {R:j->List Value->Prop} {size:Nat} (y:j) (d:List Value) (hd:d.length=size) (q:R y d): ∀(i:Nat) (xs:List j) (e c f:List Value),
  i<xs.length->gV R size xs (e++c++f)->e.length=i*size->c.length=size->gV R size (xs.set i y) (e++d++f)
 |i,[],_,_,_,l,_,_,_=>by simp at l
 |0,x::xs,e,c,f,_,⟨u,D,g,m,v,z⟩,A,p=>by
  have:e=[]:=bM (by simpa using A);subst this;simp only[aQ]at g ⊢;obtain⟨I,B⟩:=List.append_inj g (by rw[p,m]);subst B;exact⟨d,f,rfl,hd,q,z⟩
 |i+1,x::xs,e,c,f,l,⟨u,D,g,m,v,z⟩,A,p=>by
  have K:size<=e.length:=by grind
  have J:e=e.take size++e.drop size:=(List.take_append_drop size e).symm;rw[J,ag,ag]at g;obtain⟨I,B⟩:=List.append_inj g (by grind);have:=gV.set y d hd q i xs (e.drop size) c f (by simpa using l) (by grind) (by grind) p;refine⟨u,e.drop size++d++f, ?_,m,v,this⟩
  grind
def fV (w:World) (fr:Nat->Prop):(t:Ty)->t.den->List Value->Prop
 |.unit,_,cs=>cs=[]
 |.bool,x,cs=>cs=[.bool x]
 |.int k,x,cs=>cs=[.int k x]
 |.str,x,cs=>cs=[.string ⟨x.toArray⟩]
 |.list t,d,cs=> ∃a c e,cs=[.slice a d.length c]/\d.length<=c/\gV (fV w fr t) t.size d e/\(e=[]\/ ∃b off,a=a6 ⟨b,off,a7⟩/\fr b/\iP w b off e)
 |.pair a b,x,cs=> ∃f g,cs=f++g/\fV w fr a x.1 f/\fV w fr b x.2 g
theorem fV.mono {w w':World} {fr i:Nat->Prop} (h: ∀b,fr b->i b/\w'.heap[b]? =w.heap[b]?): ∀(t:Ty) (x:t.den) (cs:List Value),fV w fr t x cs->fV w' i t x cs
 |.unit,_,_,d=>d
 |.bool,_,_,d=>d
 |.int _,_,_,d=>d
 |.str,_,_,d=>d
 |.list t,q,_,⟨a,c,j,e,f,g,u⟩=>⟨a,c,j,e,f,gV.mono (fV.mono h t) q j g,u.imp id fun⟨b,off,v,l,y⟩=>⟨b,off,v,(h b l).1,y.of_block (h b l).2⟩⟩
 |.pair a b,x,_,⟨m,p,e,f,g⟩=>⟨m,p,e,fV.mono h a x.1 m f,fV.mono h b x.2 p g⟩
theorem fV.length {w:World} {fr:Nat->Prop}: ∀(t:Ty) (x:t.den) (cs:List Value),fV w fr t x cs->cs.length=t.size
 |.unit,_,_,d=>by cases d;rfl
 |.bool,_,_,d=>by cases d;rfl
 |.int _,_,_,d=>by cases d;rfl
 |.str,_,_,d=>by cases d;rfl
 |.list t,l,_,⟨a,c,m,e,_⟩=>by subst e;rfl
 |.pair a b,x,_,⟨f,g,e,i,j⟩=>by subst e;simp[Ty.size,fV.length a x.1 f i,fV.length b x.2 g j]
theorem fV.one {w:World} {fr:Nat->Prop}: ∀(t:Ty) (x:t.den) (cs:List Value),fV w fr t x cs-> ∀v∈cs,v.oneCell'=true
 |.unit,_,_,d=>by cases d;simp
 |.bool,_,_,d=>by cases d;simp[Value.oneCell']
 |.int _,_,_,d=>by cases d;simp[Value.oneCell']
 |.str,_,_,d=>by cases d;simp[Value.oneCell']
 |.list t,m,_,⟨a,c,p,f,_⟩=>by subst f;simp[Value.oneCell']
 |.pair a b,x,_,⟨g,i,f,j,l⟩=>by
  subst f;intro v e;rcases List.mem_append.1 e with e|e
  .exact fV.one a x.1 g j v e
  .exact fV.one b x.2 i l v e
structure Loc where
 blk:Nat
 v:Value
structure Cx where
 mu:Nat->Loc
 hp:iD
 nxt:Nat
 w:World
 mks:List Nat
 bar:Nat->Prop
def dZ.blk:dZ->Loc->Option Nat
 |.box _ _,l=>a6 l.blk
 |.arr _ _ _,l=>l.v.ownBlock
 |.lp _ _ _ _ _ _ _ _,l=>a6 l.blk
 |.dead,_=>a7
 |.mp _ _ _,l=>a6 l.blk
def Cx.own (c:Cx) (b:Nat):Prop:= ∃id o,ed c.hp id=a6 o/\o.blk (c.mu id)=a6 b
def Cx.free (c:Cx) (b:Nat):Prop:=b<c.w.heap.size/\ ¬c.own b/\b∉c.mks/\ ¬c.bar b
def Cx.out (c:Cx) (b:Nat):Prop:=b<c.w.heap.size/\ ¬c.own b/\b∉c.mks
def Cx.known (c:Cx) (id:Nat):Prop:=(∃o,ed c.hp id=a6 o)\/id<c.nxt
def VD (c:Cx) (t:Ty) (x:t.den) (v:Value):Prop:=
 (t.isAgg=true-> ∃cs,v=.agg cs/\fV c.w c.free t x cs.toList)/\(t.isAgg=false->fV c.w c.free t x [v])
def jU (size:Nat) (s:Value):Option (Int×Int)->Value->Prop
 |none,v=>v=s
 |some (lo,d),v=> ∃a n c,s=.slice a n c/\0<=lo/\lo<=d/\d<=n/\v=.slice (if c=lo.toNat then a else a.map (·.add (lo.toNat*size))) (d.toNat-lo.toNat) (c-lo.toNat)
mutual
def dh (c:Cx):cO->Value->Prop
 |.undef,_=>True
 |.val t x,v=>VD c t x v
 |.nils,v=>v=.slice a7 0 0
 |.emp,v=> ∃a,v=.slice a 0 0
 |.lst e q b,v=>VD c (.list e) q v/\ ∃a n m,v=.slice a n m/\b=a.isNone
 |.nilp,v=>v=.pointer a7
 |.nilfn,v=>v=.nilFunc
 |.tup l,v=> ∃d,v=.tuple d/\bW c l d.toList
 |.agg l,v=> ∃d,v=.agg d/\bW c l d.toList/\ ∀u∈d.toList,u.oneCell'=true
 |.cellp t x,v=> ∃b o y,v=.pointer (a6 ⟨b,o,a7⟩)/\c.free b/\iP c.w b o y/\fV c.w c.free t x y
 |.ptr id off,v=>v.oneCell'=true/\c.known id/\ ∀t cs,ed c.hp id=a6 (.box t cs)->v=.pointer (a6 ⟨(c.mu id).blk,off,a7⟩)
 |.slf id,v=>v.oneCell'=true/\c.known id/\ ∀t cs,ed c.hp id=a6 (.box t cs)->v=.pointer a7\/v=.pointer (a6 ⟨(c.mu id).blk,0,a7⟩)
 |.sd id j,v=>v.oneCell'=true/\c.known id/\ ∀t u q,ed c.hp id=a6 (.arr t u q)->j<=u/\(u=j->(∃p,v=.pointer p)/\ ∀a n cp,(c.mu id).v=.slice a n cp->n≠0->v=.pointer a)
 |.slc id j z,v=>v.oneCell'=true/\c.known id/\ ∀t u q,ed c.hp id=a6 (.arr t u q)->j<=u/\(u=j->jU t.size (c.mu id).v z v)
 |.ep id j i off,v=>v.oneCell'=true/\c.known id/\ ∀t u q,ed c.hp id=a6 (.arr t u q)->j<=u/\(u=j-> ∃g n cp,(c.mu id).v=.slice (a6 ⟨g,0,a7⟩) n cp/\v=.pointer (a6 ⟨g,i*t.size+off,a7⟩))
 |.fn f l,v=> ∃d,v=.func (.func f) #[] d/\bW c l d.toList
 |.mfn f l,v=> ∃d,v=.func (.func f) d #[]/\bW c l d.toList
 |.mpv id,v=>v.oneCell'=true/\c.known id/\ ∀A B D,ed c.hp id=a6 (.mp A B D)->v=.map (a6 (c.mu id).blk)
 |.yld id,v=>v.oneCell'=true/\c.known id/\ ∀f I J kH K L n p,ed c.hp id=a6 (.lp f I J kH K L n p)->v=.func (.yield (c.mu id).blk) #[] #[]
def bW (c:Cx):List cO->List Value->Prop
 |[],[]=>True
 |v::l,x::d=>dh c v x/\bW c l d
 |_,_=>False
end
def dZ.like:dZ->Loc->dZ->Loc->Prop
 |.box _ _,l,.box _ _,d=>d.blk=l.blk
 |.lp _ _ _ _ _ _ _ _,l,.lp _ _ _ _ _ _ _ _,d=>d.blk=l.blk
 |.mp _ _ _,l,.mp _ _ _,d=>d.blk=l.blk
 |_,_,.dead,_=>True
 |.arr t v _,l,.arr t' v' _,d=>v<=v'/\(v=v'->t=t'/\d.v=l.v)
 |_,_,_,_=>False
structure Cx.Le0 (c c':Cx):Prop where
 out: ∀b,c.out b->c'.out b/\c'.w.heap[b]? =c.w.heap[b]?
 ref: ∀id,c.known id->c'.known id
 obj: ∀id o',c.known id->ed c'.hp id=a6 o'-> ∃o,ed c.hp id=a6 o/\o.like (c.mu id) o' (c'.mu id)
 bar:c'.bar=c.bar
structure Cx.Le (c c':Cx):Prop where
 out: ∀b,c.out b->c'.out b/\c'.w.heap[b]? =c.w.heap[b]?
 ref: ∀id,c.known id->c'.known id
 obj: ∀id o',c.known id->ed c'.hp id=a6 o'-> ∃o,ed c.hp id=a6 o/\o.like (c.mu id) o' (c'.mu id)
 mks: ∀r,r∈c.mks->r∈c'.mks
 lp: ∀(b:Nat) (L:Loop),c.w.heap[b]? =a6 (Obj.loop L)-> ∃L':Loop,c'.w.heap[b]? =a6 (Obj.loop L')
 size:c.w.heap.size<=c'.w.heap.size
 bar:c'.bar=c.bar
theorem Cx.Le0.free {c c':Cx} (h:c.Le0 c') (b:Nat) (hb:c.free b):c'.free b/\c'.w.heap[b]? =c.w.heap[b]? :=
 let⟨⟨d,e,f⟩,g⟩:=h.out b ⟨hb.1,hb.2.1,hb.2.2.1⟩
 ⟨⟨d,e,f,by rw[h.bar];exact hb.2.2.2⟩,g⟩
theorem Cx.Le.free {c c':Cx} (h:c.Le c') (b:Nat) (hb:c.free b):c'.free b/\c'.w.heap[b]? =c.w.heap[b]? :=
 let⟨⟨d,e,f⟩,g⟩:=h.out b ⟨hb.1,hb.2.1,hb.2.2.1⟩
 ⟨⟨d,e,f,by rw[h.bar];exact hb.2.2.2⟩,g⟩
theorem dZ.like_refl (o:dZ) (l:Loc):o.like l o l:=by cases o<;>simp[dZ.like]
theorem dZ.like_trans {a b d:dZ} {l m n:Loc} (h:a.like l b m) (k:b.like m d n):a.like l d n:=by
 cases d with
 |dead=>cases a<;>simp[dZ.like]
 |arr t'' v'' e=>
  cases b with
  |arr t' v' f=>
   cases a with
   |arr t v g=>
    grind [dZ.like]
   |_=>simp[dZ.like]at h
  |_=>simp[dZ.like]at k
 |box _ _=>cases b<;>cases a<;>simp_all [dZ.like]
 |lp _ _ _ _ _ _ _ _=>cases b<;>cases a<;>simp_all [dZ.like]
 |mp _ _ _=>cases b<;>cases a<;>simp_all [dZ.like]
theorem Cx.Le.refl (c:Cx):c.Le c:=⟨fun _ h=>⟨h,rfl⟩,fun _ h=>h,fun id o h d=>⟨o,d,o.like_refl _⟩,fun _ h=>h,fun b L h=>⟨L,h⟩,af _,rfl⟩
theorem VD.le0 {c c':Cx} (h:c.Le0 c') {t:Ty} {x:t.den} {v:Value} (d:VD c t x v):VD c' t x v:=
 ⟨fun e=>let⟨cs,f,g⟩:=d.1 e;⟨cs,f,fV.mono h.free t x _ g⟩,fun e=>fV.mono h.free t x _ (d.2 e)⟩
mutual
theorem dh.le0 {c c':Cx} (h:c.Le0 c'): ∀(v:cO) (x:Value),dh c v x->dh c' v x
 |.undef,_,_=>by simp[dh]
 |.val t x,v,d=>by simp only[dh]at d ⊢;exact d.le0 h
 |.nils,_,d=>by assumption
 |.emp,_,d=>by assumption
 |.lst e z b,v,d=>by simp only[dh]at d ⊢;exact⟨d.1.le0 h,d.2⟩
 |.nilp,_,d=>by assumption
 |.nilfn,_,d=>by assumption
 |.tup l,v,d=>by simp only[dh]at d ⊢;obtain⟨y,j,g⟩:=d;exact⟨y,j,bW.le0 h l _ g⟩
 |.agg l,v,d=>by simp only[dh]at d ⊢;obtain⟨y,j,g,A⟩:=d;exact⟨y,j,bW.le0 h l _ g,A⟩
 |.cellp t x,v,d=>by
  simp only[dh]at d ⊢;obtain⟨b,o,I,j,g,A,J⟩:=d;exact⟨b,o,I,j,(h.free b g).1,A.of_block (h.free b g).2,fV.mono h.free t x _ J⟩
 |.ptr id off,v,d=>by
  simp only[dh]at d ⊢;obtain⟨m,d⟩:=d;refine⟨m,h.ref id d.1,fun t cs q=> ?_⟩;obtain⟨o,j,g⟩:=h.obj id _ d.1 q;cases o<;>simp only[dZ.like]at g;simp_all
 |.slf id,v,d=>by
  simp only[dh]at d ⊢;obtain⟨m,d⟩:=d;refine⟨m,h.ref id d.1,fun t cs q=> ?_⟩;obtain⟨o,j,g⟩:=h.obj id _ d.1 q;cases o<;>simp only[dZ.like]at g;simp_all
 |.sd id B,v,d=>by
  simp only[dh]at d ⊢;obtain⟨m,d⟩:=d;refine⟨m,h.ref id d.1,fun t u z q=> ?_⟩;obtain⟨o,j,g⟩:=h.obj id _ d.1 q;cases o with
  |arr t' v' D=>
   grind [dZ.like]
  |box _ _=>simp[dZ.like]at g
  |lp _ _ _ _ _ _ _ _=>simp[dZ.like]at g
  |dead=>simp[dZ.like]at g
  |mp _ _ _=>simp[dZ.like]at g
 |.slc id B K,v,d=>by
  simp only[dh]at d ⊢;obtain⟨m,d⟩:=d;refine⟨m,h.ref id d.1,fun t u z q=> ?_⟩;obtain⟨o,j,g⟩:=h.obj id _ d.1 q;cases o with
  |arr t' v' D=>
   grind [dZ.like]
  |box _ _=>simp[dZ.like]at g
  |lp _ _ _ _ _ _ _ _=>simp[dZ.like]at g
  |dead=>simp[dZ.like]at g
  |mp _ _ _=>simp[dZ.like]at g
 |.ep id B i off,v,d=>by
  simp only[dh]at d ⊢;obtain⟨m,d⟩:=d;refine⟨m,h.ref id d.1,fun t u z q=> ?_⟩;obtain⟨o,j,g⟩:=h.obj id _ d.1 q;cases o with
  |arr t' v' D=>
   grind [dZ.like]
  |box _ _=>simp[dZ.like]at g
  |lp _ _ _ _ _ _ _ _=>simp[dZ.like]at g
  |dead=>simp[dZ.like]at g
  |mp _ _ _=>simp[dZ.like]at g
 |.fn f l,v,d=>by simp only[dh]at d ⊢;obtain⟨y,j,g⟩:=d;exact⟨y,j,bW.le0 h l _ g⟩
 |.mfn f l,v,d=>by simp only[dh]at d ⊢;obtain⟨y,j,g⟩:=d;exact⟨y,j,bW.le0 h l _ g⟩
 |.mpv id,v,d=>by
  simp only[dh]at d ⊢;obtain⟨m,d⟩:=d;refine⟨m,h.ref id d.1,fun L M N q=> ?_⟩;obtain⟨o,j,g⟩:=h.obj id _ d.1 q;cases o<;>simp only[dZ.like]at g;simp_all
 |.yld id,v,d=>by
  simp only[dh]at d ⊢;obtain⟨m,d⟩:=d;refine⟨m,h.ref id d.1,fun f O S kH U V n p q=> ?_⟩;obtain⟨o,j,g⟩:=h.obj id _ d.1 q;cases o<;>simp only[dZ.like]at g;simp_all
theorem bW.le0 {c c':Cx} (h:c.Le0 c'): ∀(l:List cO) (xs:List Value),bW c l xs->bW c' l xs
 |[],[],_=>by simp[bW]
 |v::l,x::xs,d=>by simp only[bW]at d ⊢;exact⟨dh.le0 h v x d.1,bW.le0 h l xs d.2⟩
 |[],_::_,d=>by simp[bW]at d
 |_::_,[],d=>by simp[bW]at d
end
theorem Cx.Le.le0 {c c':Cx} (h:c.Le c'):c.Le0 c':=⟨h.out,h.ref,h.obj,h.bar⟩
theorem VD.le {c c':Cx} (h:c.Le c') {t:Ty} {x:t.den} {v:Value} (d:VD c t x v):VD c' t x v:=d.le0 h.le0
theorem dh.le {c c':Cx} (h:c.Le c') (v:cO) (x:Value) (d:dh c v x):dh c' v x:=dh.le0 h.le0 v x d
theorem bW.le {c c':Cx} (h:c.Le c') (l:List cO) (xs:List Value) (d:bW c l xs):bW c' l xs:=bW.le0 h.le0 l xs d
end
section
open Nat renaming lt_or_ge → ak
open Tryz
open Go.RowKit
def al2 (w:World):Prop:=Lib.TabIs prog w "internal/strconv.uint64pow10" .u64 Lib.pow10Tab
theorem akO:prog.globalNamed "internal/strconv.uint64pow10" =some 0:=by kernel_rfl
theorem al2.below {w w':World} (hb:Below w.heap.size w w') (h:al2 w):al2 w':=by
 unfold al2 Lib.TabIs World.var? at h ⊢;rw[akO]at h ⊢;simp only[Option.bind_some]at h ⊢;have e:0<w.heap.size:=by
  rcases ak 0 w.heap.size with d|d
  .exact d
  .rw[Array.getElem?_eq_none d]at h;cases h
 rw[hb.block _ e];exact h
def aoW (w:World):Prop:= ∃m,w.cell? ⟨3,0,none⟩=some (.int .i64 m)
theorem aoW.below {w w':World} (hb:Below w.heap.size w w') (h:aoW w):aoW w':=by
 obtain⟨m,d⟩:=h;exact⟨m,(hb.cell (World.block_lt_of_cell? w _ d)).trans d⟩
def Phi (w:World):Prop:=al2 w/\aoW w
theorem Phi.below {w w':World} (hb:Below w.heap.size w w') (h:Phi w):Phi w':=⟨h.1.below hb,h.2.below hb⟩
end
section
open Option renaming some → a6, none → a7
open List renaming cons_append → bz
open Nat renaming le_trans → aK, lt_of_lt_of_le → bF
open Go.RowKit
theorem Cx.Le.trans {a b c:Cx} (h:a.Le b) (k:b.Le c):a.Le c:=
 ⟨fun x e=>⟨(k.out x (h.out x e).1).1,(k.out x (h.out x e).1).2.trans (h.out x e).2⟩,fun i d=>k.ref i (h.ref i d),fun i o d g=>by
  obtain⟨p,f,u⟩:=k.obj i o (h.ref i d) g;obtain⟨q,v,y⟩:=h.obj i p d f
  grind [dZ.like_trans],fun r j=>k.mks r (h.mks r j),fun b L l=>let⟨m,f⟩:=h.lp b L l;k.lp b m f,aK h.size k.size,k.bar.trans h.bar⟩
theorem fF (k:Nat) (o:dZ) (h:iD) (i:Nat):ed ((k,o)::h) i=if k=i then a6 o else ed h i:=by
 simp_all [ed]
theorem kF: ∀(h:iD) (i:Nat) (o:dZ) (j:Nat),ed (jW h i o) j=if i=j then(ed h i).map fun _=>o else ed h j
 |[],i,o,j=>by simp[jW,ed]
 |(k,p)::h,i,o,j=>by
  simp only[jW];by_cases e:k=i
  .simp_all [fF]
  .have d:(k==i)=false:=by simpa using e
   simp only[d,ac,fF,kF h i o j]
   grind
theorem Uh {h:iD} {i:Nat} {o p:dZ} (hi:ed h i=a6 p):ed (jW h i o) i=a6 o:=by rw[kF];simp[hi]
theorem axl {h:iD} {i j:Nat} {o:dZ} (hi:i≠j):ed (jW h i o) j=ed h j:=by rw[kF];simp[hi]
def upd (mu:Nat->Loc) (id:Nat) (l:Loc):Nat->Loc:=fun j=>if j=id then l else mu j
theorem upd_same (mu:Nat->Loc) (id:Nat) (l:Loc):upd mu id l id=l:=by simp[upd]
theorem upd_ne (mu:Nat->Loc) {id j:Nat} (l:Loc) (h:j≠id):upd mu id l j=mu j:=by simp[upd,h]
def Ex.code:Ex->Option Code
 |.normal=>a7
 |.exit id=>a6 (.exit id)
 |.goto l=>a6 (.goto l)
 |.ret=>a6 .ret
def aoU:Nat->Option Ex->Loop->Prop
 |0,a7,L=>L.state=.ready/\L.pending=a7
 |1,a6 e,L=>L.state=.done/\L.pending=e.code/\e.code≠a7
 |2,a7,L=>L.state=.busy
 |_,_,_=>False
def Cx.ORel (B:Nat) (c:Cx) (id:Nat):dZ->Prop
 |.box e cs=>B<=(c.mu id).blk/\ ∃d,c.w.heap[(c.mu id).blk]? =a6 (.cells d e (0,0))/\bW c cs d.toList/\ ∀u∈d.toList,u.oneCell'=true
 |.arr t ver g=>0<t.size/\ ∃e i,c.w.ownsRow B e t.size (c.mu id).v g.length i/\gV (fV c.w c.free t) t.size g i/\(t=.int .u8->e=rH)
 |.lp f fr ps kH bd ky n p=>(∀k,ky=a6 k->uB f k=a6 (kH,bd))/\B<=(c.mu id).blk/\ ∃L:Loop,c.w.heap[(c.mu id).blk]? =a6 (Obj.loop L)/\bW c fr L.tmps.toList/\L.params.toList=ps/\L.assign=kH/\L.body=bd/\aoU n p L
 |.dead=>True
 |.mp kk vk l=>B<=(c.mu id).blk/\ ∃j m,c.w.heap[(c.mu id).blk]? =a6 (.map j m)/\j.toList.map (fun e=>(e.key,e.val))=l.map fun p=>(Value.int kk p.1,Value.int vk p.2)
structure Cx.Ok (W0:World) (c:Cx):Prop where
 bel:Below W0.heap.size W0 c.w
 obj: ∀id o,ed c.hp id=a6 o->c.ORel W0.heap.size id o
 inj: ∀i j o p b,ed c.hp i=a6 o->ed c.hp j=a6 p->o.blk (c.mu i)=a6 b->p.blk (c.mu j)=a6 b->i=j
 mks: ∀r,r∈c.mks->W0.heap.size<=r/\c.w.heap[r]? =a6 (.deferred (a6 []))
 bar: ∀b,c.bar b->c.out b
 phi:Phi W0
theorem Cx.Ok.phiw {W0:World} {c:Cx} (h:c.Ok W0):Phi c.w:=Phi.below h.bel h.phi
theorem Cx.ORel.lt {B:Nat} {c:Cx} {id:Nat} {o:dZ} (h:c.ORel B id o) {b:Nat} (hb:o.blk (c.mu id)=a6 b):B<=b/\b<c.w.heap.size:=by
 cases o with
 |box e cs=>
  simp only[dZ.blk,Option.some.injEq]at hb;subst hb;obtain⟨d,g,f,_⟩:=h
  grind
 |arr t ver i=>
  simp only[dZ.blk]at hb;obtain⟨_,e,j,d,_⟩:=h;exact World.ownsRow.lt d b hb
 |lp _ _ _ _ _ _ _ _=>
  simp only[dZ.blk,Option.some.injEq]at hb;subst hb;obtain⟨_,d,L,f,_⟩:=h
  grind
 |dead=>cases hb
 |mp _ _ _=>
  simp only[dZ.blk,Option.some.injEq]at hb;subst hb;obtain⟨d,l,cl,f,_⟩:=h
  grind
theorem Cx.ORel.no_mark {B:Nat} {c:Cx} {id:Nat} {o:dZ} (h:c.ORel B id o) {b:Nat} (hb:o.blk (c.mu id)=a6 b) {d:Option (List Deferred)}:c.w.heap[b]? ≠a6 (.deferred d):=by
 intro hd;cases o with
 |box e cs=>
  simp only[dZ.blk,Option.some.injEq]at hb;subst hb;obtain⟨f,l,j,_⟩:=h;simp_all
 |arr t ver m=>
  simp only[dZ.blk]at hb;obtain⟨_,e,p,f,_⟩:=h;rcases f.2 with ⟨i,_⟩|⟨g,q,u,i,_,v,_⟩
  .rw[i]at hb;cases hb
  .rw[i]at hb;cases hb;simp_all
 |lp _ _ _ _ _ _ _ _=>
  simp only[dZ.blk,Option.some.injEq]at hb;subst hb;obtain⟨_,f,L,j,_⟩:=h;simp_all
 |dead=>cases hb
 |mp _ _ _=>
  simp only[dZ.blk,Option.some.injEq]at hb;subst hb;obtain⟨f,x,cl,j,_⟩:=h;simp_all
theorem Cx.ORel.no_loop {B:Nat} {c:Cx} {id:Nat} {o:dZ} (h:c.ORel B id o) (u: ∀f fr j kH l m n p,o≠ .lp f fr j kH l m n p) {b:Nat} (hb:o.blk (c.mu id)=a6 b) {L:Loop}:c.w.heap[b]? ≠a6 (Obj.loop L):=by
 intro hd;cases o with
 |box e cs=>
  simp only[dZ.blk,Option.some.injEq]at hb;subst hb;obtain⟨d,v,q,_⟩:=h;simp_all
 |arr t ver x=>
  simp only[dZ.blk]at hb;obtain⟨_,e,y,d,_⟩:=h;rcases d.2 with ⟨i,_⟩|⟨g,z,A,i,_,D,_⟩
  .rw[i]at hb;cases hb
  .rw[i]at hb;cases hb;simp_all
 |lp _ _ _ _ _ _ _ _=>grind
 |dead=>cases hb
 |mp _ _ _=>
  simp only[dZ.blk,Option.some.injEq]at hb;subst hb;obtain⟨d,I,cl,q,_⟩:=h;simp_all
theorem Cx.Ok.mark_lt {W0:World} {c:Cx} (h:c.Ok W0) {r:Nat} (d:r∈c.mks):r<c.w.heap.size:=(Array.getElem?_eq_some_iff.1 (h.mks r d).2).1
theorem Cx.Ok.mark_own {W0:World} {c:Cx} (h:c.Ok W0) {r:Nat} (d:r∈c.mks): ¬c.own r:=by
 rintro ⟨id,o,e,f⟩;exact(h.obj id o e).no_mark f (h.mks r d).2
theorem Cx.Ok.own_lt {W0:World} {c:Cx} (h:c.Ok W0) {b:Nat} (hb:c.own b):W0.heap.size<=b/\b<c.w.heap.size:=by
 obtain⟨id,o,d,e⟩:=hb;exact(h.obj id o d).lt e
theorem Cx.Ok.size {W0:World} {c:Cx} (h:c.Ok W0):W0.heap.size<=c.w.heap.size:=h.bel.size
theorem Cx.Ok.free_old {W0:World} {c:Cx} (h:c.Ok W0) {b:Nat} (hb:b<W0.heap.size) (d: ¬c.bar b):c.free b:=
 ⟨bF hb h.size,fun e=>by have:=(h.own_lt e).1;omega,fun f=>by have:=(h.mks b f).1;omega,d⟩
theorem Dl {w w':World} {B:Nat} {e:TypeId} {size n:Nat} {v:Value} {xs:List Value} (h:w.ownsRow B e size v n xs) (hb: ∀b,v.ownBlock=a6 b->w'.heap[b]? =w.heap[b]?):w'.ownsRow B e size v n xs:=by
 refine⟨h.1, ?_⟩;rcases h.2 with d|⟨g,i,j,f,d,l,m⟩
 .exact .inl d
 .refine .inr ⟨g,i,j,f,d, ?_,m⟩;rw[hb g (by rw[f];rfl)];exact l
theorem Cx.ORel.le {B:Nat} {c c':Cx} {id:Nat} {o:dZ} (h:c.ORel B id o) (hl:c.Le c') (d:c'.mu id=c.mu id) (hb: ∀b,o.blk (c.mu id)=a6 b->c'.w.heap[b]? =c.w.heap[b]?):c'.ORel B id o:=by
 cases o with
 |box e cs=>
  obtain⟨g,q,i,j,l⟩:=h;refine⟨by rw[d];exact g,q,by rw[d,hb _ rfl];exact i,bW.le hl _ _ j,l⟩
 |arr t ver y=>
  obtain⟨m,e,u,g,i,j⟩:=h;refine⟨m,e,u, ?_,gV.mono (fV.mono hl.free t) _ _ i,j⟩;rw[d];exact Dl g fun b v=>hb b v
 |lp f fr ps kH bd ky n p=>
  obtain⟨m,g,L,i,j,l⟩:=h;exact⟨m,by rw[d];exact g,L,by rw[d,hb _ rfl];exact i,bW.le hl _ _ j,l⟩
 |dead=>trivial
 |mp kk vk z=>
  obtain⟨g,x,cl,i,j⟩:=h;exact⟨by rw[d];exact g,x,cl,by rw[d,hb _ rfl];exact i,j⟩
def Cx.at_ (c:Cx) (w:World):Cx:={c with w:=w}
theorem Cx.Le.ext {c:Cx} {w:World} (h:Below c.w.heap.size c.w w):c.Le (c.at_ w):=
 ⟨fun b d=>⟨⟨bF d.1 h.size,d.2⟩,h.block b d.1⟩,fun _ h=>h,fun id o _ f=>⟨o,f,o.like_refl _⟩,fun _ h=>h,
  fun b L e=>⟨L,(h.block b (Array.getElem?_eq_some_iff.1 e).1).trans e⟩,h.size,rfl⟩
theorem Cx.Ok.ext {W0:World} {c:Cx} {w:World} (d:c.Ok W0) (h:Below c.w.heap.size c.w w):(c.at_ w).Ok W0:=
 ⟨d.bel.trans (h.mono d.size),fun id o g=>(d.obj id o g).le (Cx.Le.ext h) rfl fun b e=>h.block b ((d.obj id o g).lt e).2,d.inj,
  fun r f=>⟨(d.mks r f).1,(h.block r (d.mark_lt f)).trans (d.mks r f).2⟩,fun b e=>((Cx.Le.ext h).out b (d.bar b e)).1,d.phi⟩
def Cx.push (c:Cx) (id:Nat) (o:dZ) (l:Loc) (nxt:Nat) (w:World):Cx:=⟨upd c.mu id l,(id,o)::c.hp,nxt,w,c.mks,c.bar⟩
theorem Cx.Le.push {c:Cx} {id:Nat} {o:dZ} {l:Loc} {nxt:Nat} {w:World} (x: ¬c.known id) (y:c.nxt<=nxt) (q:c.w.heap.size<=w.heap.size)
  (hb: ∀b,b<c.w.heap.size->w.heap[b]? =c.w.heap[b]?) (hl: ∀b,o.blk l=a6 b->c.w.heap.size<=b):c.Le (c.push id o l nxt w):=by
 have hk: ∀j,c.known j->j≠id:=fun j d e=>x (e▸d);refine⟨fun b f=>⟨⟨bF f.1 q, ?_,f.2.2⟩,hb b f.1⟩,fun j d=> ?_,fun j p d m=> ?_,fun _ h=>h,fun b L u=>⟨L,(hb b (Array.getElem?_eq_some_iff.1 u).1).trans u⟩,q,rfl⟩
 .rintro ⟨j,p,i,g⟩;simp only[Cx.push,fF]at i g;split at i
  .rename_i e
   subst e;cases i;rw[upd_same]at g;have:=hl b g;have:=f.1;omega
  .rename_i e
   rw[upd_ne _ _ (Ne.symm e)]at g;exact f.2.1 ⟨j,p,i,g⟩
 .rcases d with ⟨p,m⟩|d
  .left;simp only[Cx.push,fF]
   grind
  .right;exact bF d y
 .have v:=hk j d;simp only[Cx.push,fF,aq (Ne.symm v)]at m ⊢;exact⟨p,m,by rw[upd_ne _ _ v];exact p.like_refl _⟩
theorem Cx.Ok.push {W0:World} {c:Cx} {id:Nat} {o:dZ} {l:Loc} {nxt:Nat} {w:World} (d:c.Ok W0) (z: ¬c.known id) (J:c.nxt<=nxt) (h:Below c.w.heap.size c.w w)
  (hl: ∀b,o.blk l=a6 b->c.w.heap.size<=b) (M:(c.push id o l nxt w).ORel W0.heap.size id o):(c.push id o l nxt w).Ok W0:=by
 have A:=Cx.Le.push (o:=o) z J h.size h.block hl;have hk: ∀j p,ed c.hp j=a6 p->j≠id:=fun j p K e=>z (e▸ .inl ⟨p,K⟩);refine⟨d.bel.trans (h.mono d.size),fun j p L=> ?_,fun i j p q b B D f g=> ?_,fun r m=>⟨(d.mks r m).1,(h.block r (d.mark_lt m)).trans (d.mks r m).2⟩,fun b u=>(A.out b (d.bar b u)).1,d.phi⟩
 .by_cases e:j=id
  .simp_all [Cx.push,fF]
  .have I:ed c.hp j=a6 p:=by simpa [Cx.push,fF,Ne.symm e] using L
   exact(d.obj j p I).le A (upd_ne _ _ e) fun b u=>h.block b ((d.obj j p I).lt u).2
 .by_cases e1:i=id<;>by_cases e2:j=id
  .rw[e1,e2]
  .subst e1;have v:p=o:=by grind [Cx.push,fF]
   have x:ed c.hp j=a6 q:=by simpa [Cx.push,fF,Ne.symm e2] using D
   subst v;simp only[Cx.push,upd_same,upd_ne _ _ e2]at f g;have:=hl b f;have:=((d.obj j q x).lt g).2;omega
  .subst e2;have v:q=o:=by grind [Cx.push,fF]
   have y:ed c.hp i=a6 p:=by simpa [Cx.push,fF,Ne.symm e1] using B
   subst v;simp only[Cx.push,upd_same,upd_ne _ _ e1]at f g;have:=hl b g;have:=((d.obj i p y).lt f).2;omega
  .have y:ed c.hp i=a6 p:=by simpa [Cx.push,fF,Ne.symm e1] using B
   have x:ed c.hp j=a6 q:=by simpa [Cx.push,fF,Ne.symm e2] using D
   simp only[Cx.push,upd_ne _ _ e1,upd_ne _ _ e2]at f g;exact d.inj i j p q b y x f g
def Cx.put (c:Cx) (id:Nat) (o:dZ) (l:Loc) (w:World):Cx:=⟨upd c.mu id l,jW c.hp id o,c.nxt,w,c.mks,c.bar⟩
theorem Cx.put_get {c:Cx} {id:Nat} {o p:dZ} {l:Loc} {w:World} (hp:ed c.hp id=a6 p):ed (c.put id o l w).hp id=a6 o:=Uh hp
theorem Cx.Le.put {W0:World} {c:Cx} {id:Nat} {o o':dZ} {l:Loc} {w:World} (y:c.Ok W0) (m:ed c.hp id=a6 o) (hk:o.like (c.mu id) o' l) (u:c.w.heap.size<=w.heap.size)
  (hb: ∀b,b<c.w.heap.size->o.blk (c.mu id)≠a6 b->w.heap[b]? =c.w.heap[b]?) (hl: ∀b,o'.blk l=a6 b->o.blk (c.mu id)=a6 b\/c.w.heap.size<=b)
  (x: ∀(b:Nat) (L:Loop),o.blk (c.mu id)=a6 b->c.w.heap[b]? =a6 (Obj.loop L)-> ∃L':Loop,w.heap[b]? =a6 (Obj.loop L')):c.Le (c.put id o' l w):=by
 refine⟨fun b d=>⟨⟨bF d.1 u, ?_,d.2.2⟩,hb b d.1 fun e=>d.2.1 ⟨id,o,m,e⟩⟩,fun j i=> ?_,fun j p i hp=> ?_,fun _ h=>h,fun b L q=> ?_,u,rfl⟩
 rotate_left 3
 .by_cases e:o.blk (c.mu id)=a6 b
  .exact x b L e q
  .exact⟨L,(hb b (Array.getElem?_eq_some_iff.1 q).1 e).trans q⟩
 .rintro ⟨j,p,f,g⟩;simp only[Cx.put,kF]at f g;split at f
  .rename_i e
   subst e;rw[m]at f;cases f;rw[upd_same]at g;rcases hl b g with v|v
   .exact d.2.1 ⟨id,o,m,v⟩
   .have:=d.1;omega
  .rename_i e
   rw[upd_ne _ _ (Ne.symm e)]at g;exact d.2.1 ⟨j,p,f,g⟩
 .rcases i with ⟨p,hp⟩|i
  .left
   grind [Cx.put,kF]
  .right;exact i
 .simp only[Cx.put,kF]at hp ⊢;split at hp
  .simp_all [upd_same]
  .rename_i e
   exact⟨p,hp,by rw[upd_ne _ _ (Ne.symm e)];exact p.like_refl _⟩
theorem Cx.Ok.put {W0:World} {c:Cx} {id:Nat} {o o':dZ} {l:Loc} {w:World} (d:c.Ok W0) (u:ed c.hp id=a6 o) (hk:o.like (c.mu id) o' l) (O:Below W0.heap.size W0 w)
  (S:c.w.heap.size<=w.heap.size) (hb: ∀b,b<c.w.heap.size->o.blk (c.mu id)≠a6 b->w.heap[b]? =c.w.heap[b]?) (hl: ∀b,o'.blk l=a6 b->o.blk (c.mu id)=a6 b\/c.w.heap.size<=b)
  (U: ∀(b:Nat) (L:Loop),o.blk (c.mu id)=a6 b->c.w.heap[b]? =a6 (Obj.loop L)-> ∃L':Loop,w.heap[b]? =a6 (Obj.loop L')) (V:(c.put id o' l w).ORel W0.heap.size id o'):(c.put id o' l w).Ok W0:=by
 have K:=Cx.Le.put (w:=w) d u hk S hb hl U;refine⟨O,fun j p hp=> ?_,fun i j p q b B D g m=> ?_,fun r x=>⟨(d.mks r x).1,(hb r (d.mark_lt x) fun e=>(d.obj id o u).no_mark e (d.mks r x).2).trans (d.mks r x).2⟩,fun b hb=>(K.out b (d.bar b hb)).1,d.phi⟩
 .by_cases e:id=j
  .grind [Cx.put_get]
  .have I:ed c.hp j=a6 p:=by grind [Cx.put,kF]
   refine(d.obj j p I).le K (upd_ne _ _ (Ne.symm e)) fun b M=>hb b ((d.obj j p I).lt M).2 fun f=>e (d.inj id j o p b u I f M)
 .have y: ∀i p,ed (c.put id o' l w).hp i=a6 p->id≠i->ed c.hp i=a6 p:=fun i p h e=>by simpa [Cx.put,kF,e] using h
  have N: ∀p,ed (c.put id o' l w).hp id=a6 p->p=o':=fun p h=>by grind [Cx.put_get]
  by_cases e1:id=i<;>by_cases f:id=j
  .rw[<-e1,<-f]
  .subst e1;have J:=N p B;have z:=y j q D f;subst J;simp only[Cx.put,upd_same,upd_ne _ _ (Ne.symm f)]at g m;rcases hl b g with v|v
   .exact d.inj id j o q b u z v m
   .have:=((d.obj j q z).lt m).2;omega
  .subst f;have J:=N q D;have A:=y i p B e1;subst J;simp only[Cx.put,upd_same,upd_ne _ _ (Ne.symm e1)]at g m;rcases hl b m with v|v
   .exact d.inj i id p o b A u g v
   .have:=((d.obj i p A).lt g).2;omega
  .have A:=y i p B e1;have z:=y j q D f;simp only[Cx.put,upd_ne _ _ (Ne.symm e1),upd_ne _ _ (Ne.symm f)]at g m;exact d.inj i j p q b A z g m
theorem bW.length {c:Cx}: ∀(l:List cO) (xs:List Value),bW c l xs->l.length=xs.length
 |[],[],_=>rfl
 |v::l,x::xs,h=>by simp only[bW]at h;simp[bW.length l xs h.2]
 |[],_::_,h=>by simp[bW]at h
 |_::_,[],h=>by simp[bW]at h
theorem bW.get {c:Cx}: ∀(l:List cO) (xs:List Value),bW c l xs-> ∀(i:Nat) (h:i<l.length) (f:i<xs.length),dh c l[i] xs[i]
 |v::l,x::xs,h,0,_,_=>by simp_all [bW]
 |v::l,x::xs,h,i+1,d,e=>by simp only[bW]at h;exact bW.get l xs h.2 i (by simpa using d) (by simpa using e)
 |[],_,_,_,d,_=>by simp at d
 |_::_,[],h,_,_,_=>by simp[bW]at h
theorem bW.append {c:Cx}: ∀(l m:List cO) (xs d:List Value),bW c l xs->bW c m d->bW c (l++m) (xs++d)
 |[],m,[],d,_,h=>h
 |v::l,m,x::xs,d,h,k=>by simp only[bW,bz]at h ⊢;exact⟨h.1,bW.append l m xs d h.2 k⟩
 |[],_,_::_,_,h,_=>by simp[bW]at h
 |_::_,_,[],_,h,_=>by simp[bW]at h
theorem bW.take {c:Cx}: ∀(k:Nat) (l:List cO) (xs:List Value),bW c l xs->bW c (l.take k) (xs.take k)
 |0,_,_,_=>by simp[bW]
 |k+1,[],[],_=>by simp[bW]
 |k+1,v::l,x::xs,h=>by simp only[bW,List.take_succ_cons]at h ⊢;exact⟨h.1,bW.take k l xs h.2⟩
 |_+1,[],_::_,h=>by simp[bW]at h
 |_+1,_::_,[],h=>by simp[bW]at h
theorem bW.drop {c:Cx}: ∀(k:Nat) (l:List cO) (xs:List Value),bW c l xs->bW c (l.drop k) (xs.drop k)
 |0,_,_,h=>by simpa using h
 |k+1,[],[],_=>by simp[bW]
 |k+1,v::l,x::xs,h=>by simp only[bW,List.drop_succ_cons]at h ⊢;exact bW.drop k l xs h.2
 |_+1,[],_::_,h=>by simp[bW]at h
 |_+1,_::_,[],h=>by simp[bW]at h
theorem bW.set {c:Cx} {v:cO} {x:Value} (d:dh c v x): ∀(i:Nat) (l:List cO) (xs:List Value),bW c l xs->bW c (l.set i v) (xs.set i x)
 |_,[],[],_=>by simp[bW]
 |0,u::l,y::xs,h=>by simp_all [bW]
 |i+1,u::l,y::xs,h=>by simp only[bW,List.set_cons_succ]at h ⊢;exact⟨h.1,bW.set d i l xs h.2⟩
 |_,[],_::_,h=>by simp[bW]at h
 |_,_::_,[],h=>by simp[bW]at h
theorem bW.split {c:Cx}: ∀(l m:List cO) (xs:List Value),bW c (l++m) xs-> ∃d e,xs=d++e/\bW c l d/\bW c m e
 |[],m,xs,h=>⟨[],xs,rfl,by simp[bW],h⟩
 |v::l,m,x::xs,h=>by
  simp only[bW,bz]at h;obtain⟨d,e,f,g,i⟩:=bW.split l m xs h.2;exact⟨x::d,e,by rw[f];rfl,by simp only[bW];exact⟨h.1,g⟩,i⟩
 |v::l,m,[],h=>by simp[bW]at h
theorem VD.leaf {c:Cx} {t:Ty} {x:t.den} {v:Value} (h:t.isAgg=false):VD c t x v↔fV c.w c.free t x [v]:=⟨fun d=>d.2 h,fun d=>⟨(fun e=>by rw[h]at e;cases e),(fun _=>d)⟩⟩
theorem VD.agg {c:Cx} {t:Ty} {x:t.den} {v:Value} (h:t.isAgg=true):VD c t x v↔ ∃cs,v=.agg cs/\fV c.w c.free t x cs.toList:=⟨fun d=>d.1 h,fun d=>⟨(fun _=>d),(fun e=>by rw[h]at e;cases e)⟩⟩
theorem VD.cells {c:Cx} {t:Ty} {x:t.den} {v:Value} (h:VD c t x v):fV c.w c.free t x v.cells.toList:=by
 by_cases e:t.isAgg=true
 .obtain⟨cs,rfl,d⟩:=h.1 e;exact d
 .have f:t.isAgg=false:=by simpa using e
  have d:=h.2 f;have g:=fV.one _ _ _ d v (by simp);cases v<;>simp_all [Value.cells,Value.oneCell']
theorem FD {c:Cx}: ∀(t:Ty) (x:t.den) (cs:List Value),fV c.w c.free t x cs->bW c (flat t x) cs
 |.unit,_,_,h=>by cases h;simp[flat,bW]
 |.bool,x,cs,h=>by simp only[fV]at h;subst h;simp only[flat,bW,dh];exact⟨(VD.leaf rfl).2 rfl,trivial⟩
 |.int k,x,cs,h=>by simp only[fV]at h;subst h;simp only[flat,bW,dh];exact⟨(VD.leaf rfl).2 rfl,trivial⟩
 |.str,x,cs,h=>by simp only[fV]at h;subst h;simp only[flat,bW,dh];exact⟨(VD.leaf rfl).2 rfl,trivial⟩
 |.list t,x,cs,h=>by
  have e:=h;obtain⟨a,n,l,d,_⟩:=h;subst d;simp only[flat,bW,dh];exact⟨(VD.leaf rfl).2 e,trivial⟩
 |.pair a b,x,cs,⟨f,g,d,i,j⟩=>by
  subst d;exact bW.append _ _ _ _ (FD a x.1 f i) (FD b x.2 g j)
theorem oO {t' t:Ty} {x:t'.den} {y:t.den} (h:mJ t x=a6 y): ∃e:t'=t,y=cast (congrArg Ty.den e) x:=by
 grind [mJ]
theorem iw {t:Ty} (x:t.den):mJ t x=a6 x:=by simp[mJ]
theorem jo {t' t:Ty} {x:t'.den} {y:t.den} (h:mJ t x=a6 y):t'=t:=(oO h).1
theorem Lu {c:Cx} {t:Ty} (e:t.isAgg=false) {v:cO} {x:t.den} (h:leaf t v=a6 x) {u:Value} (d:dh c v u):fV c.w c.free t x [u]:=by
 cases v with
 |val t' y=>
  grind [leaf,oO,dh,VD.leaf]
 |nils=>
  cases t<;>simp only[leaf]at h
  case list t=>
   cases h;simp only[dh]at d;subst d;exact⟨a7,0,[],rfl,by simp,rfl,.inl rfl⟩
  all_goals cases h
 |_=>simp[leaf]at h
theorem aha {c:Cx}: ∀(t:Ty) (l:List cO) (x:t.den) (e:List cO) (vs:List Value),mk t l=a6 (x,e)->bW c l vs->
  ∃cs g,vs=cs++g/\fV c.w c.free t x cs/\bW c e g
 |.unit,l,x,e,vs,h,d=>by
  simp only[mk,Option.some.injEq,Prod.mk.injEq]at h;obtain⟨_,rfl⟩:=h;exact⟨[],vs,rfl,rfl,d⟩
 |.pair a b,l,x,e,vs,h,d=>by
  simp only[mk]at h;split at h
  .rename_i y i p
   split at h
   .rename_i z L q
    cases h;obtain⟨j,A,M,B,D⟩:=aha a l y i vs p d;obtain⟨m,I,N,J,K⟩:=aha b i z e A q D;exact⟨j++m,I,by simp_all,⟨j,m,rfl,B,J⟩,K⟩
   .cases h
  .cases h
 |.bool,[],_,_,_,h,_=>by simp[mk]at h
 |.int _,[],_,_,_,h,_=>by simp[mk]at h
 |.str,[],_,_,_,h,_=>by simp[mk]at h
 |.list _,[],_,_,_,h,_=>by simp[mk]at h
 |.bool,v::l,x,e,u::vs,h,d=>by
  simp only[bW]at d;simp only[mk]at h;split at h
  .rename_i y f;cases h;exact⟨[u],vs,rfl,Lu rfl f d.1,d.2⟩
  .cases h
 |.int k,v::l,x,e,u::vs,h,d=>by
  simp only[bW]at d;simp only[mk]at h;split at h
  .rename_i y f;cases h;exact⟨[u],vs,rfl,Lu rfl f d.1,d.2⟩
  .cases h
 |.str,v::l,x,e,u::vs,h,d=>by
  simp only[bW]at d;simp only[mk]at h;split at h
  .rename_i y f;cases h;exact⟨[u],vs,rfl,Lu rfl f d.1,d.2⟩
  .cases h
 |.list t,v::l,x,e,u::vs,h,d=>by
  simp only[bW]at d;simp only[mk]at h;split at h
  .rename_i y f;cases h;exact⟨[u],vs,rfl,Lu rfl f d.1,d.2⟩
  .cases h
 |.bool,_::_,_,_,[],_,d=>by simp[bW]at d
 |.int _,_::_,_,_,[],_,d=>by simp[bW]at d
 |.str,_::_,_,_,[],_,d=>by simp[bW]at d
 |.list _,_::_,_,_,[],_,d=>by simp[bW]at d
theorem qZ {c:Cx} {t:Ty} {l:List cO} {x:t.den} {vs:List Value} (h:I9 t l=a6 x) (d:bW c l vs):fV c.w c.free t x vs:=by
 grind [I9,aha,bW]
theorem NK {c:Cx} {v:cO} {l:List cO} (h:v.cells=a6 l) {x:Value} (d:dh c v x):bW c l x.cells.toList/\ ∀u∈x.cells.toList,u.oneCell'=true:=by
 cases v with
 |val t y=>
  simp only[cO.cells,Option.some.injEq]at h;subst h;simp only[dh]at d;exact⟨FD t y _ d.cells,fV.one _ _ _ d.cells⟩
 |agg i=>
  simp only[cO.cells,Option.some.injEq]at h;subst h;simp only[dh]at d;obtain⟨j,rfl,e,f⟩:=d;exact⟨e,f⟩
 |undef=>simp[cO.cells]at h
 |tup _=>simp[cO.cells]at h
 |_=>
  simp only[cO.cells,Option.some.injEq]at h;subst h;have g:x.oneCell'=true:=by
   simp only[dh]at d
   first
    |(subst d;rfl)
    |exact d.1
    |(obtain⟨_,_,_,rfl,_⟩:=d;rfl)
    |(obtain⟨_,rfl,_⟩:=d;rfl)
    |(obtain⟨_,_,_,_,rfl,_⟩:=d;rfl)
  have e:x.cells= #[x]:=by cases x<;>simp_all [Value.cells,Value.oneCell']
  rw[e];simp only[bW];exact⟨⟨d,trivial⟩,by simpa using g⟩
end
section
open Option renaming some → a6, none → a7
open Bool renaming not_eq_true → bG
open List renaming map_cons → ay
open Go.RowKit
def nz:TypeDesc->Option TK
 |.bool=>a6 .bool
 |.int k=>a6 (.int k)
 |.string=>a6 .str
 |.slice e=>a6 (.slice e)
 |.struct d=>a6 (.struct (d.toList.map fun f=>(f.offset,f.type)))
 |.func _ _ _=>a6 .fn
 |.pointer e=>a6 (.ptr e)
 |.map k e=>a6 (.map k e)
 |.array _ _=>a7
 |_=>a6 .other
def lF (T:TT):Nat->List (Nat×TypeId)->Option Ty
 |_,[]=>a6 .unit
 |off,(o,d)::e=>if o=off then match(T.at d).ty with
   |some a=>if a.size=(T.at d).size/\(T.at d).known=true then match lF T (off+a.size) e with
    |some b=>a6 (.pair a b)
    |none=>a7
    else a7
   |none=>a7
  else a7
def oh (T:TT):TK->Option Ty
 |.bool=>a6 .bool
 |.int k=>a6 (.int k)
 |.str=>a6 .str
 |.slice e=>(T.at e).ty.map .list
 |.struct d=>lF T 0 d
 |_=>a7
def aA2 (P:Program) (T:TT) (t:TypeId) (i:TI):Prop:=
 i.known=true->(P.info? t).map (fun f=>(f.size,f.bytes,f.zero.map fun z=>(z.cells.toList.map yY,z.cells.toList.all Value.oneCell')))=a6 (i.size,i.bytes,a6 (i.zero,true))/\
  (P.underlying t).map nz=a6 (a6 i.k)/\(i.ty=a7\/i.ty=oh T i.k)/\(∀y,i.ty=a6 y->y.size=i.size)/\(i.isAgg=true\/i.size=1)/\
  (i.eq=true->P.eqGuardType P.depth t=false/\P.stoodInHeld t=false/\(P.underlying t).map (fun d=>match d with|.struct fs=>fs.toList.all fun f=>f.name != "_" |_=>false)=a6 true)/\
  (P.underlying t).map (fun d=>match d with|.struct fs=>fs.toList.all fun f=>(P.info? f.type).isSome|_=>true)=a6 true/\i.zero.length=i.size/\(i.ty=a6 (.int .u8)->t=rH)/\(i.bld=true->t=Xn)/\(∀k,i.k=.int k-> ∀j,P.info? t=a6 j->j.zero=a6 (.int k 0))
def TOk (P:Program) (T:TT):Prop:= ∀t,aA2 P T t (T.at t)
def TT.All (p:Nat->TI->Prop):TT->Prop
 |.nil=>True
 |.node k i l r=>p k i/\l.All p/\r.All p
theorem TT.All.at_ {p:Nat->TI->Prop} (hd: ∀t,p t default): ∀(T:TT),T.All p-> ∀t,p t (T.at t)
 |.nil,_,t=>hd t
 |.node k i l r,⟨m,d,f⟩,t=>by
  simp only[TT.at];by_cases e:Nat.beq k t=true
  .simp_all
  .have g:Nat.beq k t=false:=(bG _).mp e;simp only[g,ac];by_cases e2:Nat.blt t k=true
   .simp only[e2,aa];exact TT.All.at_ hd l d t
   .have j:Nat.blt t k=false:=(bG _).mp e2;simp only[j,ac];exact TT.All.at_ hd r f t
theorem TOk.of_all {P:Program} {T:TT} (h:T.All (aA2 P T)):TOk P T:=TT.All.at_ (fun t h=>by cases h) T h
section types
variable {P:Program} {T:TT} (hT:TOk P T) {t:TypeId} (hk:(T.at t).known=true)
theorem TOk.info (hT:TOk P T) (hk:(T.at t).known=true): ∃i z,P.info? t=a6 i/\i.size=(T.at t).size/\i.bytes=(T.at t).bytes/\i.zero=a6 z/\z.cells.toList.map yY=(T.at t).zero/\z.cells.toList.all Value.oneCell'=true:=by
 have h:=(hT t hk).1;simp_all
theorem TOk.und (hT:TOk P T) (hk:(T.at t).known=true): ∃d,P.underlying t=a6 d/\nz d=a6 (T.at t).k:=by
 have h:=(hT t hk).2.1;simp_all
theorem TOk.slice (hT:TOk P T) (hk:(T.at t).known=true) {e:TypeId} (h:(T.at t).k=.slice e):P.underlying t=a6 (.slice e):=by
 obtain⟨d,g,f⟩:=hT.und hk;rw[h]at f;cases d<;>simp[nz]at f;subst f;exact g
theorem TOk.str (hT:TOk P T) (hk:(T.at t).known=true) (h:(T.at t).k=.str):P.underlying t=a6 .string:=by
 obtain⟨d,f,e⟩:=hT.und hk;rw[h]at e;cases d<;>simp[nz]at e;exact f
theorem TOk.int (hT:TOk P T) (hk:(T.at t).known=true) {k:IntKind} (h:(T.at t).k=.int k):P.underlying t=a6 (.int k):=by
 obtain⟨d,f,e⟩:=hT.und hk;rw[h]at e;cases d<;>simp[nz]at e;subst e;exact f
theorem TOk.struct (hT:TOk P T) (hk:(T.at t).known=true) {e:List (Nat×TypeId)} (h:(T.at t).k=.struct e): ∃g,P.underlying t=a6 (.struct g)/\g.toList.map (fun f=>(f.offset,f.type))=e:=by
 obtain⟨d,j,i⟩:=hT.und hk;rw[h]at i;cases d<;>simp[nz]at i;simp_all
theorem TOk.isAgg (hT:TOk P T) (hk:(T.at t).known=true) (w:World):(Go.isAgg t).run P w=.ok (T.at t).isAgg w:=by
 obtain⟨d,f,e⟩:=hT.und hk;have:(Go.isAgg t).run P w=.ok (match d with|.struct _|.array _ _=>true|_=>false) w:=by
  simp only[Go.isAgg,Sem.run_bind,run_underlying f,Result.andThen_ok];cases d<;>rfl
 rw[this];unfold TI.isAgg;cases d<;>simp only[nz,Option.some.injEq,reduceCtorEq]at e<;>simp[<-e]
theorem TOk.sizeOf (hT:TOk P T) (hk:(T.at t).known=true) (w:World):(Go.sizeOf t).run P w=.ok (T.at t).size w:=by
 obtain⟨i,z,d,e,_⟩:=hT.info hk;simp[Go.sizeOf,typeInfo,d,e]
theorem TOk.ty_agg (hT:TOk P T) (hk:(T.at t).known=true) {y:Ty} (h:(T.at t).ty=a6 y):y.isAgg=(T.at t).isAgg:=by
 rcases(hT t hk).2.2.1 with d|d
 .simp_all
 .rw[h]at d;unfold TI.isAgg;cases hkk:(T.at t).k with
  |struct g=>
   rw[hkk]at d;simp only[oh]at d;cases g with
   |nil=>simp only[lF,Option.some.injEq]at d;subst d;rfl
   |cons f r=>
    obtain⟨o,i⟩:=f;simp only[lF]at d
    repeat' split at d
    all_goals first|cases d|skip
    rfl
  |bool=>rw[hkk]at d;simp only[oh,Option.some.injEq]at d;subst d;rfl
  |int k=>rw[hkk]at d;simp only[oh,Option.some.injEq]at d;subst d;rfl
  |str=>rw[hkk]at d;simp only[oh,Option.some.injEq]at d;subst d;rfl
  |slice e=>
   rw[hkk]at d;simp only[oh]at d;cases he:(T.at e).ty with
   |none=>simp_all
   |some j=>rw[he]at d;simp only[Option.map_some,Option.some.injEq]at d;subst d;rfl
  |other=>rw[hkk]at d;cases d
  |ptr e=>rw[hkk]at d;cases d
  |fn=>rw[hkk]at d;cases d
  |map a b=>rw[hkk]at d;cases d
theorem TOk.ty_size (hT:TOk P T) (hk:(T.at t).known=true) {y:Ty} (h:(T.at t).ty=a6 y):y.size=(T.at t).size:=(hT t hk).2.2.2.1 y h
theorem TOk.zlen (hT:TOk P T) (hk:(T.at t).known=true):(T.at t).zero.length=(T.at t).size:=(hT t hk).2.2.2.2.2.2.2.1
theorem TOk.byte (hT:TOk P T) (hk:(T.at t).known=true) (h:(T.at t).ty=a6 (.int .u8)):t=rH:=(hT t hk).2.2.2.2.2.2.2.2.1 h
theorem TOk.bldr (hT:TOk P T) (hk:(T.at t).known=true) (h:(T.at t).bld=true):t=Xn:=(hT t hk).2.2.2.2.2.2.2.2.2.1 h
theorem TOk.ptr (hT:TOk P T) (hk:(T.at t).known=true) {e:TypeId} (h:(T.at t).k=.ptr e):P.underlying t=a6 (.pointer e):=by
 obtain⟨d,g,f⟩:=hT.und hk;rw[h]at f;cases d<;>simp[nz]at f;subst f;exact g
theorem TOk.zero_int (hT:TOk P T) (hk:(T.at t).known=true) {k:IntKind} (h:(T.at t).k=.int k) {i:TypeInfo} (hi:P.info? t=a6 i):i.zero=a6 (.int k 0):=(hT t hk).2.2.2.2.2.2.2.2.2.2 k h i hi
theorem TOk.zero_byte (hT:TOk P T) (hk:(T.at t).known=true) (h:(T.at t).k=.int .u8) {i:TypeInfo} (hi:P.info? t=a6 i):i.zero=a6 (.int .u8 0):=hT.zero_int hk h hi
theorem TOk.map (hT:TOk P T) (hk:(T.at t).known=true) {a e:TypeId} (h:(T.at t).k=.map a e):P.underlying t=a6 (.map a e):=by
 obtain⟨d,g,f⟩:=hT.und hk;rw[h]at f;cases d<;>simp[nz]at f;simp_all
theorem TOk.one (hT:TOk P T) (hk:(T.at t).known=true):(T.at t).isAgg=true\/(T.at t).size=1:=(hT t hk).2.2.2.2.1
end types
theorem Tt (c:Cx) (v:Value):dh c (yY v) v:=by
 unfold yY;split<;>simp only[dh]
 .exact(VD.leaf rfl).2 rfl
 .exact(VD.leaf rfl).2 rfl
 .refine(VD.leaf rfl).2 ?_;simp[fV]
theorem wG (c:Cx): ∀(l:List Value),bW c (l.map yY) l
 |[]=>by simp[bW]
 |v::l=>by simp only[ay,bW];exact⟨Tt c v,wG c l⟩
theorem bW.setL {c:Cx} {z:cO}: ∀(s:Nat) (fr:List cO) (xs:List Value),bW c fr xs->(∀h:s<xs.length,dh c z xs[s])->bW c (fr.set s z) xs
 |s,[],[],_,_=>by simp[bW]
 |0,v::fr,x::xs,h,d=>by
  simp_all [bW]
 |s+1,v::fr,x::xs,h,d=>by
  simp only[bW,List.set_cons_succ]at h ⊢;exact⟨h.1,bW.setL s fr xs h.2 fun e=>d (by simpa using e)⟩
 |s,[],_::_,h,_=>by simp[bW]at h
 |s,_::_,[],h,_=>by simp[bW]at h
theorem bW.getD {c:Cx} {l:List cO} {xs:Array Value} (h:bW c l xs.toList) (t:Nat):dh c (l.getD t .undef) (xs.getD t undef):=by
 have e:l.length=xs.size:=by grind [bW.length,Array.length_toList]
 by_cases ht:t<l.length
 .have d:t<xs.size:=by omega
  have f:=bW.get _ _ h t ht (by simpa using d);simp_all
 simp_all [dh]
theorem eu {c:Cx} {fr:List cO} {a:Act} (h:bW c fr a.tmps.toList) (x:Operand):dh c (iM fr x) (a.eval x):=by
 cases x with
 |tmp t=>exact h.getD t
 |const v=>
  cases v with
  |agg cs=>
   simp only[iM,Act.eval,Zb];cases e:cs.toList.all Value.oneCell'
   .simp[dh]
   .simp only[aa,dh];exact⟨cs,rfl,wG c _,fun u d=>List.all_eq_true.1 e u d⟩
  |tuple _=>simp[iM,Zb,dh]
  |_=>simp only[iM,Act.eval,Zb];exact Tt c _
 |global g=>simp[iM,dh]
 |func f=>simp only[iM,Act.eval,dh];exact⟨#[],rfl,by simp[bW]⟩
end
section
open Option renaming some → a6, none → a7
open Bool renaming false_eq_true → ai, not_true → au
open List renaming append_assoc → ag, mem_of_mem_take → bI
open Go.RowKit
theorem dQ {R:Type} {b:Bool} {x:Option R} {r:R} (h:(bif b then x else a7)=a6 r):b=true/\x=a6 r:=by
 grind
theorem gY {R:Type} {b:Bool} {x:Option R} {r:R} (h:oN b x=a6 r):b=true/\x=a6 r:=dQ h
abbrev IP (c:Cx) (w:World):Prop:=Below c.w.heap.size c.w w
def valOf (agg:Bool) (d:List Value):Value:=if agg then .agg d.toArray else d.headD undef
theorem mD (b o n:Nat):(⟨b,o,a7⟩:Addr).add n=⟨b,o+n,a7⟩:=by
 simp_all [Addr.add]
section
variable {P:Program} {T:TT} {W0:World} {c:Cx} {R:Type} {r:R} {t:TypeId}
theorem MW (hT:TOk P T) (hk:(T.at t).known=true) {w:World} {b o:Nat} {d:List Value} (g:iP w b o d) (hl:d.length=(T.at t).size):
  (loadVar t ⟨b,o,a7⟩).run P w=.ok (valOf (T.at t).isAgg d) w:=by
 have i:=hT.isAgg hk w;have l:=hT.sizeOf hk w;have f: ∀j v,d[j]? =a6 v->w.cell? ((⟨b,o,a7⟩:Addr).add j)=a6 v:=fun j v m=>by
  rw[mD];obtain⟨p,q⟩:=List.getElem?_eq_some_iff.1 m;rw[g j p,q]
 simp only[loadVar,Sem.run_bind,i,Result.andThen_ok];cases e:(T.at t).isAgg
 .have u:d.length=1:=by
   rcases hT.one hk with h|h
   all_goals simp_all
  match d,u with
  |[z],_=>
   have x:=f 0 z rfl;simp_all [mD,valOf]
 .simp only[if_true,Sem.run_bind,l,Result.andThen_ok,<-hl,run_loadCells_list (P:=P) w ⟨b,o,a7⟩ d f,Sem.run_pure,valOf]
theorem vg (hT:TOk P T) (hk:(T.at t).known=true) {w:World} {b o:Nat} {d:List Value} (e:iP w b o d) (hl:d.length=(T.at t).size):
  (Instr.loadAt t (.pointer (a6 ⟨b,o,a7⟩))).run P w=.ok (valOf (T.at t).isAgg d) w:=by
 grind [Instr.loadAt,Instr.sureAddr,MW]
theorem afD (hT:TOk P T) (hk:(T.at t).known=true) {y:Ty} (g:(T.at t).ty=a6 y) {x:y.den} {d:List Value} (h:fV c.w c.free y x d):VD c y x (valOf (T.at t).isAgg d):=by
 have f:=hT.ty_agg hk g;cases e:(T.at t).isAgg
 .rw[e]at f;refine(VD.leaf f).2 ?_;have i:=fV.length _ _ _ h;have j:d.length=1:=by
   rw[i];cases y<;>first|rfl|(simp[Ty.isAgg]at f)
  match d,j with
  |[z],_=>exact h
 .rw[e]at f;exact(VD.agg f).2 ⟨d.toArray,rfl,by simpa using h⟩
theorem Mc (hT:TOk P T) (hk:(T.at t).known=true) {l:List cO} {d:List Value} (h:bW c l d) (m: ∀u∈d,u.oneCell'=true):dh c (norm (T.at t) l) (valOf (T.at t).isAgg d):=by
 unfold norm valOf TI.isAgg;have e:dh c (.agg l) (.agg d.toArray):=by simp only[dh];simp_all
 cases hkk:(T.at t).k with
 |struct p=>
  simp only[if_true];split
  .rename_i y g
   split
   .rename_i x i
    rw[cond_eq_ite];split
    .exact e
    simp only[dh];have j:=qZ i h;have f:=hT.ty_agg hk g;rw[TI.isAgg,hkk]at f;exact(VD.agg f).2 ⟨d.toArray,rfl,by simpa using j⟩
   .exact e
  .exact e
 |_=>
  simp only[ai,if_false];split
  .rename_i v
   match d,h with
   |[z],h=>simp only[bW]at h;exact h.1
   |[],h=>simp[bW]at h
   |_::_::_,h=>simp[bW]at h
  .simp[dh]
theorem DX {cs l:List cO} {off k:Nat} (h:Kv cs off k=a6 l):off+k<=cs.length/\l=(cs.drop off).take k:=by
 unfold Kv at h;obtain⟨d,e⟩:=dQ h;simp_all
theorem iP.sub {w:World} {b o:Nat} {d:List Value} (h:iP w b o d) (off k:Nat):iP w b (o+off) ((d.drop off).take k):=by
 intro j e;have f:off+j<d.length:=by simp at e;omega
 rw[Nat.add_assoc,h (off+j) f];simp
theorem iP.of_block_cells {w:World} {b:Nat} {vs:Array Value} {e:TypeId} {f:Nat×Nat} (h:w.heap[b]? =a6 (.cells vs e f)):iP w b 0 vs.toList:=by
 intro j d;simp_all [World.cell?]
theorem IP.cells {c:Cx} {w:World} (h:IP c w) {b o:Nat} {d:List Value} (hb:b<c.w.heap.size) (e:iP c.w b o d):iP w b o d:=e.of_block (h.block b hb)
theorem atX (p:c.Ok W0) {id q:Nat} {y:Ty} {xs:List y.den} (h:ed c.hp id=a6 (.arr y q xs)) {i:Nat} (hi:i<xs.length):
  ∃g n cp f,(c.mu id).v=.slice (a6 ⟨g,0,a7⟩) n cp/\c.own g/\fV c.w c.free y xs[i] f/\iP c.w g (i*y.size) f:=by
 obtain⟨S,e,f,u,x,U⟩:=p.obj id _ h;obtain⟨d,V,z,W,X,A,B⟩:=gV.at_ i xs f hi x;rcases u.2 with ⟨l,D⟩|⟨g,Y,I,l,D,J,Z,h7,h8,K⟩
 .omega
 .refine⟨g,_,_,d,l,⟨id,_,h,by simp[dZ.blk,l,Value.ownBlock]⟩,z, ?_⟩;have L:=iP.of_block_cells J;intro j M;have m:f[i*y.size+j]? =a6 d[j]:=by
   rw[A,ag,List.getElem?_append_right (by omega),B,Nat.add_sub_cancel_left,List.getElem?_append_left M];simp
  have N:i*y.size+j<f.length:=(List.getElem?_eq_some_iff.1 m).1;rw[<-K]at m N;have O:i*y.size+j<I.toList.length:=by grind
  have:=L (i*y.size+j) O
  grind
theorem atP (hT:TOk P T) (q:c.Ok W0) {av:cO} {v:Value} {K:cO->Option R} (h:NZ T c.hp t av K=a6 r) (d:dh c av v):
  ∃z u,K z=a6 r/\dh c z u/\ ∀w',IP c w'->(Instr.loadAt t v).run P w'=.ok u w':=by
 unfold NZ at h;cases hk:(T.at t).known
 .simp_all
 rw[hk]at h;simp only[au,ac]at h;cases av with
 |cellp y x=>
  simp only at h;split at h
  .rename_i y' V
   split at h
   .rename_i x' A
    obtain⟨e,B⟩:=oO A;subst e;subst B;simp only[dh]at d;obtain⟨b,o,W,rfl,X,f,hd⟩:=d;refine⟨_,_,h, ?_,fun w' j=>vg hT hk (j.cells X.1 f) ?_⟩
    .grind [dh,afD]
    .rw[fV.length _ _ _ hd,hT.ty_size hk V]
   .cases h
  .cases h
 |ptr id off=>
  simp only at h;split at h
  .rename_i bt cs L
   split at h
   .rename_i l D
    obtain⟨m,rfl⟩:=DX D;simp only[dh]at d;have Y:=d.2.2 _ _ L;subst Y;obtain⟨hB,vs,p,M,Z⟩:=q.obj id _ L;have ab:=bW.length _ _ M;have f:=(iP.of_block_cells p).sub off (T.at t).size;rw[Nat.zero_add]at f;refine⟨_,_,h,Mc hT hk (bW.take _ _ _ (bW.drop off _ _ M)) (fun u I=>Z u (List.mem_of_mem_drop (bI I))),fun w' j=>vg hT hk (j.cells (Array.getElem?_eq_some_iff.1 p).1 f) ?_⟩
    grind
   .cases h
  .cases h
 |ep id ver i off=>
  simp only at h;split at h
  .rename_i y u J N
   replace h:=dQ h;obtain⟨m,h⟩:=h;replace h:=dQ h;obtain⟨B,h⟩:=h;have m:u=ver:=by simpa using m
   subst m;have O:i<J.length:=by simpa [QN] using B
   split at h
   .rename_i l D
    obtain⟨p,rfl⟩:=DX D;simp only[dh]at d;obtain⟨g',n',af,e1,e2⟩:=(d.2.2 _ _ _ N).2 rfl;obtain⟨g,n,cp,W,S,ad,hd,f⟩:=atX q N O;rw[e1]at S;cases S;subst e2;have A:J.getD i y.dflt=J[i]:=by simp[List.getD,O]
    rw[A]at h p;have U:=FD y _ _ hd;have ab:=bW.length _ _ U;have ae:=f.sub off (T.at t).size;refine⟨_,_,h,Mc hT hk (bW.take _ _ _ (bW.drop off _ _ U)) (fun u I=>fV.one _ _ _ hd u (List.mem_of_mem_drop (bI I))),fun w' j=>vg hT hk (j.cells (q.own_lt ad).2 ae) ?_⟩;simp;omega
   .cases h
  .cases h
 |_=>cases h
end
end
section
open Option renaming some → a6, none → a7
open Bool renaming and_eq_true → ah, false_eq_true → ai, not_true → au, true_and → aS
open List renaming map_cons → ay, drop_eq_getElem_cons → aH, map_nil → aV, all_cons → bn
open Go.RowKit
section
variable {P:Program} {T:TT} {W0:World} {c:Cx} {R:Type} {r:R} {t:TypeId}
theorem VD.int_inv {k:IntKind} {n:Int} {v:Value} (h:VD c (.int k) n v):v=.int k n:=by
 have:=h.2 rfl;simp_all [fV]
theorem VD.bool_inv {b:Bool} {v:Value} (h:VD c .bool b v):v=.bool b:=by
 have:=h.2 rfl;simp_all [fV]
theorem VD.str_inv {s:List UInt8} {v:Value} (h:VD c .str s v):v=.string ⟨s.toArray⟩:=by
 have:=h.2 rfl;simp_all [fV]
theorem VD.int_mk {k:IntKind} {n:Int}:VD c (.int k) n (.int k n):=(VD.leaf rfl).2 rfl
theorem VD.bool_mk {b:Bool}:VD c .bool b (.bool b):=(VD.leaf rfl).2 rfl
theorem VD.str_mk {s:List UInt8}:VD c .str s (.string ⟨s.toArray⟩):=(VD.leaf rfl).2 rfl
theorem H5 (hT:TOk P T) (h:T.isStr t=true):P.underlying t=a6 .string:=by
 unfold TT.isStr at h;split at h
 .rename_i e;exact hT.str h e
 .cases h
theorem oK (hT:TOk P T) {n:Nat} (h:T.rowOf t n=true): ∃e,P.underlying t=a6 (.slice e)/\(T.at e).known=true/\(T.at e).size=n/\0<n/\(T.at t).k=.slice e/\0<(T.at e).bytes:=by
 unfold TT.rowOf at h;split at h
 .rename_i e d
  simp only[ah,beq_iff_eq,QN,decide_eq_true_eq]at h;exact⟨e,hT.slice h.1 d,h.2.1,h.2.2.1,h.2.2.2.1,d,h.2.2.2.2⟩
 .cases h
theorem _root_.Go.Proofs.YtjegbhogodknhaaGreatDoor.TOk.isPtr (hT:TOk P T) (h:T.isPtr t=true): ∃e,P.underlying t=a6 (.pointer e):=by
 unfold TT.isPtr at h;split at h
 .rename_i e hk;exact⟨e,hT.ptr h hk⟩
 .cases h
theorem _root_.Go.Proofs.YtjegbhogodknhaaGreatDoor.TOk.isBytes (hT:TOk P T) (h:T.isBytes t=true):P.underlying t=a6 (.pointer rH)/\P.cellsOf rH=1:=by
 unfold TT.isBytes at h;split at h
 .rename_i e hk
  simp only[ah]at h;obtain⟨g,d,f⟩:=h;split at f
  .rename_i j
   have:=hT.byte d j;subst this;refine⟨hT.ptr g hk, ?_⟩;obtain⟨i,z,l,m,_⟩:=hT.info d;simp_all [Program.cellsOf]
  .cases f
 .cases h
theorem MJ (hT:TOk P T) (hk:(T.at t).known=true) (w:World) (cs:Array Value) (off:Nat) (h:off+(T.at t).size<=cs.size):
  (part t cs off).run P w=.ok (valOf (T.at t).isAgg ((cs.toList.drop off).take (T.at t).size)) w:=by
 have d:=hT.isAgg hk w;have f:=hT.sizeOf hk w;simp only[part,Sem.run_bind,d,Result.andThen_ok];cases e:(T.at t).isAgg
 .have g:(T.at t).size=1:=by
   rcases hT.one hk with h|h
   all_goals simp_all
  have i:off<cs.size:=by omega
  simp_all [aH,valOf]
 .simp only[if_true,Sem.run_bind,f,Result.andThen_ok,Sem.run_pure,valOf];congr 2
  grind
theorem D6 (hT:TOk P T): ∀(n:Nat) (t:TypeId),T.eqOk n t=true-> ∀(y:Ty),(T.at t).ty=a6 y-> ∀(x j:y.den) (l m:List Value),fV c.w c.free y x l->fV c.w c.free y j m->
  ∀(w:World) (d:Nat),n<=d->(Op.equalIn d t (valOf (T.at t).isAgg l) (valOf (T.at t).isAgg m)).run P w=.ok (y.same x j) w
 |0,_,h,_,_,_,_,_,_,_,_,_,_,_=>by simp[TT.eqOk]at h
 |n+1,t,h,y,z,x,j,l,m,Y,Z,w,d,hd=>by
  obtain⟨d,rfl⟩: ∃e,d=e+1:=⟨d-1,by omega⟩;simp only[TT.eqOk,ah]at h;obtain⟨hk,h⟩:=h;have i:(T.at t).ty=oh T (T.at t).k:=by
   rcases(hT t hk).2.2.1 with g|g
   all_goals simp_all
  cases hkk:(T.at t).k with
  |bool=>
   rw[z,hkk]at i;simp only[oh,Option.some.injEq]at i;subst i;obtain⟨dd,p,u⟩:=hT.und hk;rw[hkk]at u;cases dd<;>simp[nz]at u;simp_all [fV,TI.isAgg,valOf,run_equalIn_bool,Ty.same]
  |int k=>
   rw[z,hkk]at i;simp only[oh,Option.some.injEq]at i;subst i;have p:=hT.int hk hkk;simp_all [fV,TI.isAgg,valOf,run_equalIn_int,Ty.same]
  |str=>
   rw[z,hkk]at i;simp only[oh,Option.some.injEq]at i;subst i;have p:=hT.str hk hkk;simp_all [fV,TI.isAgg,valOf,run_equalIn_string,Ty.same]
  |struct fs=>
   rw[hkk]at h;simp only[ah]at h;obtain⟨M,N⟩:=h;have O:(T.at t).isAgg=true:=by simp[TI.isAgg,hkk]
   rw[z,hkk]at i;simp only[oh]at i;obtain⟨J,p,u⟩:=hT.struct hk hkk;obtain⟨_,S,K⟩:=(hT t hk).2.2.2.2.2.1 M;rw[p]at K;simp only[Option.map_some,Option.some.injEq]at K;have L:P.fieldsOf t=J:=by simp[Program.fieldsOf,p]
   simp only[valOf,O,if_true];rw[run_equalIn_struct w d t _ _ (by rw[L];exact p) S,L];clear L S p z;rw[<-u]at i N;generalize J.toList=q at*;clear u J hkk M O hk;have ab: ∀(q:List Field) (off:Nat) (y:Ty) (x j:y.den) (l m pre v:List Value),lF T off (q.map fun f=>(f.offset,f.type))=a6 y->(q.map fun f=>(f.offset,f.type)).all (fun f=>T.eqOk n f.2)=true->
     (q.all fun f=>f.name != "_")=true->fV c.w c.free y x l->fV c.w c.free y j m->pre.length=off->v.length=off->
     (Op.eqFields d (pre++l).toArray (v++m).toArray q).run P w=.ok (y.same x j) w:=by
    intro q
    induction q with
    |nil=>
     intro off y x j l m pre v g _ _ A B _ _;simp only[aV,lF,Option.some.injEq]at g;subst g;rfl
    |cons f q ih=>
     intro off y x j l m pre v g A B h4 h5 h6 h7;simp only[ay,lF]at g;split at g
     .rename_i ad
      split at g
      .rename_i a ha
       split at g
       .rename_i U
        split at g
        .rename_i b hb
         cases g;simp only[ay,bn,ah]at A B;obtain⟨D,V,p,u,e3⟩:=h4;obtain⟨I,W,e4,X,e6⟩:=h5;subst p;subst e4;have ae:=fV.length _ _ _ u;have af:=fV.length _ _ _ X;have n1:(f.name≠ "_"):=by simpa using B.1
         have p1:(part f.type (pre++(D++V)).toArray f.offset).run P w=.ok (valOf (T.at f.type).isAgg D) w:=by
          rw[MJ hT U.2 w _ _ (by simp;omega)];simp_all
         have p2:(part f.type (v++(I++W)).toArray f.offset).run P w=.ok (valOf (T.at f.type).isAgg I) w:=by
          rw[MJ hT U.2 w _ _ (by simp;omega)];simp_all
         have p3:=D6 hT n f.type A.1 a ha x.1 j.1 D I u X w d (by omega);simp only[Op.eqFields,am n1,Sem.run_bind,p1,p2,p3,Result.andThen_ok,Ty.same];cases a.same x.1 j.1
         .simp
         .simp only[au,ai,if_false,aS];have:=ih (off+a.size) b x.2 j.2 V W (pre++D) (v++I) hb A.2 B.2 e3 e6 (by simp;omega) (by simp;omega);simpa using this
        .cases g
       .cases g
      .cases g
     .cases g
   have:=ab q 0 y x j l m [] [] i.symm N K Y Z rfl rfl;simpa using this
  |_=>simp_all
theorem acC (w:World) (d:BinOp) (a b:List UInt8) (h:d=.eql\/d=.neq\/d=.lss\/d=.leq\/d=.gtr\/d=.geq):
  ∃u,dh c (YW d a b) u/\ ∀w,(Op.stringOp d ⟨a.toArray⟩ ⟨b.toArray⟩).run P w=.ok u w:=by
 rcases h with rfl|rfl|rfl|rfl|rfl|rfl<;>
  exact⟨_,by simp only[YW,dh];exact VD.bool_mk,fun w=>by simp[Op.stringOp,iG,ltS]⟩
theorem oZ (d:BinOp) (t:TypeId) (ox oy:Operand) (x y:Value) (w:World) (h:x.oneCell'=true) (h2:x≠ .nilIface):(eqGuard d t ox oy x y).run P w=.ok () w:=by
 unfold eqGuard;cases x<;>first
  |(simp[Value.oneCell']at h;done)
  |exact absurd rfl h2
  |(cases d<;>simp)
theorem He {y:Ty} {v:cO} {x:y.den} (h:v.as [] y=a6 x) (d:y.isAgg=true) {u:Value} (f:dh c v u): ∃cs,u=.agg cs/\fV c.w c.free y x cs.toList:=by
 cases v with
 |val t' z=>
  grind [cO.as,oO,dh,VD.agg]
 |nils=>cases y<;>simp_all [cO.as,Ty.isAgg]
 |emp=>cases y<;>simp_all [cO.as,Ty.isAgg]
 |lst t' z b=>
  simp only[cO.as]at h;obtain⟨e,_⟩:=oO h;subst e;cases d
 |slc id ver j=>cases y<;>simp_all [cO.as,Ty.isAgg]
 |agg l=>
  simp only[cO.as,d,aa]at h;simp only[dh]at f;obtain⟨g,rfl,i,_⟩:=f;exact⟨g,rfl,qZ h i⟩
 |_=>simp[cO.as]at h
theorem aGZ (hT:TOk P T) {f:BinOp} {ox oy:Operand} {x y:cO} {J L:Value} {K:cO->Option R} (h:adp T f t x y K=a6 r) (hx:dh c x J) (i:dh c y L):
  ∃z u,K z=a6 r/\dh c z u/\ ∀w,(do eqGuard f t ox oy J L;binOp f t J L:Sem Value).run P w=.ok u w:=by
 unfold adp at h;split at h
 .
  rename_i k a Y b
  simp only[dh]at hx i;obtain rfl:=hx.int_inv;obtain rfl:=i.int_inv;split at h
  .rename_i hk
   subst hk;have l: ∀w,(eqGuard f t ox oy (.int k a) (.int k b)).run P w=.ok () w:=fun w=>oZ f t ox oy _ _ w rfl (by simp);cases f<;>simp only[reduceCtorEq]at h
   case quo=>
    replace h:=gY h;obtain⟨g,h⟩:=h;have g:b≠0:=by simpa [cZ] using g
    exact⟨_,_,h,by simp only[dh];exact VD.int_mk,fun w=>by simp_all [binOp,Op.intDiv,aFO]⟩
   case rem=>
    replace h:=gY h;obtain⟨g,h⟩:=h;have g:b≠0:=by simpa [cZ] using g
    exact⟨_,_,h,by simp only[dh];exact VD.int_mk,fun w=>by simp_all [binOp,Op.intDiv]⟩
   case add=>exact⟨_,_,h,by simp only[Bg,dh];exact VD.int_mk,fun w=>by simp_all [binOp,Op.intArith,dJ]⟩
   case sub=>exact⟨_,_,h,by simp only[Bg,dh];exact VD.int_mk,fun w=>by simp_all [binOp,Op.intArith,fO]⟩
   case mul=>exact⟨_,_,h,by simp only[Bg,dh];exact VD.int_mk,fun w=>by simp_all [binOp,Op.intArith,anA]⟩
   case eql=>exact⟨_,_,h,by simp only[Bg,dh];exact VD.bool_mk,fun w=>by simp_all [binOp,Op.intCmp,cZ]⟩
   case neq=>exact⟨_,_,h,by simp only[Bg,dh];exact VD.bool_mk,fun w=>by simp_all [binOp,Op.intCmp,cZ,bne]⟩
   case lss=>exact⟨_,_,h,by simp only[Bg,dh];exact VD.bool_mk,fun w=>by simp_all [binOp,Op.intCmp,iV]⟩
   case leq=>exact⟨_,_,h,by simp only[Bg,dh];exact VD.bool_mk,fun w=>by simp_all [binOp,Op.intCmp,leI]⟩
   case gtr=>exact⟨_,_,h,by simp only[Bg,dh];exact VD.bool_mk,fun w=>by simp_all [binOp,Op.intCmp,iV]⟩
   case geq=>exact⟨_,_,h,by simp only[Bg,dh];exact VD.bool_mk,fun w=>by simp_all [binOp,Op.intCmp,leI]⟩
   case and=>exact⟨_,_,h,by simp only[dh];exact VD.int_mk,fun w=>by simp_all [binOp,Op.intBits,ao8]⟩
   case or=>exact⟨_,_,h,by simp only[dh];exact VD.int_mk,fun w=>by simp_all [binOp,Op.intBits,ao8]⟩
   case xor=>exact⟨_,_,h,by simp only[dh];exact VD.int_mk,fun w=>by simp_all [binOp,Op.intBits,ao8]⟩
   case andNot=>exact⟨_,_,h,by simp only[dh];exact VD.int_mk,fun w=>by simp_all [binOp,Op.intBits,ao8]⟩
   case shl=>
    obtain⟨g,h⟩:=gY h;have g: ¬b<0:=by simpa [leI] using g
    exact⟨_,_,h,by simp only[dh];exact VD.int_mk,fun w=>by simp[Sem.run_bind,l,binOp,Op.shift,g,ay0]⟩
   case shr=>
    obtain⟨g,h⟩:=gY h;have g: ¬b<0:=by simpa [leI] using g
    exact⟨_,_,h,by simp only[dh];exact VD.int_mk,fun w=>by simp[Sem.run_bind,l,binOp,Op.shift,g,ay1]⟩
  .have l: ∀w,(eqGuard f t ox oy (.int k a) (.int Y b)).run P w=.ok () w:=fun w=>oZ f t ox oy _ _ w rfl (by simp);split at h
   .obtain⟨g,h⟩:=gY h;have g: ¬b<0:=by simpa [leI] using g
    exact⟨_,_,h,by simp only[dh];exact VD.int_mk,fun w=>by simp[Sem.run_bind,l,binOp,Op.shift,g,ay0]⟩
   .obtain⟨g,h⟩:=gY h;have g: ¬b<0:=by simpa [leI] using g
    exact⟨_,_,h,by simp only[dh];exact VD.int_mk,fun w=>by simp[Sem.run_bind,l,binOp,Op.shift,g,ay1]⟩
   .cases h
 .
  rename_i a b
  simp only[dh]at hx i;obtain rfl:=hx.bool_inv;obtain rfl:=i.bool_inv;replace h:=dQ h;obtain⟨hk,h⟩:=h;have l: ∀w,(eqGuard f t ox oy (.bool a) (.bool b)).run P w=.ok () w:=fun w=>oZ f t ox oy _ _ w rfl (by simp);have B:(T.at t).k=.bool->P.underlying t=a6 .bool:=fun e=>by
   obtain⟨d,p,q⟩:=hT.und hk;rw[e]at q;cases d<;>simp[nz]at q;exact p
  split at h
  .rename_i e
   have p:=B e;exact⟨_,_,h,by simp only[dh];exact VD.bool_mk,fun w=>by simp_all [binOp,Op.equal,Op.maxDepth,run_equalIn_bool]⟩
  .rename_i e
   have p:=B e;exact⟨_,_,h,by simp only[dh];exact VD.bool_mk,fun w=>by simp_all [binOp,Op.equal,Op.maxDepth,run_equalIn_bool]⟩
  .cases h
 .
  rename_i a b
  simp only[dh]at hx i;obtain rfl:=hx.str_inv;obtain rfl:=i.str_inv;have l: ∀w,(eqGuard f t ox oy (.string ⟨a.toArray⟩) (.string ⟨b.toArray⟩)).run P w=.ok () w:=fun w=>oZ f t ox oy _ _ w rfl (by simp);have D:binOp f t (.string ⟨a.toArray⟩) (.string ⟨b.toArray⟩)=Op.stringOp f ⟨a.toArray⟩ ⟨b.toArray⟩:=by cases f<;>rfl
  have ae:(f=.eql\/f=.neq\/f=.lss\/f=.leq\/f=.gtr\/f=.geq)->K (YW f a b)=a6 r->
    ∃z u,K z=a6 r/\dh c z u/\ ∀w,(do eqGuard f t ox oy (.string ⟨a.toArray⟩) (.string ⟨b.toArray⟩);binOp f t (.string ⟨a.toArray⟩) (.string ⟨b.toArray⟩):Sem Value).run P w=.ok u w:=fun Z hh=>by
   obtain⟨u,g,V⟩:=acC (P:=P) (c:=c) default f a b Z
   grind [Sem.run_bind,Result.andThen_ok]
  cases f<;>simp only[reduceCtorEq]at h
  case add=>
   replace h:=gY h;obtain⟨g,h⟩:=h;refine⟨_,_,h,by simp only[dh];exact VD.str_mk,fun w=> ?_⟩;have g:a.length+b.length<=nC:=by simpa using g
   have V: ¬((a.length:Int)+(b.length:Int)>IntKind.i64.max):=by
    grind [IntKind.max,IntKind.bits,nC]
   have p:(⟨a.toArray⟩:ByteArray)++⟨b.toArray⟩=⟨(a++b).toArray⟩:=by
    rfl
   simp_all [ByteArray.size,Op.stringOp]
  all_goals simp_all
 .
  rename_i e xs b
  simp only[dh]at hx i;obtain⟨af,A,n,m,rfl,rfl⟩:=hx;subst i;replace h:=dQ h;obtain⟨hk,h⟩:=h;have l: ∀w,(eqGuard f t ox oy (.slice A n m) (.slice a7 0 0)).run P w=.ok () w:=fun w=>oZ f t ox oy _ _ w rfl (by simp);have B: ∀j,(T.at t).k=.slice j->P.underlying t=a6 (.slice j):=fun j e=>by
   obtain⟨d,p,q⟩:=hT.und hk;rw[e]at q;cases d<;>simp[nz]at q;rw[p,q]
  have v: ∀j,(T.at t).k=.slice j-> ∀w,(Op.equal t (.slice A n m) (.slice a7 0 0)).run P w=.ok A.isNone w:=fun j e w=>by
   have p:=B j e;show(Op.equalIn (9999+1) t (.slice A n m) (.slice a7 0 0)).run P w=_;unfold Op.equalIn;rw[Sem.run_bind,run_underlying p,Result.andThen_ok];cases A<;>rfl
  split at h
  .rename_i j e
   exact⟨_,_,h,by simp only[dh];exact VD.bool_mk,fun w=>by simp_all [binOp]⟩
  .rename_i j e
   exact⟨_,_,h,by simp only[dh];exact VD.bool_mk,fun w=>by simp_all [binOp]⟩
  .cases h
 .
  rename_i h0 g V W
  cases v:T.eqOk 6 t
  .simp_all
  rw[v]at h;simp only[au,ac]at h;split at h
  .rename_i fs M X N
   have ab:(T.at t).isAgg=true:=by simp[TI.isAgg,X]
   have hk:(T.at t).known=true:=by simp_all [TT.eqOk]
   have I:M.isAgg=true:=by rw[hT.ty_agg hk N,ab]
   have ag:P.eqGuardType P.depth t=false:=by
    simp only[TT.eqOk,ah,X]at v;exact((hT t hk).2.2.2.2.2.1 v.2.1).1
   split at h
   .rename_i a b O D
    obtain⟨cs,rfl,S⟩:=He O I hx;obtain⟨ad,rfl,U⟩:=He D I i;refine⟨_,_,h,by simp only[dh];exact VD.bool_mk,fun w=> ?_⟩;have W:=D6 (P:=P) hT 6 t v M N a b _ _ S U w 10000 (by omega);simp_all [valOf,run_eqGuard_agg,run_eql_struct]
   .rename_i a b O D
    obtain⟨cs,rfl,S⟩:=He O I hx;obtain⟨ad,rfl,U⟩:=He D I i;refine⟨_,_,h,by simp only[dh];exact VD.bool_mk,fun w=> ?_⟩;have W:=D6 (P:=P) hT 6 t v M N a b _ _ S U w 10000 (by omega);simp_all [valOf,run_eqGuard_agg,run_neq_struct]
   .cases h
  .cases h
theorem atO {W0:World} (hT:TOk P T) (L:c.Ok W0) {i:BinOp} {ox oy:Operand} {x y:cO} {p A:Value} {K:cO->Option R} (h:TG T c.hp i t x y K=a6 r) (hx:dh c x p) (l:dh c y A):
  ∃z u,K z=a6 r/\dh c z u/\ ∀w,(do eqGuard i t ox oy p A;binOp i t p A:Sem Value).run P w=.ok u w:=by
 unfold TG at h;rw[cond_eq_ite]at h;split at h
 .rename_i f
  unfold auK at f;split at f
  .split at f
   .split at f
    .rename_i id Z M N O e v ys I
     simp only[ah,beq_iff_eq,QN,decide_eq_true_eq]at f;obtain⟨rfl,ab⟩:=f;simp only[dh]at hx l;subst l;have S:=(hx.2.2 _ _ _ I).2 rfl;obtain⟨_,e',zs,U,_,_⟩:=L.obj id _ I;obtain⟨B,n,m,rfl⟩: ∃a n m,p=.slice (a6 a) n m:=by
      rcases U.2 with ⟨_,h0⟩|⟨g,ad,ae,J,_⟩
      .omega
      .cases M with
       |none=>simp_all [jU]
       |some V=>
        obtain⟨lo,hi⟩:=V;simp only[jU]at S
        grind
     obtain⟨hk,h⟩:=dQ h;have W: ∀w,(eqGuard i t ox oy (.slice (a6 B) n m) (.slice a7 0 0)).run P w=.ok () w:=fun w=>oZ i t ox oy _ _ w rfl (by simp);have X: ∀j,(T.at t).k=.slice j-> ∀w,(Op.equal t (.slice (a6 B) n m) (.slice a7 0 0)).run P w=.ok false w:=fun j e w=>by
      have q:P.underlying t=a6 (.slice j):=by
       obtain⟨d,q,D⟩:=hT.und hk;rw[e]at D;cases d<;>simp[nz]at D;rw[q,D]
      show(Op.equalIn (9999+1) t (.slice (a6 B) n m) (.slice a7 0 0)).run P w=_;unfold Op.equalIn;rw[Sem.run_bind,run_underlying q,Result.andThen_ok];rfl
     split at h
     .exact⟨_,_,h,by simp only[dh];exact VD.bool_mk,fun w=>by simp_all [binOp]⟩
     .exact⟨_,_,h,by simp only[dh];exact VD.bool_mk,fun w=>by simp_all [binOp]⟩
     .cases h
    .cases f
   .cases f
  .cases f
 .rw[cond_eq_ite]at h;split at h
  .rename_i f
   unfold atL at f;split at f
   .split at f
    .split at f
     .rename_i id off y0 N O bt cs Y
      simp only[dh]at hx l;subst l;have J:=hx.2.2 _ _ Y;subst J;obtain⟨hk,h⟩:=dQ h;have W: ∀w,(eqGuard i t ox oy (.pointer (a6 ⟨(c.mu id).blk,off,a7⟩)) (.pointer a7)).run P w=.ok () w:=fun w=>oZ i t ox oy _ _ w rfl (by simp);have X: ∀j,(T.at t).k=.ptr j-> ∀w,(Op.equal t (.pointer (a6 ⟨(c.mu id).blk,off,a7⟩)) (.pointer a7)).run P w=.ok false w:=fun j e w=>by
       have q:=hT.ptr hk e;show(Op.equalIn (9999+1) t (.pointer (a6 ⟨(c.mu id).blk,off,a7⟩)) (.pointer a7)).run P w=_;unfold Op.equalIn;simp_all [run_underlying]
      split at h
      .exact⟨_,_,h,by simp only[dh];exact VD.bool_mk,fun w=>by simp_all [binOp]⟩
      .exact⟨_,_,h,by simp only[dh];exact VD.bool_mk,fun w=>by simp_all [binOp]⟩
      .cases h
     .cases f
    .cases f
   .cases f
  .exact aGZ hT h hx l
theorem aG0 {d:UnOp} {x:cO} {v:Value} {K:cO->Option R} (h:aqZ d x K=a6 r) (hx:dh c x v):
  ∃z u,K z=a6 r/\dh c z u/\ ∀w,(Op.unary d v).run P w=.ok u w:=by
 unfold aqZ at h;split at h
 .simp only[dh]at hx;obtain rfl:=hx.bool_inv;exact⟨_,_,h,by simp only[dh];exact VD.bool_mk,fun w=>rfl⟩
 .simp only[dh]at hx;obtain rfl:=hx.int_inv;exact⟨_,_,h,by simp only[dh];exact VD.int_mk,fun w=>by rfl⟩
 .cases h
end
end
section
open Option renaming some → a6, none → a7
open Bool renaming and_eq_true → ah, false_eq_true → ai
open Nat renaming le_refl → af
open Go.RowKit
section
variable {P:Program} {T:TT} {W0:World} {c:Cx} {R:Type} {r:R} {t:TypeId}
theorem uQ {v:cO} {n:Int} (h:intOf v=a6 n) {u:Value} (d:dh c v u): ∃k,u=.int k n:=by
 cases v with
 |val t x=>
  cases t<;>simp only[intOf,reduceCtorEq]at h;cases h;simp only[dh]at d;exact⟨_,d.int_inv⟩
 |_=>simp[intOf]at h
def oG (c:Cx):Option cO->Option Value->Prop
 |none,a7=>True
 |some v,a6 u=>dh c v u
 |_,_=>False
theorem oG.map {fr:List cO} {a:Act} (h:bW c fr a.tmps.toList) (x:Option Operand):oG c (x.map (iM fr)) (x.map a.eval):=by
 cases x with
 |none=>trivial
 |some x=>exact eu h x
theorem oG.none_inv {u:Option Value} (h:oG c a7 u):u=a7:=by
 cases u with
 |none=>rfl
 |some _=>exact h.elim
theorem qQ {d l:Int} {x:Option cO} {u:Option Value} (h:bound d x=a6 l) (e:oG c x u):(u=a7/\l=d)\/ ∃k,u=a6 (.int k l):=by
 cases x with
 |none=>
  cases u with
  |none=>simp only[bound,Option.some.injEq]at h;simp_all
  |some _=>exact e.elim
 |some x=>
  cases u with
  |none=>exact e.elim
  |some u=>
   obtain⟨k,rfl⟩:=uQ h e;simp
theorem sS {w:World} {isS:Bool} {n cap:Nat} {l h:Int} {lo hi:Option Value} (hl:(lo=a7/\l=0)\/ ∃k,lo=a6 (.int k l)) (d:(hi=a7/\h=(n:Int))\/ ∃k,hi=a6 (.int k h))
  (g:0<=l) (i:l<=h) (h2:h<=(n:Int)) (j:n<=cap):(Instr.sliceBounds isS n cap lo hi a7).run P w=.ok (l.toNat,h.toNat,cap) w:=by
 have e: ∀k code,(Instr.sliceBound (.int k h) cap code).run P w=.ok h.toNat w:=fun k code=>by
  simp only[Instr.sliceBound,asIntOf,Sem.run_bind,Sem.run_pure,Result.andThen_ok];rw[am ⟨by omega,by omega⟩];rfl
 have f: ∀k code,(Instr.sliceBound (.int k l) h.toNat code).run P w=.ok l.toNat w:=fun k code=>by
  simp only[Instr.sliceBound,asIntOf,Sem.run_bind,Sem.run_pure,Result.andThen_ok];rw[am ⟨by omega,by omega⟩];rfl
 rcases hl with ⟨rfl,rfl⟩|⟨k,rfl⟩<;>rcases d with ⟨rfl,rfl⟩|⟨m,rfl⟩<;>simp[Instr.sliceBounds,Sem.run_bind,e,f]
 simp_all
theorem O1 {w:World} {n cap:Nat} {lo:Option Value} {q k:IntKind} (hl:(lo=a7/\(0:Int)=0)\/ ∃k,lo=a6 (.int k 0)):
  (Instr.sliceBounds true n cap lo (a6 (.int q 0)) (a6 (.int k 0))).run P w=.ok (0,0,0) w:=by
 have d: ∀k c code,(Instr.sliceBound (.int k 0) c code).run P w=.ok 0 w:=fun k c code=>by
  rfl
 rcases hl with ⟨rfl,_⟩|⟨e,rfl⟩<;>simp[Instr.sliceBounds,Sem.run_bind,d]
theorem JM {n lo hi:Int} (h:gy n lo hi=true):0<=lo/\lo<=hi/\hi<=n:=by
 simp_all [gy]
theorem JZ {d:Type} (l:List d) {lo hi:Int} (e:0<=lo) (h2:lo<=hi) (f:hi<=(l.length:Int)):(sub l lo hi).length=hi.toNat-lo.toNat:=by
 grind [sub]
theorem qH {e:Ty} {xs:List e.den} {v:Value} (h:VD c (.list e) xs v): ∃a n d,v=.slice a xs.length n/\xs.length<=n/\gV (fV c.w c.free e) e.size xs d/\(d=[]\/ ∃b off,a=a6 ⟨b,off,a7⟩/\c.free b/\iP c.w b off d):=by
 obtain⟨a,n,d,f,g,i,j⟩:=h.2 rfl
 grind
theorem VD.sub_list {e:Ty} {xs:List e.den} {a:Option Addr} {n:Nat} {d:List Value} (h2:xs.length<=n) (g:gV (fV c.w c.free e) e.size xs d) (f:d=[]\/ ∃b off,a=a6 ⟨b,off,a7⟩/\c.free b/\iP c.w b off d)
  {l h:Int} (i:0<=l) (j:l<=h) (m:h<=(xs.length:Int)):
  VD c (.list e) (sub xs l h) (.slice (if n=l.toNat then a else a.map (·.add (l.toNat*e.size))) (h.toNat-l.toNat) (n-l.toNat)):=by
 refine(VD.leaf rfl).2 ⟨_,_,(d.take (h.toNat*e.size)).drop (l.toNat*e.size),by rw[JZ xs i j m],by grind [JZ],gV.drop _ _ _ (gV.take _ _ _ g), ?_⟩;by_cases hn:n=l.toNat
 .grind
 .rw[aq hn];rcases f with f|⟨b,off,p,q,u⟩
  .left;rw[f];simp
  .right;refine⟨b,off+l.toNat*e.size,by rw[p];simp[mD],q, ?_⟩;have:=u.sub (l.toNat*e.size) (h.toNat*e.size-l.toNat*e.size)
   grind [List.drop_take]
theorem akR (hT:TOk P T) (ae:c.Ok W0) {x:cO} {v:Value} {lo hi mx:Option cO} {ad V B:Option Value} {K:cO->Option R} (h:KN T c.hp t x lo hi mx K=a6 r) (hx:dh c x v)
  (N:oG c lo ad) (L:oG c hi V) (M:oG c mx B): ∃z u,K z=a6 r/\dh c z u/\ ∀w,(Instr.sliceAt t v ad V B).run P w=.ok u w:=by
 unfold KN at h;split at h
 .rename_i s
  split at h
  .rename_i l y f i
   replace h:=gY h;obtain⟨d,h⟩:=h;simp only[ah]at d;obtain⟨D,I,j⟩:=JM d.2;simp only[dh]at hx;obtain rfl:=hx.str_inv;have J:B=a7:=oG.none_inv M;subst J;have m:=H5 hT d.1;refine⟨_,.string ⟨(sub s l y).toArray⟩,h,by simp only[dh];exact VD.str_mk,fun w=> ?_⟩;have hs:(⟨s.toArray⟩:ByteArray).size=s.length:=by rfl
   have p:=sS (P:=P) (w:=w) (isS:=false) (cap:=s.length) (qQ f N) (qQ i L) D I j (af _);have he:(⟨s.toArray⟩:ByteArray).extract l.toNat y.toNat=⟨(sub s l y).toArray⟩:=by
    apply ByteArray.ext;simp_all [sub,List.drop_take]
   simp only[Instr.sliceAt,Instr.slice,Sem.run_bind,run_underlying m,Result.andThen_ok,Option.isSome_none,ai,if_false,hs,p,Sem.run_pure,he]
  .cases h
 .rename_i e A
  split at h
  .rename_i l y f i
   replace h:=gY h;obtain⟨d,h⟩:=h;simp only[ah]at d;obtain⟨D,I,j⟩:=JM d.2;simp only[bV]at j;simp only[dh]at hx;obtain⟨a,n,zs,rfl,W,h3,h4⟩:=qH hx;have J:B=a7:=oG.none_inv M;subst J;obtain⟨X,m,hk,S,_,_⟩:=oK hT d.1;refine⟨_,_,h,by simp only[dh];exact VD.sub_list W h3 h4 D I j,fun w=> ?_⟩;have p:=sS (P:=P) (w:=w) (isS:=true) (n:=A.length) (cap:=n) (qQ f N) (qQ i L) D I j W;simp only[Instr.sliceAt,Instr.slice,Sem.run_bind,run_underlying m,Result.andThen_ok,p,hT.sizeOf hk w,Sem.run_pure,S]
  .cases h
 .rename_i e A mv
  split at h
  .rename_i l y k f i ag
   replace h:=gY h;obtain⟨d,h⟩:=h;simp only[ah,beq_iff_eq]at d;obtain⟨d,rfl,rfl,rfl⟩:=d;simp only[dh]at hx;obtain⟨a,n,zs,rfl,W,h3,h4⟩:=qH hx;obtain⟨X,m,hk,S,_,_⟩:=oK hT d;obtain⟨U,rfl,aj⟩:=Option.bind_eq_some_iff.1 i;cases hmx':B with
   |none=>simp_all [oG]
   |some m2=>
    rw[hmx']at M;cases hhi':V with
    |none=>simp_all [oG]
    |some ak=>
     rw[hhi']at L;obtain⟨q,rfl⟩:=uQ aj (show dh c U ak from L);obtain⟨k',rfl⟩:=uQ ag (show dh c mv m2 from M);refine⟨_,.slice a 0 0,h,by simp only[dh];exact⟨a,rfl⟩,fun w=> ?_⟩;have p:=O1 (P:=P) (w:=w) (n:=A.length) (cap:=n) (q:=q) (k:=k') (qQ f N);simp only[Instr.sliceAt,Instr.slice,Sem.run_bind,run_underlying m,Result.andThen_ok,p,hT.sizeOf hk w,Sem.run_pure];simp
  .cases h
 .split at h
  .rename_i l y f i
   replace h:=gY h;obtain⟨d,h⟩:=h;simp only[ah,cZ,beq_iff_eq]at d;obtain⟨d,rfl,rfl⟩:=d;simp only[dh]at hx;subst hx;have J:B=a7:=oG.none_inv M;subst J;obtain⟨X,m,hk,S,_,_⟩:=oK hT d;refine⟨_,.slice a7 0 0,h,by simp only[dh],fun w=> ?_⟩;have p:=sS (P:=P) (w:=w) (isS:=true) (n:=0) (cap:=0) (qQ f N) (qQ i L) (Int.le_refl _) (Int.le_refl _) (Int.le_refl _) (af _);simp only[Instr.sliceAt,Instr.slice,Sem.run_bind,run_underlying m,Result.andThen_ok,p,hT.sizeOf hk w,Sem.run_pure];simp
  .cases h
 .rename_i id al
  split at h
  .rename_i e u A Y
   replace h:=dQ h;obtain⟨Z,h⟩:=h;have Z:u=al:=by simpa using Z
   subst Z;split at h
   .rename_i l y f i
    replace h:=gY h;obtain⟨d,h⟩:=h;simp only[ah]at d;obtain⟨D,I,j⟩:=JM d.2;simp only[bV]at j;simp only[dh]at hx;have ab:=(hx.2.2 _ _ _ Y).2 rfl;simp only[jU]at ab;have J:B=a7:=oG.none_inv M;subst J;obtain⟨X,m,hk,S,_,_⟩:=oK hT d.1;obtain⟨_,e',zs,an,hL,ao⟩:=ae.obj id _ Y;obtain⟨a,n,U,hn⟩: ∃a n,(c.mu id).v=.slice a A.length n/\A.length<=n:=by
     rcases an.2 with ⟨e1,e2⟩|⟨g,O,au,e1,_,_,e2,_⟩
     all_goals grind
    rw[U]at ab;subst ab;refine⟨_,.slice (if n=l.toNat then a else a.map (·.add (l.toNat*e.size))) (y.toNat-l.toNat) (n-l.toNat),h, ?_,fun w=> ?_⟩
    .simp only[dh];refine⟨rfl,hx.2.1,fun t' u' av h'=> ?_⟩;rw[Y]at h';cases h';exact⟨af _,fun _=>⟨a,A.length,n,U,D,I,j,rfl⟩⟩
    .have p:=sS (P:=P) (w:=w) (isS:=true) (n:=A.length) (cap:=n) (qQ f N) (qQ i L) D I j hn;simp only[Instr.sliceAt,Instr.slice,Sem.run_bind,run_underlying m,Result.andThen_ok,p,hT.sizeOf hk w,Sem.run_pure,S]
   .cases h
  .cases h
 .cases h
end
end
section
open Option renaming some → a6, none → a7
open Bool renaming and_eq_true → ah
open List renaming append_assoc → ag, map_cons → ay, length_cons → az, drop_of_length_le → aO, nil_append → aQ, mem_of_mem_take → bI
open Go.RowKit
section
variable {P:Program} {T:TT} {W0:World} {c:Cx} {R:Type} {r:R} {t:TypeId}
theorem Ui {d:Type} {l:List d} {i:Int} (h:iy l i=true):0<=i/\i<(l.length:Int)/\i.toNat<l.length:=by
 simp_all [iy]
theorem axk {e:Type} {l:List e} {d:e} {i:Int} (h:i.toNat<l.length):gW l d i=l[i.toNat]:=by grind [gW]
theorem EI (hT:TOk P T) {e:TypeId} (d:P.underlying t=a6 (.slice e)) (hk:(T.at e).known=true) (w:World) (a:Addr) (n cp:Nat) (k:IntKind) (i:Int) (f:0<=i) (g:i<(n:Int)):
  (Instr.indexAt t (.slice (a6 a) n cp) (.int k i)).run P w=.ok (.pointer (a6 (a.add (i.toNat*(T.at e).size)))) w:=by
 simp only[Instr.indexAt,asIntOf,Sem.run_bind,Sem.run_pure,Result.andThen_ok,run_underlying d];rw[am ⟨f,g⟩];simp[Sem.run_bind,hT.sizeOf hk w]
theorem Qo (hT:TOk P T) (X:c.Ok W0) {x i:cO} {v M:Value} {K:cO->Option R} (h:wK T c.hp t x i K=a6 r) (hx:dh c x v) (hi:dh c i M):
  ∃z u,K z=a6 r/\dh c z u/\ ∀w,(Instr.indexAt t v M).run P w=.ok u w:=by
 unfold wK at h;split at h
 .cases h
 rename_i n Y
 obtain⟨k,rfl⟩:=uQ Y hi;split at h
 .rename_i e N
  replace h:=gY h;obtain⟨f,h⟩:=h;simp only[ah]at f;obtain⟨y,A,B⟩:=Ui f.2;simp only[dh]at hx;obtain⟨a,cp,D,rfl,h2,Z,I⟩:=qH hx;obtain⟨O,l,hk,p,S,_⟩:=oK hT f.1;obtain⟨d,d1,d2,l1,l2,d3,d4⟩:=gV.at_ n.toNat N D B Z;have ab:D≠[]:=by
   intro e0;simp_all
  rcases I with I|⟨b,off,h5,h6,h7⟩
  .exact absurd I ab
  .refine⟨_,.pointer (a6 ⟨b,off+n.toNat*e.size,a7⟩),h, ?_,fun w=> ?_⟩
   .simp only[dh];refine⟨b,_,d,rfl,h6, ?_,by rw[axk B];exact d2⟩;simp_all [iP.append]
   .rw[h5,EI hT l hk w _ _ _ _ _ y A,p,mD]
 .rename_i id ad vw
  split at h
  .rename_i e u N U
   replace h:=dQ h;obtain⟨J,h⟩:=h;have J:u=ad:=by simpa using J
   subst J;simp only[dh]at hx;have j:=(hx.2.2 _ _ _ U).2 rfl;obtain⟨_,e',D,V,hL,aj⟩:=X.obj id _ U;split at h
   .replace h:=gY h;obtain⟨f,h⟩:=h;simp only[ah]at f;obtain⟨y,A,B⟩:=Ui f.2;obtain⟨O,l,hk,p,S,_⟩:=oK hT f.1;simp only[jU]at j;rcases V.2 with ⟨q,L⟩|⟨g,ae,af,q,_,_,L,_⟩
    .omega
    .rw[q]at j;subst j;refine⟨_,.pointer (a6 ⟨g,n.toNat*e.size,a7⟩),h, ?_,fun w=> ?_⟩
     .simp only[dh];refine⟨rfl,hx.2.1,fun t' u' ai h'=> ?_⟩;simp_all
     .rw[EI hT l hk w _ _ _ _ _ y A,p,mD,Nat.zero_add]
   .rename_i lo ak
    replace h:=gY h;obtain⟨f,h⟩:=h;simp only[ah,decide_eq_true_eq,iV]at f;obtain⟨O,l,hk,p,S,_⟩:=oK hT f.1;simp only[jU]at j;obtain⟨a,m,cp,W,q1,q2,q3,j⟩:=j;rcases V.2 with ⟨q,L⟩|⟨g,ae,af,q,_,_,L,_⟩
    .grind
    .rw[q]at W;cases W;rw[aq (by omega)]at j;subst j;refine⟨_,.pointer (a6 ⟨g,(lo+n).toNat*e.size,a7⟩),h, ?_,fun w=> ?_⟩
     .simp only[dh];refine⟨rfl,hx.2.1,fun t' u' ai h'=> ?_⟩;simp_all
     .simp only[Option.map_some];rw[EI hT l hk w _ _ _ _ _ f.2.1 (by omega),p,mD,mD,Nat.zero_add,<-Nat.add_mul]
      grind
  .cases h
 .cases h
theorem akQ (hT:TOk P T) {i:cO} {s:List UInt8} {n:Int} {v d:Value} (hx:dh c (.val .str s) v) (hi:dh c i d) (e:intOf i=a6 n) (h:(T.isStr t&&iy s n)=true):
  dh c (.val (.int .u8) (dm s n)) (.int .u8 (dm s n))/\ ∀w,(Instr.index t v d).run P w=.ok (.int .u8 (dm s n)) w:=by
 simp only[ah]at h;obtain⟨f,l,m⟩:=Ui h.2;simp only[dh]at hx;obtain rfl:=hx.str_inv;obtain⟨k,rfl⟩:=uQ e hi;have g:=H5 hT h.1;refine⟨by simp only[dh];exact VD.int_mk,fun w=> ?_⟩;have j:(⟨s.toArray⟩:ByteArray)[n.toNat]? =a6 s[n.toNat]:=by
  have:n.toNat<(⟨s.toArray⟩:ByteArray).size:=by assumption
  rw[getElem?_pos (⟨s.toArray⟩:ByteArray) n.toNat this];rfl
 simp only[Instr.index,asIntOf,Sem.run_bind,Sem.run_pure,Result.andThen_ok,run_underlying g,am f,j]
 grind [dm]
theorem D7 (hT:TOk P T) {f off:Nat} {d:TypeId} (h:T.fieldAt t f=a6 (off,d)): ∃e g i,(T.at t).k=.struct e/\e[f]? =a6 (off,d)/\(T.at t).known=true/\(T.at d).known=true/\0<(T.at d).size/\
  P.underlying t=a6 (.struct g)/\g[f]? =a6 i/\i.offset=off/\i.type=d:=by
 unfold TT.fieldAt at h;split at h
 .rename_i e j
  replace h:=dQ h;obtain⟨hk,h⟩:=h;split at h
  .rename_i o p q
   replace h:=dQ h;obtain⟨l,m⟩:=h;cases m;simp only[ah,QN,decide_eq_true_eq]at l;obtain⟨g,u,v⟩:=hT.struct hk j
   grind
  .cases h
 .cases h
theorem N7 (hT:TOk P T): ∀(j:List (Nat×TypeId)) (o:Nat) (y:Ty),lF T o j=a6 y-> ∀(f off:Nat) (e:TypeId),j[f]? =a6 (off,e)-> ∀(x:y.den) (cs:List Value),fV c.w c.free y x cs->
  ∃(a:Ty) (z:a.den) (g i p:List Value),Zn y x f=.val a z/\TR y x f=.cellp a z/\(T.at e).ty=a6 a/\a.size=(T.at e).size/\cs=g++i++p/\o+g.length=off/\fV c.w c.free a z i
 |[],_,_,_,f,_,_,h,_,_,_=>by simp at h
 |(V,W)::j,o,y,d,f,off,e,l,x,cs,hd=>by
  simp only[lF]at d;split at d
  .rename_i X
   split at d
   .rename_i a q
    split at d
    .rename_i u
     split at d
     .rename_i b v
      cases d;obtain⟨g,i,m,A,B⟩:=hd;cases f with
      |zero=>
       simp only[List.getElem?_cons_zero,Option.some.injEq,Prod.mk.injEq]at l;obtain⟨rfl,rfl⟩:=l;exact⟨a,x.1,[],g,i,rfl,rfl,q,u.1,by simpa using m,by simp;omega,A⟩
      |succ f=>
       simp only[List.getElem?_cons_succ]at l;obtain⟨D,z,I,J,K,L,M,N,O,S,Y,U⟩:=N7 hT j (o+a.size) b v f off e l x.2 i B;refine⟨D,z,g++I,J,K,L,M,N,O,by rw[m,S];simp, ?_,U⟩
       grind [fV.length]
     .cases d
    .cases d
   .cases d
  .cases d
theorem EH (hT:TOk P T) {f off:Nat} {e:TypeId} (h:T.fieldAt t f=a6 (off,e)) (w:World) (b o:Nat):
  (Instr.fieldAt t (.pointer (a6 ⟨b,o,a7⟩)) f).run P w=.ok (.pointer (a6 ⟨b,o+off,a7⟩)) w:=by
 obtain⟨q,u,g,v,x,hk,i,y,j,l,m,d⟩:=D7 hT h;have p:=hT.sizeOf (t:=g.type) (by rw[d];exact i) w;simp only[Instr.fieldAt,Sem.run_bind,run_underlying j,Result.andThen_ok,l,Instr.sureAddr,Sem.run_pure,fieldPlace,p,Sem.run_ite];rw[aq (by rw[d];omega)];simp[mD,m]
theorem YJ (hT:TOk P T) (hk:(T.at t).known=true) {e:List (Nat×TypeId)} (f:(T.at t).k=.struct e) {y:Ty} (g:(T.at t).ty=a6 y):lF T 0 e=a6 y:=by
 rcases(hT t hk).2.2.1 with d|d
 .simp_all
 .rw[g,f]at d;exact d.symm
theorem Qn (hT:TOk P T) {x:cO} {f:Nat} {v:Value} {K:cO->Option R} (h:wJ T c.hp t x f K=a6 r) (hx:dh c x v):
  ∃z u,K z=a6 r/\dh c z u/\ ∀w,(Instr.fieldAt t v f).run P w=.ok u w:=by
 unfold wJ at h;split at h
 .rename_i off q d
  obtain⟨A,S,U,B,D,hk,V,W,X,Y,Z,e2⟩:=D7 hT d;split at h
  .rename_i u y
   split at h
   .rename_i I J
    split at h
    .rename_i z j
     have e:=jo j;subst e;rw[iw]at j;cases j;simp only[dh]at hx;obtain⟨b,o,zs,rfl,hb,m,hd⟩:=hx;obtain⟨a,z,l1,l2,l3,g1,g2,g3,g4,g5,g6,g7⟩:=N7 hT A 0 u (YJ hT hk B J) f off q D _ _ hd;refine⟨_,.pointer (a6 ⟨b,o+off,a7⟩),h, ?_,fun w=>EH hT d w b o⟩;rw[g2];simp only[dh];rw[g5,ag]at m;have:=(iP.append.1 (iP.append.1 m).2).1
     grind
    .cases h
   .cases h
  .rename_i id o
   split at h
   .rename_i bt cs L
    simp only[dh]at hx;have p:=hx.2.2 _ _ L;subst p;refine⟨_,.pointer (a6 ⟨(c.mu id).blk,o+off,a7⟩),h, ?_,fun w=>EH hT d w _ o⟩;simp only[dh];exact⟨rfl,hx.2.1,fun _ _ _=>trivial⟩
   .cases h
  .rename_i id M i o
   split at h
   .rename_i e u xs N
    replace h:=dQ h;obtain⟨l,h⟩:=h;have l:u=M:=by simpa using l
    subst l;simp only[dh]at hx;obtain⟨g,n,cp,p,O⟩:=(hx.2.2 _ _ _ N).2 rfl;subst O;refine⟨_,.pointer (a6 ⟨g,i*e.size+o+off,a7⟩),h, ?_,fun w=>EH hT d w _ _⟩;simp only[dh];refine⟨rfl,hx.2.1,fun t' I ab h'=> ?_⟩
    grind
   .cases h
  .cases h
 .cases h
theorem akP (hT:TOk P T) {x:cO} {f:Nat} {v:Value} {K:cO->Option R} (h:KJ T t x f K=a6 r) (hx:dh c x v):
  ∃z u,K z=a6 r/\dh c z u/\ ∀w,(Instr.field t v f).run P w=.ok u w:=by
 unfold KJ at h;split at h
 .rename_i off d L
  obtain⟨M,Z,m,p,N,hk,g,ab,i,O,e1,S⟩:=D7 hT L;have U:(T.at t).isAgg=true:=by simp[TI.isAgg,p]
  split at h
  .rename_i u y
   split at h
   .rename_i u' q
    split at h
    .rename_i z j
     have e:=jo j;subst e;rw[iw]at j;cases j;simp only[dh]at hx;have A:=hT.ty_agg hk q;rw[U]at A;obtain⟨cs,rfl,hd⟩:=(VD.agg A).1 hx;obtain⟨a,z,l1,V,l3,g1,g2,g3,g4,g5,g6,W⟩:=N7 hT M 0 u (YJ hT hk p q) f off d N _ _ hd;refine⟨_,valOf (T.at d).isAgg V,h, ?_,fun w=> ?_⟩
     .grind [dh,afD]
     .have ad:=fV.length _ _ _ W;have B:off+(T.at d).size<=cs.size:=by
       have:=congrArg List.length g5;simp at this;omega
      have D:=MJ (P:=P) hT (t:=m.type) (by rw[S];exact g) w cs m.offset (by simp_all);simp only[Instr.field,Sem.run_bind,run_underlying i,Result.andThen_ok,O,asAgg,Sem.run_pure,D];simp_all
    .cases h
   .cases h
  .rename_i l
   split at h
   .rename_i ae X
    obtain⟨q1,rfl⟩:=DX X;simp only[dh]at hx;obtain⟨I,rfl,J,Y⟩:=hx;have B:=bW.length _ _ J;simp at B;refine⟨_,valOf (T.at d).isAgg ((I.toList.drop off).take (T.at d).size),h,Mc hT g (bW.take _ _ _ (bW.drop _ _ _ J)) (fun u i=>Y u (List.mem_of_mem_drop (bI i))),fun w=> ?_⟩;have D:=MJ (P:=P) hT g w I off (by omega);simp_all [Instr.field,run_underlying,asAgg]
   .cases h
  .cases h
 .cases h
theorem q_len (hT:TOk P T) (B:c.Ok W0) {x:cO} {v:Value} {K:cO->Option R} (h:adr T c.hp t x K=a6 r) (hx:dh c x v) {ty:TypeId}:
  ∃z u,K z=a6 r/\dh c z u/\ ∀w,(Builtin.len_ #[t] ty #[v]).run P w=.ok u w:=by
 unfold adr at h;split at h
 .rename_i s
  replace h:=gY h;obtain⟨f,h⟩:=h;simp only[dh]at hx;obtain rfl:=hx.str_inv;have d:=H5 hT f;refine⟨_,_,h,by simp only[dh];exact VD.int_mk,fun w=> ?_⟩;simp only[Builtin.len_,List.getElem?_toArray,List.getElem?_cons_zero,Sem.run_bind,run_underlying d,Result.andThen_ok,Sem.run_pure,goInt];congr 2
 .rename_i e j
  replace h:=gY h;obtain⟨f,h⟩:=h;simp only[dh]at hx;obtain⟨a,cp,D,rfl,O,S,U⟩:=qH hx;obtain⟨p,d,hk,q,y,_⟩:=oK hT f;exact⟨_,_,h,by simp only[dh];exact VD.int_mk,fun w=>by simp[Builtin.len_,run_underlying d,goInt,bV]⟩
 .replace h:=gY h;obtain⟨f,h⟩:=h;simp only[dh]at hx;subst hx;obtain⟨p,d,hk,q,y,_⟩:=oK hT f;exact⟨_,_,h,by simp only[dh];exact VD.int_mk,fun w=>by simp[Builtin.len_,run_underlying d,goInt]⟩
 .rename_i id I V
  split at h
  .rename_i e u j A
   replace h:=dQ h;obtain⟨l,h⟩:=h;have l:u=I:=by simpa using l
   subst l;replace h:=gY h;obtain⟨f,h⟩:=h;obtain⟨p,d,hk,q,y,_⟩:=oK hT f;simp only[dh]at hx;have i:=(hx.2.2 _ _ _ A).2 rfl;obtain⟨_,W,D,J,X,Y⟩:=B.obj id _ A;obtain⟨a,n,L,Z⟩: ∃a n,(c.mu id).v=.slice a j.length n/\j.length<=n:=by
    rcases J.2 with ⟨M,N⟩|⟨g,ab,ad,M,_,_,N,_⟩
    all_goals grind
   split at h
   .simp only[jU]at i;rw[L]at i;subst i;exact⟨_,_,h,by simp only[dh];exact VD.int_mk,fun w=>by simp[Builtin.len_,run_underlying d,goInt,bV]⟩
   .rename_i lo hi
    simp only[jU]at i;obtain⟨a',m,cp,ae,q1,q2,q3,i⟩:=i;subst i;refine⟨_,_,h,by simp only[dh];exact VD.int_mk,fun w=> ?_⟩;simp only[Builtin.len_,List.getElem?_toArray,List.getElem?_cons_zero,Sem.run_bind,run_underlying d,Result.andThen_ok,Sem.run_pure,goInt]
    grind
  .cases h
 .cases h
theorem wz {k:IntKind}: ∀(l:List cO) (e:List Int) (us:List Value),DT k l=a6 e->bW c l us->us=e.map (.int k)
 |[],e,us,h,d=>by
  grind [DT,bW]
 |v::l,e,us,h,d=>by
  cases us with
  |nil=>simp[bW]at d
  |cons u us=>
   simp only[bW]at d;cases v with
   |val t x=>
    cases t<;>simp only[DT,reduceCtorEq]at h
    rename_i i
    split at h
    .rename_i hk
     subst hk;split at h
     .rename_i m g
      cases h;have f:=d.1;simp only[dh]at f;rw[f.int_inv,wz l m us g d.2];rfl
     .cases h
    .cases h
   |_=>simp[DT]at h
theorem Vy (w:World) (k:IntKind): ∀(d:List Int) (a:Int),((d.map (Value.int k)).foldlM Builtin.min2 (.int k a)).run P w=.ok (.int k (d.foldl JJ a)) w
 |[],a=>rfl
 |n::d,a=>by
  simp only[ay,List.foldlM_cons,List.foldl_cons,Sem.run_bind,Builtin.min2,Sem.run_pure,Result.andThen_ok];exact Vy w k d (JJ a n)
theorem Vx (w:World) (k:IntKind): ∀(d:List Int) (a:Int),((d.map (Value.int k)).foldlM Builtin.max2 (.int k a)).run P w=.ok (.int k (d.foldl Eo a)) w
 |[],a=>rfl
 |n::d,a=>by
  simp only[ay,List.foldlM_cons,List.foldl_cons,Sem.run_bind,Builtin.max2,Sem.run_pure,Result.andThen_ok];exact Vx w k d (Eo a n)
theorem adL (off:Nat): ∀(us:List Value) (k:Nat) (d:List Value),off+k+us.length<=d.length->
  (us.zipIdx k).foldl (fun cs p=>Array.setIfInBounds cs (off+p.2) p.1) d.toArray=(d.take (off+k)++us++d.drop (off+k+us.length)).toArray
 |[],k,d,h=>by simp
 |u::us,k,d,h=>by
  simp only[az]at h;have e:=adL off us (k+1) (d.set (off+k) u) (by simp;omega);simp only[List.zipIdx_cons,List.foldl_cons];rw[show Array.setIfInBounds d.toArray (off+k) u=(d.set (off+k) u).toArray by simp,e];congr 1;have f:off+k<d.length:=by omega
  rw[List.set_eq_take_append_cons_drop,am f];have g: ∀(A B:List Value) (n m:Nat),A.length=n->(A++u::B).take (n+1)=A++[u]/\(A++u::B).drop (n+1+m)=B.drop m:=by
   intro A B n m i;constructor
   .grind
   .rw[List.drop_append,aO (by omega),i,aQ,show n+1+m-n=m+1 by omega];rfl
  obtain⟨j,l⟩:=g (d.take (off+k)) (d.drop (off+k+1)) (off+k) us.length (by simp;omega);rw[show off+(k+1)=off+k+1 by omega,j,l];simp;congr 1;omega
theorem Lm (off:Nat) (us:Array Value) (d:List Value) (h:off+us.size<=d.length):
  us.zipIdx.foldl (fun cs p=>Array.setIfInBounds cs (off+p.2) p.1) d.toArray=(d.take off++us.toList++d.drop (off+us.size)).toArray:=by
 rw[<-Array.foldl_toList,Array.toList_zipIdx];simp_all [adL]
theorem adt (hT:TOk P T) {z:List (Nat×TypeId)} {place:Nat->Option (Nat×Nat)} (hp: ∀i off q,z[i]? =a6 (off,q)->(T.at q).known=true->place i=a6 (off,(T.at q).size)):
  ∀(j:List (Nat×cO)) (us:List (Nat×Value)) (cs l:List cO) (d:List Value),KI T z cs j=a6 l->bW c cs d->(∀u∈d,u.oneCell'=true)->
   us.map (·.1)=j.map (·.1)->bW c (j.map (·.2)) (us.map (·.2))-> ∃m,Instr.fill place d.toArray us=a6 m.toArray/\bW c l m/\ ∀u∈m,u.oneCell'=true
 |[],us,cs,l,d,h,p,A,e,_=>by
  simp only[KI,Option.some.injEq]at h;subst h;cases us with
  |nil=>exact⟨d,rfl,p,A⟩
  |cons=>simp at e
 |(i,v)::j,us,cs,l,d,h,p,A,e,y=>by
  cases us with
  |nil=>simp at e
  |cons u us=>
   obtain⟨O,u⟩:=u;simp only[ay,List.cons.injEq]at e;obtain⟨rfl,e⟩:=e;simp only[ay,bW]at y;simp only[KI]at h;split at h
   .rename_i off q f I J
    replace h:=dQ h;obtain⟨hk,h⟩:=h;simp only[ah,beq_iff_eq]at hk;split at h
    .rename_i S g
     have K:=hp _ _ _ I hk.1;obtain⟨B,U⟩:=NK J y.1;have L:=bW.length _ _ B;have V:=bW.length _ _ p;unfold putCells at g;replace g:=dQ g;obtain⟨D,g⟩:=g;have D:off+f.length<=cs.length:=by simpa using D
     cases g;have W:u.cells.size=f.length:=by simpa using L.symm
     have M:bW c (cs.take off++f++cs.drop (off+f.length)) (d.take off++u.cells.toList++d.drop (off+f.length)):=
      bW.append _ _ _ _ (bW.append _ _ _ _ (bW.take _ _ _ p) B) (bW.drop _ _ _ p)
     have N: ∀x∈d.take off++u.cells.toList++d.drop (off+f.length),x.oneCell'=true:=by
      grind
     obtain⟨m,g1,g2,g3⟩:=adt hT hp j us _ l _ h M N e y.2;refine⟨m, ?_,g2,g3⟩;rw[<-g1];simp only[Instr.fill,K];rw[aq (by grind)]
     grind [Lm]
    .cases h
   .cases h
end
end
section
open Option renaming some → a6, none → a7
open Bool renaming and_eq_true → ah, false_eq_true → ai, not_true → au
open List renaming map_cons → ay, nil_append → aQ, map_nil → aV
open Go.RowKit
section
variable {P:Program} {T:TT} {W0:World} {c:Cx} {R:Type} {r:R} {t:TypeId}
theorem bW.map_eval {fr:List cO} {a:Act} (h:bW c fr a.tmps.toList): ∀(xs:List Operand),bW c (xs.map (iM fr)) (xs.map a.eval)
 |[]=>by simp[bW]
 |x::xs=>by simp only[ay,bW];exact⟨eu h x,bW.map_eval h xs⟩
theorem OY {w:World} {B:Nat} {e:TypeId} {size n:Nat} {v:Value} {d:List Value} (h:w.ownsRow B e size v n d): ∃a cp,v=.slice a n cp/\n<=cp/\(d=[]\/ ∃g,a=a6 ⟨g,0,a7⟩/\g<w.heap.size/\B<=g/\iP w g 0 d):=by
 rcases h.2 with ⟨f,i⟩|⟨g,l,p,f,i,j,m,q,u,x⟩
 .refine⟨a7,0,by rw[f,i],by omega,.inl ?_⟩;have:=h.1;simp_all
 .refine⟨_,l,f,m,.inr ⟨g,rfl,(Array.getElem?_eq_some_iff.1 j).1,i, ?_⟩⟩;have:=(iP.of_block_cells j).sub 0 (n*size);simp_all
theorem uC {w:World} {B:Nat} {e:TypeId} {size n:Nat} {v:Value} {d:List Value} (h:w.ownsRow B e size v n d): ∃a cp,v=.slice a n cp/\n<=cp/\(d=[]\/ ∃g,a=a6 ⟨g,0,a7⟩/\g<w.heap.size/\iP w g 0 d):=by
 grind [OY]
theorem VH (B:c.Ok W0) {x:cO} {e:Ty} {D:List e.den} {u:Value} (h:x.as c.hp (.list e)=a6 D) (hx:dh c x u):
  ∃a cp d,u=.slice a D.length cp/\gV (fV c.w c.free e) e.size D d/\(d=[]\/ ∃b off,a=a6 ⟨b,off,a7⟩/\b<c.w.heap.size/\ ¬c.bar b/\iP c.w b off d):=by
 cases x with
 |val N z=>
  simp only[cO.as]at h;have e:=jo h;subst e;rw[iw]at h;cases h;simp only[dh]at hx;obtain⟨a,n,d,I,V,J,K⟩:=qH hx;exact⟨a,n,d,I,J,K.imp id fun⟨b,off,f,i,q⟩=>⟨b,off,f,i.1,i.2.2.2,q⟩⟩
 |nils=>
  simp only[cO.as,Option.some.injEq]at h;subst h;simp only[dh]at hx;exact⟨a7,0,[],hx,rfl,.inl rfl⟩
 |lst N z b=>
  simp only[cO.as]at h;have e:=jo h;cases e;rw[iw]at h;cases h;simp only[dh]at hx;obtain⟨a,n,d,I,V,J,K⟩:=qH hx.1;exact⟨a,n,d,I,J,K.imp id fun⟨b,off,f,i,q⟩=>⟨b,off,f,i.1,i.2.2.2,q⟩⟩
 |emp=>
  simp only[cO.as,Option.some.injEq]at h;subst h;simp only[dh]at hx;obtain⟨a,rfl⟩:=hx;exact⟨a,0,[],rfl,rfl,.inl rfl⟩
 |slc id ver W=>
  simp only[cO.as,DY]at h;split at h
  .rename_i N v xs A
   replace h:=dQ h;obtain⟨j,h⟩:=h;have j:v=ver:=by simpa using j
   subst j;split at h
   .rename_i ab L
    have e:=jo L;cases e;rw[iw]at L;cases L;cases h;simp only[dh]at hx;have y:=(hx.2.2 _ _ _ A).2 rfl;obtain⟨_,e',d,X,O,ad⟩:=B.obj id _ A;obtain⟨a,cp,j,hn,S⟩:=OY X;cases W with
    |none=>
     simp only[jU]at y;rw[j]at y;exact⟨a,cp,d,y,O,S.imp (fun h=>h) fun⟨g,f,i,Y,q⟩=>⟨g,0,f,i,fun M=>(B.bar _ M).2.1 ⟨id,_,A,by rw[dZ.blk,j,f];rfl⟩,q⟩⟩
    |some p=>
     obtain⟨lo,Z⟩:=p;simp only[jU]at y;obtain⟨a',m,ae,U,p1,p2,p3,y⟩:=y;rw[j]at U;cases U;refine⟨(if cp=lo.toNat then a else a.map (·.add (lo.toNat*e.size))),cp-lo.toNat,(d.take (Z.toNat*e.size)).drop (lo.toNat*e.size), ?_,gV.drop _ _ _ (gV.take _ _ _ O), ?_⟩
     .simp_all [acR,JZ]
     .by_cases hcp:cp=lo.toNat
      .grind
      .rw[aq hcp];rcases S with h0|⟨g,f,i,Y,q⟩
       .left;rw[h0];simp
       .right;refine⟨g,0+lo.toNat*e.size,by rw[f];simp[mD],i,fun M=>(B.bar _ M).2.1 ⟨id,_,A,by rw[dZ.blk,j,f];rfl⟩, ?_⟩;rw[List.drop_take];exact q.sub _ _
   .cases h
  .cases h
 |agg l=>simp[cO.as,Ty.isAgg]at h
 |_=>simp[cO.as]at h
theorem acd (g:c.Ok W0) {x:cO} {e:Ty} {d:List e.den} {u:Value} (h:x.as c.hp (.list e)=a6 d) (hx:dh c x u):
  ∃a cp f,u=.slice a d.length cp/\gV (fV c.w c.free e) e.size d f/\(f=[]\/ ∃b off,a=a6 ⟨b,off,a7⟩/\b<c.w.heap.size/\iP c.w b off f):=by
 grind [VH]
theorem Eb {k:IntKind} {w:World} {fr:Nat->Prop}: ∀(xs:List Int) (e:List Value),gV (fV w fr (.int k)) 1 xs e->e=xs.map (.int k)
 |[],_,h=>by cases h;rfl
 |x::xs,_,⟨d,g,i,l,f,j⟩=>by
  simp only[fV]at f;subst i;subst f;rw[Eb xs g j];rfl
theorem Oc: ∀(e:List Int) (d:List UInt8),e.foldl (fun r n=>r.push (UInt8.ofNat n.toNat)) (⟨d.toArray⟩:ByteArray)=⟨(d++ofBytes e).toArray⟩
 |[],d=>by simp[ofBytes]
 |n::e,d=>by
  rw[List.foldl_cons];have:(⟨d.toArray⟩:ByteArray).push (UInt8.ofNat n.toNat)=⟨(d++[UInt8.ofNat n.toNat]).toArray⟩:=by
   simp[ByteArray.push]
  rw[this,Oc e];simp[ofBytes]
theorem anN (hT:TOk P T) (A:c.Ok W0) {s d:TypeId} {x:cO} {v:Value} {K:cO->Option R} (h:CQ T s d x c.hp K=a6 r) (hx:dh c x v):
  ∃z u,K z=a6 r/\dh c z u/\ ∀w',IP c w'->(convert s d v).run P w'=.ok u w':=by
 unfold CQ at h;cases hk:((T.at s).known&&(T.at d).known)
 .simp_all
 rw[hk]at h;simp only[au,ac]at h;simp only[ah]at hk;split at h
 .rename_i k1 k2 k3 n i l
  simp only[dh]at hx;obtain rfl:=hx.int_inv;have m:=hT.int hk.1 i;have p:=hT.int hk.2 l;exact⟨_,_,h,by simp only[dh];exact VD.int_mk,fun w' _=>by simp_all [convert,run_underlying,Conv.intToInt]⟩
 .rename_i str i l
  simp only[dh]at hx;obtain rfl:=hx.str_inv;have m:=hT.str hk.1 i;have p:=hT.str hk.2 l;exact⟨_,_,h,by simp only[dh];exact VD.str_mk,fun w' _=>by simp_all [convert,run_underlying]⟩
 .rename_i e i l
  split at h
  .rename_i B
   split at h
   .rename_i f D
    replace h:=gY h;obtain⟨I,h⟩:=h;have J:=I;have m:=hT.slice hk.1 i;have p:=hT.str hk.2 l;have q:=hT.int J B;obtain⟨a,cp,g,rfl,L,M⟩:=acd A D hx;refine⟨_,.string ⟨(ofBytes f).toArray⟩,h,by simp only[dh];exact VD.str_mk,fun w' N=> ?_⟩;have y:=Eb f g L;cases hxe:f with
    |nil=>
     subst hxe;rcases a with _|O
     .simp only[convert,run_underlying m,run_underlying p,run_underlying q,Sem.run_bind,Result.andThen_ok,Conv.bytesToString,Sem.run_pure];rfl
     .rw[run_convert_bytes_string w' s d e _ _ _ m q p,run_bytesToString (P:=P) w' O _ cp [] (by rfl)];rfl
    |cons x0 ab=>
     have S:g≠[]:=by rw[y,hxe];simp
     obtain⟨b,off,rfl,U,V⟩:=M.resolve_left S;have W:=N.cells U V;have ae:(loadCells ⟨b,off,a7⟩ g.length).run P w'=.ok g.toArray w':=run_loadCells_list (P:=P) w' _ g fun j v X=>by
      obtain⟨Y,Z⟩:=List.getElem?_eq_some_iff.1 X;rw[mD,W j Y,Z]
     have af:g.length=f.length:=by rw[y];simp
     rw[<-hxe,run_convert_bytes_string w' s d e _ _ _ m q p,run_bytesToString (P:=P) w' ⟨b,off,a7⟩ f.length cp f (by simp_all)];have:=Oc f [];simp only[aQ]at this;rw[<-this];rfl
   .cases h
  .cases h
 .cases h
theorem Je {d e:Type} (f:d->Sem e) (g:d->e) (w:World): ∀(l:List d),(∀x∈l,(f x).run P w=.ok (g x) w)->(l.mapM f).run P w=.ok (l.map g) w
 |[],_=>rfl
 |x::l,h=>by
  simp only[List.mapM_cons,Sem.run_bind,h x (by simp),Result.andThen_ok,Je f g w l (fun y i=>h y (by simp[i])),Sem.run_pure,ay]
theorem ab3 {d e:Type} (f:d->Sem e) (g:d->e) (w:World) (l:Array d) (h: ∀x∈l.toList,(f x).run P w=.ok (g x) w):(l.mapM f).run P w=.ok (l.map g) w:=by
 rw[Array.mapM_eq_mapM_toList,Sem.run_map,Je f g w l.toList h];simp only[Result.andThen_ok];congr 1
 grind
def Y3 (P:Program) (t:TypeId):Nat:=((P.info? t).map (·.size)).getD 0
theorem Dn (hT:TOk P T) (U:c.Ok W0) {cl:Bool} {call:gZ R} {o:Oper} {st:St} {a:Act} {K:cO->St->Option R} (V:je o.op=true) (I:c.hp=st.hp) (j:bW c st.fr a.tmps.toList)
  (h:fH T cl call o st K=a6 r): ∃z u,K z st=a6 r/\dh c z u/\ ∀w',IP c w'->(execOp a.eval o).run P w'=.ok (.value u) w':=by
 have D: ∀{s:Sem Value} {u:Value} {w':World},s.run P w'=.ok u w'->(do pure (Next.value (<-s)):Sem Next).run P w'=.ok (.value u) w':=fun hs=>by
  simp_all
 obtain⟨aI,op,ty,aJ,aK,aO⟩:=o;simp only at V;cases op<;>simp only[je,lJ,ai]at V
 case move x=>exact⟨_,_,h,eu j x,fun w' _=>rfl⟩
 case assign x=>exact⟨_,_,h,eu j x,fun w' _=>rfl⟩
 case pick x y z=>
  simp only[fH]at h;have hc:=eu j x;split at h
  .rename_i b M
   rw[M]at hc;simp only[dh]at hc;have aj:=hc.bool_inv;cases b
   .exact⟨_,_,h,eu j z,fun w' _=>by simp[execOp,aj,asBool]⟩
   .exact⟨_,_,h,eu j y,fun w' _=>by simp[execOp,aj,asBool]⟩
  .cases h
 case build t parts=>
  simp only[fH]at h;cases hk:(T.at t).known
  .simp_all
  rw[hk]at h;simp only[au,ac]at h;split at h
  .rename_i fs ao
   split at h
   .rename_i cs Z
    obtain⟨ab,hu,av⟩:=hT.struct hk ao;obtain⟨i,z,hi,aP,aS,hz,aU,ad⟩:=hT.info hk;have aw:bW c (T.at t).zero z.cells.toList:=by grind [wG]
    have ad: ∀u∈z.cells.toList,u.oneCell'=true:=fun u hu=>List.all_eq_true.1 ad u hu;obtain⟨ax,g1,g2,g3⟩:=adt (c:=c) hT (place:=fun k=>(ab.map fun f=>(f.offset,Y3 P f.type))[k]?) (fun k off ft ae az=>by
      rw[<-av,List.getElem?_map]at ae;cases hfl:ab.toList[k]? with
      |none=>simp_all
      |some fl=>
       rw[hfl]at ae;simp only[Option.map_some,Option.some.injEq,Prod.mk.injEq]at ae;have:ab[k]? =a6 fl:=by simpa using hfl
       obtain⟨i',z',aW,aX,_⟩:=hT.info az;simp_all [Y3]) _ (parts.toList.map fun p=>(p.1,a.eval p.2)) _ _ _ Z aw ad (by simp) (by
      simp only[List.map_map,Function.comp_def];have:=bW.map_eval (c:=c) j (parts.toList.map (·.2));simp_all [Function.comp_def])
    have af:=(hT t hk).2.2.2.2.2.2.1;rw[hu]at af;simp only[Option.map_some,Option.some.injEq]at af;refine⟨_,.agg ax.toArray,h, ?_,fun w' _=>D ?_⟩
    .have:=Mc (c:=c) hT hk g2 g3;simp_all [TI.isAgg,valOf]
    .have hm:=ab3 (P:=P) (fun f:Field=>do pure (f.offset,<-sizeOf f.type)) (fun f=>(f.offset,Y3 P f.type)) w' ab (fun f hf=>by
      have:=List.all_eq_true.1 af f hf;cases hi2:P.info? f.type with
      |none=>simp_all
      |some i2=>simp[sizeOf,typeInfo,hi2,Y3])
     have aA:(zeroValue t).run P w'=.ok z w':=by simp[zeroValue,typeInfo,hi,hz]
     simp only[Instr.build,Sem.run_bind,aA,Result.andThen_ok,run_underlying hu,hm];simp_all
   .cases h
  .cases h
 case load t x=>
  simp only[fH]at h;rw[<-I]at h;obtain⟨z,u,m,q,A⟩:=atP (K:=fun v=>K v st) hT U h (eu j x);exact⟨z,u,m,q,fun w' B=>D (A w' B)⟩
 case nilCheck x=>
  simp only[fH]at h;have d:=eu j x;split at h
  .rename_i id off O
   rw[O]at d;split at h
   .rename_i bt cs Z
    have W:=d;simp only[dh]at d;rw[<-I]at Z;have J:=d.2.2 _ _ Z;exact⟨_,_,h,W,fun w' _=>by simp[execOp,J]⟩
   .cases h
  .rename_i y e O
   rw[O]at d;have W:=d;simp only[dh]at d;obtain⟨b,o,zs,J,_⟩:=d;exact⟨_,_,h,W,fun w' _=>by simp[execOp,J]⟩
  .rename_i id aB i off O
   rw[O]at d;split at h
   .rename_i e u xs ak
    replace h:=dQ h;obtain⟨L,h⟩:=h;have L:u=aB:=by simpa using L
    subst L;have W:=d;simp only[dh]at d;rw[<-I]at ak;obtain⟨g,n,cp,_,J⟩:=(d.2.2 _ _ _ ak).2 rfl;exact⟨_,_,h,W,fun w' _=>by simp[execOp,J]⟩
   .cases h
  .cases h
 case binOp op t x y yt=>
  simp only[fH]at h;rw[<-I]at h;obtain⟨z,u,m,q,A⟩:=atO (P:=P) (ox:=x) (oy:=y) (K:=fun v=>K v st) hT U h (eu j x) (eu j y);exact⟨z,u,m,q,fun w' B=>D (A w')⟩
 case unOp op t x=>
  simp only[fH]at h;obtain⟨z,u,m,q,A⟩:=aG0 (P:=P) (K:=fun v=>K v st) h (eu j x);exact⟨z,u,m,q,fun w' B=>D (A w')⟩
 case convert sT dT x=>
  simp only[fH]at h;rw[<-I]at h;obtain⟨z,u,m,q,A⟩:=anN (P:=P) (K:=fun v=>K v st) hT U h (eu j x);exact⟨z,u,m,q,fun w' B=>D (A w' B)⟩
 case slice t x lo hi mx=>
  simp only[fH]at h;rw[<-I]at h;obtain⟨z,u,m,q,A⟩:=akR (P:=P) (K:=fun v=>K v st) hT U h (eu j x) (oG.map j lo) (oG.map j hi) (oG.map j mx);exact⟨z,u,m,q,fun w' B=>D (A w')⟩
 case fieldAddr t x f=>
  simp only[fH]at h;rw[<-I]at h;obtain⟨z,u,m,q,A⟩:=Qn (P:=P) (K:=fun v=>K v st) hT h (eu j x);exact⟨z,u,m,q,fun w' B=>D (A w')⟩
 case field t x f=>
  simp only[fH]at h;obtain⟨z,u,m,q,A⟩:=akP (P:=P) (K:=fun v=>K v st) hT h (eu j x);exact⟨z,u,m,q,fun w' B=>D (A w')⟩
 case indexAddr t x i=>
  simp only[fH]at h;rw[<-I]at h;obtain⟨z,u,m,q,A⟩:=Qo (P:=P) (K:=fun v=>K v st) hT U h (eu j x) (eu j i);exact⟨z,u,m,q,fun w' B=>D (A w')⟩
 case index t x i=>
  simp only[fH]at h;split at h
  .rename_i s n hs hn
   replace h:=gY h;obtain⟨m,h⟩:=h;have d:=eu j x;rw[hs]at d;obtain⟨q,A⟩:=akQ (P:=P) hT d (eu j i) hn m;exact⟨_,_,h,q,fun w' B=>D (A w')⟩
  .cases h
 case extract x n=>
  simp only[fH]at h;have d:=eu j x;split at h
  .rename_i l hl
   rw[hl]at d;split at h
   .rename_i v J
    simp only[dh]at d;obtain⟨vs,O,an⟩:=d;obtain⟨hn,J⟩:=List.getElem?_eq_some_iff.1 J;have aF:=bW.length _ _ an;simp at aF;have m:=bW.get _ _ an n hn (by simp;omega);rw[J]at m;simp only[Array.getElem_toList]at m;refine⟨_,_,h,m,fun w' _=>D ?_⟩;rw[O];have:vs[n]? =a6 vs[n]:=Array.getElem?_eq_getElem (by omega);simp[Instr.extract,this]
   .cases h
  .cases h
 case call cc=>
  obtain⟨aY,X,aG⟩:=cc;simp only at V;have N:=bW.map_eval (c:=c) j X.toList;split at V
  all_goals try (cases V;done)
  .
   simp only[fH,mF]at h;split at h<;>try (cases h;done)
   .rename_i x M d
    split at h<;>try (cases h;done)
    rename_i t ht
    rw[<-I]at h;obtain⟨S,aH⟩: ∃S,X= #[S]:=by
     obtain⟨l⟩:=X
     match l,d with
     |[S],_=>exact⟨S,rfl⟩
    subst aH;obtain⟨t0⟩:=aG;simp only at ht;subst ht;simp only[ay,aV,List.cons.injEq,and_true]at d;subst d;obtain⟨z,u,m,q,A⟩:=q_len (P:=P) (K:=fun v=>K v st) hT U h (eu j S) (ty:=ty)
    grind [execOp,resolve,invoke,builtin]
   all_goals simp_all
  .
   simp only[fH,mF]at h;split at h<;>try (cases h;done)
   all_goals try (rename_i M _;cases M;done)
   rename_i k n l M d
   split at h<;>try (cases h;done)
   rename_i ns ag
   rw[d]at N;obtain⟨Y⟩:=X;cases Y with
   |nil=>simp_all
   |cons S Y=>
    simp only[ay,bW]at N;have L:=N.1;simp only[dh]at L;have m:=L.int_inv;have q:=wz _ _ _ ag N.2;exact⟨_,_,h,by simp only[dh];exact VD.int_mk,fun w' B=>by simp_all [execOp,resolve,invoke,builtin,Builtin.min_,Vy]⟩
  .
   simp only[fH,mF]at h;split at h<;>try (cases h;done)
   all_goals try (rename_i M _;cases M;done)
   rename_i k n l M d
   split at h<;>try (cases h;done)
   rename_i ns ag
   rw[d]at N;obtain⟨Y⟩:=X;cases Y with
   |nil=>simp_all
   |cons S Y=>
    simp only[ay,bW]at N;have L:=N.1;simp only[dh]at L;have m:=L.int_inv;have q:=wz _ _ _ ag N.2;exact⟨_,_,h,by simp only[dh];exact VD.int_mk,fun w' B=>by simp_all [execOp,resolve,invoke,builtin,Builtin.max_,Vx]⟩
end
end
section
open Option renaming some → a6, none → a7
open List renaming map_cons → ay, map_nil → aV
open Nat renaming le_refl → af, le_trans → aK
open Go.RowKit
structure E9 (W0:World) (c:Cx) (st:St) (c':Cx) (st':St):Prop where
 hp:c'.hp=st'.hp
 nxt:c'.nxt=st'.nxt
 fr:st'.fr=st.fr
 stk:st'.stk=st.stk
 ok:c'.Ok W0
 le:c.Le c'
section
variable {P:Program} {T:TT} {W0:World} {c:Cx} {R:Type} {r:R} {t:TypeId}
theorem E9.refl (d:c.Ok W0) {st:St} (e:c.hp=st.hp) (h2:c.nxt=st.nxt):E9 W0 c st c st:=⟨e,h2,rfl,rfl,d,Cx.Le.refl c⟩
theorem E9.trans {c' d:Cx} {st e f:St} (h:E9 W0 c st c' e) (k:E9 W0 c' e d f):E9 W0 c st d f:=
 ⟨k.hp,k.nxt,k.fr.trans h.fr,k.stk.trans h.stk,k.ok,h.le.trans k.le⟩
theorem PE {cl:Bool} {dst:Option Nat} {o:dZ} {st:St} {K:Nat->St->Option R} (h:alloc cl dst o st K=a6 r):
  ∃n',ed st.hp (F7 cl st dst)=a7/\st.nxt<=F7 cl st dst/\st.nxt<=n'/\K (F7 cl st dst) {st with hp:=(F7 cl st dst,o)::st.hp,nxt:=n'}=a6 r:=by
 unfold alloc at h;split at h
 .cases h
 .rename_i e
  replace h:=dQ h;obtain⟨d,h⟩:=h;have d:st.nxt<=F7 cl st dst:=by simpa using d
  grind
theorem jY {cl:Bool} {dst:Option Nat} {o:dZ} {st:St} {K:Nat->St->Option R} (h:alloc cl dst o st K=a6 r):
  ∃id n',ed st.hp id=a7/\st.nxt<=id/\st.nxt<=n'/\K id {st with hp:=(id,o)::st.hp,nxt:=n'}=a6 r:=
 let⟨n',d,e,f,g⟩:=PE h
 ⟨_,n',d,e,f,g⟩
theorem Dk {st:St} {id:Nat} (d:c.hp=st.hp) (h2:c.nxt=st.nxt) (e:ed st.hp id=a7) (f:st.nxt<=id): ¬c.known id:=by
 rintro (⟨o,g⟩|h)
 all_goals grind
theorem qw (w:World) (o:Obj):Below w.heap.size w (w.alloc o):=(Below.refl _ _).alloc (af _) o
theorem L9 (f:c.Ok W0) {st:St} (g:c.hp=st.hp) (h2:c.nxt=st.nxt) {id n':Nat} (p:ed st.hp id=a7) (q:st.nxt<=id) (z:st.nxt<=n') {cs:List cO} {vs:Array Value} (e:TypeId)
  (v: ∀c',c.Le c'->ed c'.hp id=a6 (.box e cs)->c'.known id->(c'.mu id).blk=c.w.heap.size->bW c' cs vs.toList) (x: ∀u∈vs.toList,u.oneCell'=true):
  ∃c',E9 W0 c st c' {st with hp:=(id,.box e cs)::st.hp,nxt:=n'}/\c'.w=c.w.alloc (.cells vs e)/\dh c' (.ptr id 0) (.pointer (a6 ⟨c.w.heap.size,0,a7⟩)):=by
 have hk:=Dk g h2 p q;have d:=qw c.w (.cells vs e);have i: ∀b,dZ.blk (.box e cs) ⟨c.w.heap.size,undef⟩=a6 b->c.w.heap.size<=b:=fun b d=>by
  simp_all [dZ.blk]
 have j:=Cx.Le.push (o:=.box e cs) (l:=⟨c.w.heap.size,undef⟩) (nxt:=n') (w:=c.w.alloc (.cells vs e)) hk (by omega) d.size d.block i;have m:ed (c.push id (.box e cs) ⟨c.w.heap.size,undef⟩ n' (c.w.alloc (.cells vs e))).hp id=a6 (.box e cs):=by simp[Cx.push,fF]
 have y:(c.push id (.box e cs) ⟨c.w.heap.size,undef⟩ n' (c.w.alloc (.cells vs e))).ORel W0.heap.size id (.box e cs):=by
  refine⟨by simp[Cx.push,upd_same];exact f.size,vs, ?_,v _ j m (.inl ⟨_,m⟩) (by simp[Cx.push,upd_same]),x⟩;simp only[Cx.push,upd_same];exact heap_alloc_new c.w _
 refine⟨_,⟨?_,rfl,rfl,rfl,f.push hk (by omega) d i y,j⟩,rfl, ?_⟩
 .simp[Cx.push,g]
 .simp only[dh];refine⟨rfl,.inl ⟨.box e cs,by assumption⟩,fun A B _=>by simp[Cx.push,upd_same]⟩
theorem Z7 (d:c.Ok W0) {st:St} (f:c.hp=st.hp) (h2:c.nxt=st.nxt) {id n':Nat} (g:ed st.hp id=a7) (i:st.nxt<=id) (j:st.nxt<=n') {cs:List cO} {vs:Array Value} (l:bW c cs vs.toList)
  (m: ∀u∈vs.toList,u.oneCell'=true) (e:TypeId):
  ∃c',E9 W0 c st c' {st with hp:=(id,.box e cs)::st.hp,nxt:=n'}/\c'.w=c.w.alloc (.cells vs e)/\dh c' (.ptr id 0) (.pointer (a6 ⟨c.w.heap.size,0,a7⟩)):=
 L9 d f h2 g i j e (fun c' p _ _ _=>bW.le p _ _ l) m
theorem uu (j:c.Ok W0) {st:St} (m:c.hp=st.hp) (h2:c.nxt=st.nxt) {id n':Nat} (x:ed st.hp id=a7) (z:st.nxt<=id) (U:st.nxt<=n') {y:Ty} (A:0<y.size) {xs:List y.den} {v:Value} {w:World}
  (f:Below c.w.heap.size c.w w) (e:TypeId) (d:List Value) (i:w.ownsRow c.w.heap.size e y.size v xs.length d) (B:gV (fV c.w c.free y) y.size xs d) (D:v.oneCell'=true) (I:y=.int .u8->e=rH):
  ∃c',E9 W0 c st c' {st with hp:=(id,.arr y 0 xs)::st.hp,nxt:=n'}/\c'.w=w/\dh c' (.slc id 0 a7) v:=by
 have hk:=Dk m h2 x z;have p: ∀b,dZ.blk (.arr y 0 xs) ⟨0,v⟩=a6 b->c.w.heap.size<=b:=fun b J=>(World.ownsRow.lt i b J).1;have q:=Cx.Le.push (o:=.arr y 0 xs) (l:=⟨0,v⟩) (nxt:=n') (w:=w) hk (by omega) f.size f.block p;have V:w.ownsRow W0.heap.size e y.size v xs.length d:=by
  refine⟨i.1, ?_⟩;rcases i.2 with h|⟨g,K,L,M,N,O⟩
  .exact .inl h
  .exact .inr ⟨g,K,L,M,aK j.size N,O⟩
 have S:(c.push id (.arr y 0 xs) ⟨0,v⟩ n' w).ORel W0.heap.size id (.arr y 0 xs):=by
  refine⟨A,e,d, ?_,gV.mono (fV.mono q.free y) _ _ B,I⟩;simp_all [Cx.push,upd_same]
 refine⟨_,⟨?_,rfl,rfl,rfl,j.push hk (by omega) f p S,q⟩,rfl, ?_⟩
 .simp[Cx.push,m]
 .simp only[dh];refine⟨D,.inl ⟨.arr y 0 xs,by simp[Cx.push,fF]⟩,fun t u W h=> ?_⟩;simp_all [Cx.push,jU,upd_same]
def Jo (P:Program) (W0:World) (c:Cx) (st:St) (o:Oper) (a:Act) (K:cO->St->Option R) (r:R):Prop:=
 ∃z u d e,K z e=a6 r/\E9 W0 c st d e/\dh d z u/\((execOp a.eval o).run P c.w=.ok (.value u) d.w\/((execOp a.eval o).run P c.w=.ok .skip d.w/\u=undef))
theorem uq {st:St} {o:Oper} {a:Act} {K:cO->St->Option R} {s:Sem Value} {z:cO} {u:Value} {c':Cx} {d:St} (g:execOp a.eval o=(do pure (Next.value (<-s)))) (e:K z d=a6 r) (h2:E9 W0 c st c' d) (f:dh c' z u)
  (i:s.run P c.w=.ok u c'.w):Jo P W0 c st o a K r:=⟨z,u,c',d,e,h2,f,.inl (by simp_all)⟩
theorem axC (hT:TOk P T) (A:c.Ok W0) {cl:Bool} {call:gZ R} {o:Oper} {st:St} {a:Act} {K:cO->St->Option R} (B:c.hp=st.hp) (D:c.nxt=st.nxt) (V:o.op=.alloc t)
  (h:fH T cl call o st K=a6 r):Jo P W0 c st o a K r:=by
 obtain⟨W,op,Z,ab,ad,ae⟩:=o;simp only at V;subst V;simp only[fH]at h;replace h:=dQ h;obtain⟨hk,h⟩:=h;obtain⟨i,z,hi,an,ao,hz,q,f⟩:=hT.info hk;have f: ∀u∈z.cells.toList,u.oneCell'=true:=fun u hu=>List.all_eq_true.1 f u hu;have ag:(Instr.alloc t true (.tuple #[])).run P c.w=.ok (.pointer (a6 ⟨c.w.heap.size,0,a7⟩)) (c.w.alloc (.cells z.cells t)):=by
  simp[Instr.alloc,zeroValue,typeInfo,hi,hz,newVar,newRow]
 have I:(alloc cl W (.box t (T.at t).zero) st fun id st=>K (.ptr id 0) st)=a6 r->Jo P W0 c st ⟨W,.alloc t,Z,ab,ad,ae⟩ a K r:=fun h=>by
  obtain⟨id,X,g,j,l,m⟩:=jY h;obtain⟨c',e,p,x⟩:=Z7 A B D g j l (cs:=(T.at t).zero) (vs:=z.cells) (by grind [wG]) f t;exact uq rfl m e x (by rw[p];exact ag)
 split at h
 .rename_i et ah J
  split at h
  .rename_i y hy
   replace h:=dQ h;obtain⟨L,h⟩:=h;have L:0<y.size:=by simpa [QN] using L
   obtain⟨M,n1,g,j,l,m⟩:=jY h;have Y:z.cells.toList=[.slice a7 0 0]:=by
    rw[J]at q
    match hq:z.cells.toList,q with
    |[v],d=>
     simp only[ay,aV,List.cons.injEq,and_true]at d;unfold yY at d
     grind
    |[],d=>simp at d
    |_::_::_,d=>simp at d
   obtain⟨c1,e,p,x⟩:=uu A B D g j l L (xs:=[]) (Below.refl _ _) (if y=.int .u8 then rH else et) [] (World.ownsRow_nil _ _ _ _) (by simp[gV]) (v:=.slice a7 0 0) rfl (fun h=>by simp[h]);obtain⟨id,X,N,O,S,U⟩:=jY m;obtain⟨c2,g1,g2,g3⟩:=Z7 e.ok e.hp e.nxt N O S (cs:=[.slc M 0 a7]) (vs:=z.cells) (by simp_all [bW]) f t;rw[p]at g3;refine uq rfl U (e.trans g1) g3 ?_;simp_all
  .exact I h
 .rename_i fs ah J
  rw[cond_eq_ite]at h;split at h
  .obtain⟨M,n1,g,j,l,m⟩:=jY h;have Y:z.cells.toList=[.pointer a7,.slice a7 0 0]:=by
    rw[J]at q
    match hq:z.cells.toList,q with
    |[v,v'],d=>
     simp only[ay,aV,List.cons.injEq,and_true]at d;obtain⟨ai,aj⟩:=d;have q1:v=.pointer a7:=by
      unfold yY at ai
      grind
     have q2:v'=.slice a7 0 0:=by
      unfold yY at aj
      grind
     rw[q1,q2]
    |[],d=>simp at d
    |[_],d=>simp at d
    |_::_::_::_,d=>simp at d
   obtain⟨c1,e,p,x⟩:=uu A B D g j l (y:=.int .u8) (by simp[Ty.size]) (xs:=[]) (Below.refl _ _) rH [] (World.ownsRow_nil _ _ _ _) (by simp[gV]) (v:=.slice a7 0 0) rfl (fun _=>rfl);obtain⟨X,N,O,S,U⟩:=PE m;obtain⟨c2,g1,g2,g3⟩:=L9 e.ok e.hp e.nxt N O S (cs:=[.slf _,.slc M 0 a7]) (vs:=z.cells) t (fun c' ak hg al au=>by
    rw[Y];simp only[bW,dh];refine⟨⟨rfl,al,fun _ _ _=>.inl trivial⟩, ?_,trivial⟩;have:=dh.le ak _ _ x
    assumption) f
   rw[p]at g3;refine uq rfl U (e.trans g1) g3 ?_;simp_all
  .exact I h
 .exact I h
theorem aGp (hT:TOk P T) (e:c.Ok W0) {cl:Bool} {call:gZ R} {o:Oper} {st:St} {a:Act} {K:cO->St->Option R} {x:Operand} (f:c.hp=st.hp) (g:c.nxt=st.nxt) (i:bW c st.fr a.tmps.toList) (d:o.op=.box t x)
  (h:fH T cl call o st K=a6 r):Jo P W0 c st o a K r:=by
 obtain⟨B,D,I,J,L,M⟩:=o;simp only at d;subst d;simp only[fH]at h;split at h
 .rename_i N j
  replace h:=dQ h;obtain⟨hk,h⟩:=h;obtain⟨id,O,l,m,p,q⟩:=jY h;obtain⟨u,v⟩:=NK j (eu i x);obtain⟨S,y,z,A⟩:=Z7 e f g l m p u v t;refine uq rfl q y A ?_;rw[z];rfl
 .cases h
theorem aA3 {hp:iD} {y:Ty} {v:cO} {x:y.den} (h:v.as [] y=a6 x) {u:Value} (d:dh c v u):fV c.w c.free y x u.cells.toList:=by
 cases v with
 |val t' z=>
  simp only[cO.as]at h;have e:=jo h;subst e;rw[iw]at h;cases h;simp only[dh]at d;exact d.cells
 |nils=>
  simp only[dh]at d;subst d;cases y<;>simp only[cO.as,reduceCtorEq]at h;cases h;exact⟨a7,0,[],rfl,by simp,rfl,.inl rfl⟩
 |lst t' z b=>
  simp only[cO.as]at h;have e:=jo h;subst e;rw[iw]at h;cases h;simp only[dh]at d;exact d.1.cells
 |emp=>
  simp only[dh]at d;obtain⟨a,rfl⟩:=d;cases y<;>simp only[cO.as,reduceCtorEq]at h;cases h;exact⟨a,0,[],rfl,by simp,rfl,.inl rfl⟩
 |slc id ver g=>cases y<;>simp_all [cO.as,DY,ed]
 |agg l=>
  simp only[cO.as]at h;replace h:=dQ h;simp only[dh]at d;obtain⟨i,rfl,f,_⟩:=d;exact qZ h.2 f
 |_=>simp[cO.as]at h
theorem gV.replicate {e:Type} {Q:e->List Value->Prop} {size:Nat} {x:e} {d:List Value} (hd:d.length=size) (hx:Q x d): ∀n,gV Q size (List.replicate n x) (List.replicate n d).flatten
 |0=>by simp[gV]
 |n+1=>⟨d,(List.replicate n d).flatten,by rfl,hd,hx,gV.replicate hd hx n⟩
theorem F5 (d:Array Value): ∀n,(madeCells d (n*d.size)).toList=(List.replicate n d.toList).flatten:=by
 intro n;by_cases h0:d.size=0
 .simp_all [madeCells]
 apply List.ext_getElem?;intro j;have f:(List.replicate n d.toList).flatten.length=n*d.size:=by simp
 by_cases e:j<n*d.size
 .have g: ∀n j,j<n*d.size->(List.replicate n d.toList).flatten[j]? =d.toList[j %d.size]? :=by
   intro n
   induction n with
   |zero=>omega
   |succ n i=>
    intro j e;rw[List.replicate_succ,List.flatten_cons]
    grind [Nat.mod_eq_of_lt,List.getElem?_append_right,Nat.mod_eq_sub_mod]
  grind [madeCells]
 simp_all [madeCells]
theorem X8 {e:Ty} (place:Nat->Option (Nat×Nat)) (z: ∀i,place i=a6 (i*e.size,e.size)): ∀(j:List (Nat×cO)) (us:List (Nat×Value)) (xs f:List e.den) (g:List Value),KL e xs j=a6 f->gV (fV c.w c.free e) e.size xs g->
   us.map (·.1)=j.map (·.1)->bW c (j.map (·.2)) (us.map (·.2))-> ∃l,Instr.fill place g.toArray us=a6 l.toArray/\gV (fV c.w c.free e) e.size f l/\f.length=xs.length
 |[],us,xs,f,g,h,m,d,_=>by
  simp only[KL,Option.some.injEq]at h;subst h;cases us with
  |nil=>exact⟨g,rfl,m,rfl⟩
  |cons=>simp at d
 |(i,v)::j,us,xs,f,g,h,m,d,y=>by
  cases us with
  |nil=>simp at d
  |cons u us=>
   obtain⟨p,u⟩:=u;simp only[ay,List.cons.injEq]at d;obtain⟨rfl,d⟩:=d;simp only[ay,bW]at y;simp only[KL]at h;split at h
   .rename_i x J
    replace h:=dQ h;obtain⟨q,h⟩:=h;have q:p<xs.length:=by simpa [QN] using q
    have hd:=aA3 (hp:=[]) J y.1;have A:=fV.length _ _ _ hd;obtain⟨B,K,O,D,I,L,M⟩:=gV.at_ p xs g q m;subst L;have N:=gV.set x u.cells.toList A hd p xs D B I q m M K;obtain⟨l,g1,g2,g3⟩:=X8 place z j us _ f _ h N d y.2;refine⟨l, ?_,g2,by rw[g3];simp⟩;rw[<-g1];simp only[Instr.fill,z];have S:u.cells.size=e.size:=by simpa using A
    rw[aq (by simp_all)];congr 1;have:=Lm (p*e.size) u.cells (D++B++I) (by simp;omega)
    grind
   .cases h
end
end
section
open Option renaming some → a6, none → a7
open Bool renaming and_eq_true → ah
open List renaming take_of_length_le → bD
open Nat renaming le_refl → af, le_mul_of_pos_right → bP
open Go.RowKit
section
variable {P:Program} {T:TT} {W0:World} {c:Cx} {R:Type} {r:R} {t:TypeId}
theorem tu (hT:TOk P T) {n:Nat} {d:TypeId} (e:(T.at t).k=.slice d) (h:T.rowOf t n=true):P.underlying t=a6 (.slice d)/\(T.at d).known=true/\(T.at d).size=n/\0<n/\0<(T.at d).bytes:=by
 grind [oK]
theorem YM (hT:TOk P T) {f:TypeId} (hk:(T.at f).known=true) {e:Ty} {d:e.den} (hd:I9 e (T.at f).zero=a6 d):
  ∃i z,P.info? f=a6 i/\i.zero=a6 z/\i.size=(T.at f).size/\i.bytes=(T.at f).bytes/\fV c.w c.free e d z.cells.toList:=by
 obtain⟨i,z,g,j,l,m,p,q⟩:=hT.info hk
 grind [qZ,wG]
theorem aeT (w:World) (d:List Value) (e:TypeId) (size n:Nat) (hl:d.length=n*size) (f:n<=maxLen):
  (w.alloc (.cells d.toArray e)).ownsRow w.heap.size e size (.slice (a6 ⟨w.heap.size,0,a7⟩) n n) n d:=
 ⟨hl,.inr ⟨w.heap.size,n,d.toArray,rfl,af _,heap_alloc_new w _,af _,f,by simpa using hl,by simp[<-hl]⟩⟩
theorem ZV (hT:TOk P T) (I:c.Ok W0) {cl:Bool} {call:gZ R} {o:Oper} {st:St} {a:Act} {K:cO->St->Option R} {n:Nat} {f:Array (Nat×Operand)} (J:c.hp=st.hp) (L:c.nxt=st.nxt) (M:bW c st.fr a.tmps.toList)
  (l:o.op=.buildSlice t n f) (h:fH T cl call o st K=a6 r):Jo P W0 c st o a K r:=by
 obtain⟨ai,op,ty,aj,ak,al⟩:=o;simp only at l;subst l;simp only[fH]at h;split at h
 .rename_i g N
  split at h
  .rename_i e O
   split at h
   .rename_i d hd
    replace h:=dQ h;obtain⟨m,h⟩:=h;simp only[ah,leN,decide_eq_true_eq]at m;obtain⟨q,hk,S,u,_⟩:=tu hT N m.1;split at h
    .rename_i U V
     obtain⟨id,n',W,X,Y,Z⟩:=jY h;obtain⟨i,z,hi,hz,an,_,v⟩:=YM (c:=c) hT hk hd;have x:=fV.length _ _ _ v;have ab:z.cells.size=e.size:=by simpa using x
     have ad:=gV.replicate (Q:=fV c.w c.free e) x v n;obtain⟨j,g1,g2,g3⟩:=X8 (c:=c) (fun i=>a6 (i*e.size,e.size)) (fun _=>rfl) _ (f.toList.map fun p=>(p.1,a.eval p.2)) _ _ _ V ad (by simp) (by
      simp only[List.map_map,Function.comp_def];have:=bW.map_eval (c:=c) M (f.toList.map (·.2));simp_all [Function.comp_def])
     have y:U.length=n:=by rw[g3];simp
     have A:=gV.length _ _ g2;rw[y]at A;have ao:n<=n*e.size:=bP n u;have B:=aeT c.w j g e.size n A (by simp only[maxLen];omega);rw[<-y]at B;obtain⟨c',d1,d2,d3⟩:=uu I J L W X Y u (qw c.w (.cells j.toArray g)) g j B g2 rfl (fun h=>hT.byte hk (by rw[O,h]));refine uq rfl Z d1 d3 ?_;rw[d2];have D:(sizeOf g).run P c.w=.ok e.size c.w:=by rw[hT.sizeOf hk,S]
     have au:(zeroValue g).run P c.w=.ok z c.w:=by simp[zeroValue,typeInfo,hi,hz]
     have av:n*e.size<=2^24:=by omega
     have ae:Instr.fill (fun i=>a6 (i*e.size,e.size)) ((Array.range (n*e.size)).map (z.cells[· %z.cells.size]!)) (Array.map (fun p=>(p.1,a.eval p.2)) f).toList=a6 j.toArray:=by
      rw[<-g1];have:=F5 z.cells n;rw[ab]at this;have h3:(Array.range (n*e.size)).map (z.cells[· %z.cells.size]!)=(List.replicate n z.cells.toList).flatten.toArray:=by
       apply Array.ext';rw[<-this];rfl
      rw[h3];simp
     by_cases h0:n*e.size=0
     .have ag:n=0:=by
       omega
      subst ag;simp only[Instr.buildSlice,Sem.run_bind,run_underlying q,Result.andThen_ok,D,Sem.run_ite,Nat.zero_mul,if_true,Sem.run_pure];simp only[Nat.zero_mul]at ae;rw[aq (by omega)];have aw:Instr.fill (fun i=>a6 (i*e.size,e.size)) ((Array.range 0).map ((#[]:Array Value)[· %(#[]:Array Value).size]!)) (Array.map (fun p=>(p.1,a.eval p.2)) f).toList=a6 j.toArray:=by
       grind
      simp_all [newRow]
     .simp only[Instr.buildSlice,Sem.run_bind,run_underlying q,Result.andThen_ok,D,Sem.run_ite];simp_all [newRow]
    .cases h
   .cases h
  .cases h
 .cases h
theorem aec (hT:TOk P T) (y:c.Ok W0) {cl:Bool} {call:gZ R} {o:Oper} {st:St} {a:Act} {K:cO->St->Option R} {l cp:Operand} (A:c.hp=st.hp) (B:c.nxt=st.nxt) (m:bW c st.fr a.tmps.toList)
  (p:o.op=.makeSlice t l cp) (h:fH T cl call o st K=a6 r):Jo P W0 c st o a K r:=by
 obtain⟨aj,op,ty,ak,al,an⟩:=o;simp only at p;subst p;simp only[fH]at h;split at h
 .rename_i g D
  split at h
  .rename_i e ln f I J L
   split at h
   .rename_i d hd
    replace h:=gY h;obtain⟨q,h⟩:=h;simp only[ah,decide_eq_true_eq]at q;obtain⟨M,N,O,b3⟩:=q;obtain⟨S,hk,U,V,W⟩:=tu hT D M;obtain⟨id,n',X,Y,Z,e4⟩:=jY h;obtain⟨i,z,hi,hz,ab,ao,u⟩:=YM (c:=c) hT hk hd;have v:=fV.length _ _ _ u;have j:z.cells.size=e.size:=by simpa using v
    have ad:=gV.replicate (Q:=fV c.w c.free e) v u ln.toNat;obtain⟨k,r1⟩:=uQ J (eu m l);obtain⟨k',r2⟩:=uQ L (eu m cp);have au:f.toNat<=f.toNat*(T.at g).bytes:=bP _ W;have av:f.toNat<=140737488355328:=by grind [nC]
    have ae:f<=9223372036854775807:=by omega
    have ag:(i.bytes:Int)*f<=281474976710656:=by
     grind [nC]
    have aw:=run_make (P:=P) c.w t g i z S hi hz k k' ln f N O ag ae;have x:=F5 z.cells f.toNat;rw[j]at x;have ax:((List.replicate f.toNat z.cells.toList).flatten).length=f.toNat*e.size:=by simp[j]
    have ai:(c.w.alloc (.cells (madeCells z.cells (f.toNat*i.size)) g)).ownsRow c.w.heap.size g e.size (.slice (a6 ⟨c.w.heap.size,0,a7⟩) ln.toNat f.toNat) (List.replicate ln.toNat d).length (List.replicate ln.toNat z.cells.toList).flatten:=by
     refine⟨by simp[j],.inr ⟨c.w.heap.size,f.toNat,madeCells z.cells (f.toNat*i.size),by simp,af _,heap_alloc_new _ _,by simp;omega,by simp only[maxLen];omega, ?_, ?_⟩⟩
     .grind
     .rw[ab,U,x];have:f.toNat=ln.toNat+(f.toNat-ln.toNat):=by omega
      rw[this,<-List.replicate_append_replicate,List.flatten_append];rw[List.take_append];simp[j];rw[bD (by simp[j])]
    obtain⟨c',d1,d2,d3⟩:=uu y A B X Y Z V (qw c.w _) g _ ai ad rfl (fun h=>hT.byte hk (by rw[I,h]));refine uq rfl e4 d1 d3 ?_;simp_all
   .cases h
  .cases h
 .cases h
end
end
section
open Option renaming some → a6, none → a7
open List renaming length_append → ae, nil_append → aQ, eq_nil_of_length_eq_zero → bM
open Nat renaming le_refl → af, add_zero → aW
open Go.RowKit
section
variable {P:Program} {T:TT} {W0:World} {c:Cx} {R:Type} {r:R} {t:TypeId}
theorem aaj {w:World} {B:Nat} {e:TypeId} {size n cap g:Nat} {f:List Value} (h:w.ownsRow B e size (.slice (a6 ⟨g,0,a7⟩) n cap) n f) {k:Nat} (hk:k<=n):
  w.ownsRow B e size (.slice (a6 ⟨g,0,a7⟩) k cap) k (f.take (k*size)):=by
 have q:=h.1;have u:=Nat.mul_le_mul_right size hk;refine⟨by simp;omega,.inr ?_⟩;rcases h.2 with ⟨d,_⟩|⟨v,x,i,d,j,l,y,m,p,z⟩
 .cases d
 .cases d;refine⟨g,cap,i,rfl,j,l,by omega,m,p, ?_⟩
  grind
theorem Sj (hT:TOk P T) {d:TypeId} (A:P.underlying t=a6 (.slice d)) {w:World} {B:Nat} {i:TypeInfo} {z:Value} {size ab:Nat} (hi:P.info? d=a6 i) (K:i.zero=a6 z) (ag:i.size=size) (ah:i.bytes=ab)
  (L:z.cells.size=size) (M:0<size) {e0:TypeId} {v:Value} {n:Nat} {p:List Value} (f:w.ownsRow B e0 size v n p) {a:Option Addr} {m cp:Nat} {news:List Value} (hl:news.length=m*size) (N: ∀u∈news,u.oneCell'=true)
  (ai:news=[]\/ ∃b off,a=a6 ⟨b,off,a7⟩/\iP w b off news) (O:n+m<=maxLen) (S:(n+m)*ab<=140737488355328) (U:B<=w.heap.size) (ty:TypeId):
  ∃l w' x,(Builtin.append_ #[t,t] ty #[v,.slice a m cp]).run P w=.ok l w'/\w'.ownsRow B x size l (n+m) (p++news)/\w.grownBy w' v.ownBlock/\(l.ownBlock=v.ownBlock\/l.ownBlock=a6 w.heap.size)/\l.oneCell'=true/\(x=e0\/x=d):=by
 by_cases hm:m=0
 .subst hm;have hn:news=[]:=bM (by simpa using hl);subst hn;obtain⟨V,cv,y,aj,_⟩:=uC f;refine⟨v,w,e0, ?_,by simpa using f,⟨rfl,rfl,rfl,af _,fun _ _ _=>rfl⟩,.inl rfl,by rw[y];rfl,.inl rfl⟩;rw[y];cases a<;>cases V<;>simp[Builtin.append_,run_underlying A,sizeOf,typeInfo,hi,Builtin.lenOf,Builtin.firstCells,loadCells,loadCellsFrom,aj,storeCells]
 .have ak:news≠[]:=by
   intro h0;rw[h0]at hl;have:=Nat.mul_pos (Nat.pos_of_ne_zero hm) M;simp at hl;omega
  obtain⟨b,off,rfl,hc⟩:=ai.resolve_left ak;have J: ∀j u,news[j]? =a6 u->w.cell? ((⟨b,off,a7⟩:Addr).add j)=a6 u:=fun j u hj=>by
   obtain⟨al,an⟩:=List.getElem?_eq_some_iff.1 hj;rw[mD,hc j al,an]
  subst ag;subst ah;by_cases he:e0=d
  .subst he;obtain⟨l,w',x,D,W,_,X⟩:=run_append_own_at (P:=P) w B t ty e0 i z i.size i.bytes A hi K rfl rfl L M v n p f ⟨b,off,a7⟩ m cp news hl J N O S U;obtain⟨V,cv,y,_⟩:=uC D;exact⟨l,w',e0,x,D,W,X,by rw[y];rfl,.inl rfl⟩
  .
   rcases f.2 with ⟨rfl,rfl⟩|⟨g,q,I,rfl,ao,hg,aA,au,aw,aB⟩
   .have hx:p=[]:=bM (by simpa using f.1);subst hx;obtain⟨l,w',x,D,W,_,X⟩:=run_append_own_at (P:=P) w B t ty d i z i.size i.bytes A hi K rfl rfl L M (.slice a7 0 0) 0 [] (World.ownsRow_nil _ _ _ _) ⟨b,off,a7⟩ m cp news hl J N O S U;obtain⟨V,cv,y,_⟩:=uC D;exact⟨l,w',d,x,D,W,X,by rw[y];rfl,.inr rfl⟩
   .by_cases hroom:n+m<=q
    .have ax:n*i.size+news.length<=I.size:=by rw[hl,aw,<-Nat.add_mul];exact Nat.mul_le_mul_right _ hroom
     have hf:=run_firstCells_some (P:=P) w i.size m ⟨b,off,a7⟩ m cp news hl J;have ad:=run_storeCells_at P g (n*i.size) e0 news 0 I w hg (by simpa using ax) N;simp only[aW]at ad;have Y:(Builtin.append_ #[t,t] ty #[.slice (a6 ⟨g,0,a7⟩) n q,.slice (a6 ⟨b,off,a7⟩) m cp]).run P w=
       .ok (.slice (a6 ⟨g,0,a7⟩) (n+m) q) (w.setRow g (I.toList.take (n*i.size)++news++I.toList.drop (n*i.size+news.length)).toArray):=by
      simp[Builtin.append_,run_underlying A,sizeOf,typeInfo,hi,Builtin.lenOf,hroom,hf,Addr.add_lit,ad]
     have Z:(p++news).length=(n+m)*i.size:=by grind
     refine⟨_,_,e0,Y,⟨Z,.inr ⟨g,q,_,rfl,ao,setRow_heap w g I _ e0 _ hg,hroom,au, ?_, ?_⟩⟩,⟨rfl,rfl,rfl,by simp,fun k _ hk=>setRow_other w g k _ (fun e=>hk (by simp[Value.ownBlock,e]))⟩,Or.inl rfl,rfl,.inl rfl⟩
     all_goals grind
    .have holds: ∀j u,p[j]? =a6 u->w.cell? ((⟨g,0,a7⟩:Addr).add j)=a6 u:=f.cells (g:=g) rfl;have Y:=run_append_grow (P:=P) w t ty d i z A hi K ⟨g,0,a7⟩ n q p f.1 holds ⟨b,off,a7⟩ m cp news hl J (by omega) (by grind [maxLen]) (growslice_fits (by omega) S);have ay:=grownCap_ge w (n+m) q d;have az:grownCap w (n+m) q d<=maxLen:=grownCap_le_maxLen w (n+m) q d O;have Z:(p++news).length=(n+m)*i.size:=by rw[ae,f.1,hl,Nat.add_mul]
     refine⟨_,_,d,Y,⟨Z,.inr ⟨w.heap.size,_,_,rfl,U,heap_alloc_new w.drew _,ay,az, ?_, ?_⟩⟩,⟨rfl,rfl,rfl,by simp,fun k hk _=>Below.heap_alloc w.drew _ k hk⟩,Or.inr rfl,rfl,.inr rfl⟩
     .simp only[Array.size_append,List.size_toArray,size_zeroCells,L,f.1,hl,<-Nat.add_mul];simp_all
     grind
theorem afO (hT:TOk P T) {d:TypeId} (p:P.underlying t=a6 (.slice d)) {w:World} {i:TypeInfo} {z:Value} {size q:Nat} (hi:P.info? d=a6 i) (x:i.zero=a6 z) (I:i.size=size) (J:i.bytes=q)
  (K:z.cells.size=size) (L:0<size) {av:Option Addr} {b off m cp:Nat} {news:List Value} (hl:news.length=m*size) (M: ∀u∈news,u.oneCell'=true)
  (N:iP w b off news) (X:0<m) (Y:m<=maxLen) (Z:m*q<=140737488355328) (ty:TypeId):
  ∃e w' g,(Builtin.append_ #[t,t] ty #[.slice av 0 0,.slice (a6 ⟨b,off,a7⟩) m cp]).run P w=.ok e w'/\w'.ownsRow w.heap.size g size e m news/\Below w.heap.size w w'/\e.oneCell'=true/\g=d:=by
 have y: ∀j u,news[j]? =a6 u->w.cell? ((⟨b,off,a7⟩:Addr).add j)=a6 u:=fun j u O=>by
  obtain⟨S,U⟩:=List.getElem?_eq_some_iff.1 O;rw[mD,N j S,U]
 subst I;subst J;cases av with
 |none=>
  obtain⟨e,w',g,l,f,_,e5⟩:=run_append_own_at (P:=P) w w.heap.size t ty d i z i.size i.bytes p hi x rfl rfl K L (.slice a7 0 0) 0 [] (World.ownsRow_nil _ _ _ _) ⟨b,off,a7⟩ m cp news hl y M (by omega) (by simp_all) (af _);obtain⟨av,cv,V,_⟩:=uC l;rw[Nat.zero_add,aQ]at l;exact⟨e,w',d,g,l,⟨f.os,f.tape,f.output,f.size,fun k hk=>f.block k hk (by simp[Value.ownBlock])⟩,by rw[V];rfl,rfl⟩
 |some W=>
  have A:=run_append_grow (P:=P) w t ty d i z p hi x W 0 0 [] (by simp) (fun j v h=>by simp at h) ⟨b,off,a7⟩ m cp news hl y (by omega) (by grind [maxLen]) (growslice_fits (by omega) (by simp_all));have B:=grownCap_ge w (0+m) 0 d;have D:grownCap w (0+m) 0 d<=maxLen:=grownCap_le_maxLen w (0+m) 0 d (by omega);simp only[Nat.zero_add]at A B D;refine⟨_,_,d,A, ?_, ?_,rfl,rfl⟩
  .refine⟨hl,.inr ⟨w.heap.size,_,_,rfl,af _,heap_alloc_new w.drew _,B,D, ?_, ?_⟩⟩
   .have:=Nat.add_mul m (grownCap w m 0 d-m) i.size;simp_all [size_zeroCells]
   simp_all
  .exact⟨rfl,rfl,rfl,by simp,fun k hk=>Below.heap_alloc w.drew _ k hk⟩
theorem Sl {u d:TypeId} (p:P.underlying t=a6 (.slice d)) (q:P.underlying u=a6 .string) {w:World} {B:Nat} {i:TypeInfo} (hi:P.info? d=a6 i) (y:i.zero=a6 (.int .u8 0)) (D:i.size=1) (z:i.bytes=1)
  {v:Value} {n:Nat} {l:List Value} (x:w.ownsRow B d 1 v n l) (s:ByteArray) (J:n+s.size<=140737488355328) (K:B<=w.heap.size) (ty:TypeId):
  ∃e w',(Builtin.append_ #[t,u] ty #[v,.string s]).run P w=.ok e w'/\w'.ownsRow B d 1 e (n+s.size) (l++Lib.strCells s)/\w.grownBy w' v.ownBlock/\(e.ownBlock=v.ownBlock\/e.ownBlock=a6 w.heap.size)/\e.oneCell'=true:=by
 obtain⟨e,w',f,I,L,S⟩:=Lib.run_append_own_string (P:=P) w B t u ty d i p q hi y D z v n l x s (by simp only[maxLen];omega) J K;obtain⟨U,V,M,_⟩:=uC I;refine⟨e,w',f,I,L, ?_,by rw[M];rfl⟩;have W:l.length=n:=by simpa using x.1
 rcases x.2 with ⟨rfl,rfl⟩|⟨g,A,N,rfl,X,O,Y,Z,ab,ad⟩
 .by_cases hm:s.size=0
  .simp_all
  .right;have m:=run_append_nil_string (P:=P) w t u ty d i (.int .u8 0) p q hi y s (by omega) (by omega) (by rw[z];omega);rw[m]at f;cases f;rfl
 .by_cases hroom:n+s.size<=A
  .left;have m:=Lib.run_append_room_string (P:=P) w t u ty d i p q hi D g n A N O s hroom (by omega);rw[m]at f;cases f;rfl
  .right;have holds: ∀j u,l[j]? =a6 u->w.cell? ((⟨g,0,a7⟩:Addr).add j)=a6 u:=x.cells (g:=g) rfl;have m:=Lib.run_append_grow_string (P:=P) w t u ty d i (.int .u8 0) p q hi y ⟨g,0,a7⟩ n A l (by simp_all) holds s (by omega) (by omega) (by rw[z];exact growslice_fits (by omega) (by omega));rw[m]at f;cases f;rfl
end
end
section
open Option renaming some → a6, none → a7
open Bool renaming and_eq_true → ah
open List renaming length_append → ae, map_cons → ay, nil_append → aQ, map_nil → aV
open Nat renaming le_refl → af, eq_of_beq_eq_true → ax, le_mul_of_pos_right → bP
open Go.RowKit
section
variable {P:Program} {T:TT} {W0:World} {c:Cx} {R:Type} {r:R} {t:TypeId}
theorem CW {d:Type} {l:List d} {b:Nat} (h:fG l b=true):l.length*b<=140737488355328:=by
 unfold fG nC at h;simp_all
theorem gV.one {w:World} {fr:Nat->Prop} {e:Ty}: ∀(xs:List e.den) (g:List Value),gV (fV w fr e) e.size xs g-> ∀u∈g,u.oneCell'=true
 |[],_,h=>by cases h;simp
 |y::i,_,⟨d,j,l,q,m,p⟩=>by
  subst l;intro u f;rcases List.mem_append.1 f with f|f
  .exact fV.one _ _ _ m u f
  .exact gV.one i j p u f
theorem akU (g:c.Ok W0) {st:St} (B:c.hp=st.hp) (D:c.nxt=st.nxt) {e:Ty} (I:0<e.size) {id d:Nat} {xs:List e.den} (i:ed c.hp id=a6 (.arr e d xs)) {f:Value} {w':World} {m:TypeId} {ws:List e.den} {p:List Value}
  (U:w'.ownsRow W0.heap.size m e.size f ws.length p) (q:gV (fV c.w c.free e) e.size ws p) (l:c.w.grownBy w' (c.mu id).v.ownBlock) (J: ∀b,(c.mu id).v.ownBlock=a6 b->W0.heap.size<=b)
  (V:f.ownBlock=(c.mu id).v.ownBlock\/f.ownBlock=a6 c.w.heap.size) (K:f.oneCell'=true) (M:e=.int .u8->m=rH):
  ∃c',E9 W0 c st c' {st with hp:=jW st.hp id (.arr e (d+1) ws)}/\c'.w=w'/\dh c' (.slc id (d+1) a7) f:=by
 have N:Below W0.heap.size W0 w':=g.bel.grown l g.size J;have u:(dZ.arr e d xs).like (c.mu id) (.arr e (d+1) ws) ⟨0,f⟩:=⟨by omega,fun h=>by omega⟩;have x: ∀b,b<c.w.heap.size->(dZ.arr e d xs).blk (c.mu id)≠a6 b->w'.heap[b]? =c.w.heap[b]? :=fun b j W=>l.block b j (by
  grind [dZ.blk])
 have y: ∀b,(dZ.arr e (d+1) ws).blk ⟨0,f⟩=a6 b->(dZ.arr e d xs).blk (c.mu id)=a6 b\/c.w.heap.size<=b:=fun b j=>by
  simp only[dZ.blk]at j ⊢
  grind
 have z: ∀(b:Nat) (L:Loop),(dZ.arr e d xs).blk (c.mu id)=a6 b->c.w.heap[b]? =a6 (Obj.loop L)-> ∃O:Loop,w'.heap[b]? =a6 (Obj.loop O):=fun b L j q=>absurd q ((g.obj id _ i).no_loop (by simp) j);have A:=Cx.Le.put (w:=w') g i u l.size x y z;refine⟨c.put id (.arr e (d+1) ws) ⟨0,f⟩ w',⟨by simp[Cx.put,B],D,rfl,rfl,g.put i u N l.size x y z ?_,A⟩,rfl, ?_⟩
 .refine⟨I,m,p, ?_,gV.mono (fV.mono A.free e) _ _ q,M⟩;simp_all [Cx.put,upd_same]
 .simp only[dh];refine⟨K,.inl ⟨_,Cx.put_get i⟩,fun X Y Z S=> ?_⟩;rw[Cx.put_get i]at S;simp_all [jU,Cx.put,upd_same]
theorem Si (hT:TOk P T) (p:c.Ok W0) {st:St} (N:c.hp=st.hp) (O:c.nxt=st.nxt) {f:TypeId} (S:P.underlying t=a6 (.slice f)) (hk:(T.at f).known=true) {e:Ty} (j:(T.at f).size=e.size) (U:0<e.size) (V:0<(T.at f).bytes)
  {id u:Nat} {xs:List e.den} (B:ed c.hp id=a6 (.arr e u xs)) {v:Value} {k cp:Nat} {g:Option Addr} (D:(c.mu id).v=.slice g xs.length cp) (aA:k<=xs.length) (W:v=.slice g k cp)
  {d:List e.den} {a:Option Addr} {m:Nat} {x:List Value} (y:gV (fV c.w c.free e) e.size d x) (X:x=[]\/ ∃b off,a=a6 ⟨b,off,a7⟩/\b<c.w.heap.size/\iP c.w b off x)
  (aB:((xs.take k++d).length)*(T.at f).bytes<=140737488355328) (ty:TypeId) (Y:e=.int .u8->f=rH):
  ∃c' A,E9 W0 c st c' {st with hp:=jW st.hp id (.arr e (u+1) (xs.take k++d))}/\(Builtin.append_ #[t,t] ty #[v,.slice a d.length m]).run P c.w=.ok A c'.w/\dh c' (.slc id (u+1) a7) A:=by
 obtain⟨_,Z,zs,I,hL,ab⟩:=p.obj id _ B;obtain⟨i,z,hi,ad,ag,hz,ai,aF⟩:=hT.info hk;have aj:z.cells.size=e.size:=by
  have:=congrArg List.length ai;rw[hT.zlen hk,j]at this;simpa using this
 have ak:=gV.take k _ _ hL;have al:=gV.length _ _ y;have an:=gV.one _ _ y;have aG:(xs.take k).length=k:=by simp;omega
 have J:c.w.ownsRow W0.heap.size Z e.size v k (zs.take (k*e.size)):=by
  rw[D]at I;rcases I.2 with ⟨l,e2⟩|⟨g',aH,aI,l,_⟩
  .simp only[Value.slice.injEq]at l;obtain⟨rfl,_,rfl⟩:=l;simp_all [World.ownsRow_nil]
  grind [aaj]
 have ao:k+d.length<=maxLen:=by
  have h2:k+d.length<=(k+d.length)*(T.at f).bytes:=bP _ V
  grind [maxLen]
 obtain⟨A,w',l,hr,au,K,L,av,aw⟩:=Sj hT S hi hz ad ag (by rw[aj,j]) (by omega) (by rw[j];exact J) (a:=a) (cp:=m) (by rw[j];exact al) an (X.imp (fun h=>h) fun⟨b,off,q1,_,q3⟩=>⟨b,off,q1,q3⟩) ao
  (by simp_all) p.size ty
 rw[j]at au;have M:v.ownBlock=(c.mu id).v.ownBlock:=by rw[D,W];cases g<;>rfl
 have az: ∀b,(c.mu id).v.ownBlock=a6 b->W0.heap.size<=b:=fun b hb=>(World.ownsRow.lt J b (M.trans hb)).1;rw[M]at K L;obtain⟨c',d1,d2,d3⟩:=akU p N O U B (ws:=xs.take k++d) (by simp_all) (gV.append _ _ _ _ ak y) K az L av (fun h=>aw.elim (fun q=>q.trans (ab h)) fun q=>q.trans (Y h))
 grind
theorem Nr {w:World} {fr:Nat->Prop} (s:List UInt8):gV (fV w fr (.int .u8)) (Ty.int .u8).size (dR s) (Lib.strCells ⟨s.toArray⟩):=by
 induction s with
 |nil=>rfl
 |cons b l d=>
  refine⟨[.int .u8 b.toNat],Lib.strCells ⟨l.toArray⟩,by simp[Lib.strCells],rfl,rfl, ?_⟩
  assumption
theorem anm (hT:TOk P T) (A:c.Ok W0) {cl:Bool} {dst:Option Tmp} {ty:TypeId} {pos:String} {after:Array Edge} {guard:Option (Nat×Bool)} {st:St} {a:Act} {K:cO->St->Option R} {args:Array Operand} {t t':TypeId} {s x:cO} (M:c.hp=st.hp) (Z:c.nxt=st.nxt) (ab:bW c st.fr a.tmps.toList)
  (B:args.toList.map (iM st.fr)=[s,x]) (h:CP T cl dst t t' s x st K=a6 r):Jo P W0 c st ⟨dst,.call {callee:=.builtin .append,args:=args,argTypes:=[t,t'].toArray},ty,pos,after,guard⟩ a K r:=by
 obtain⟨al⟩:=args
 match al,B with
 |[D,N],B=>
  simp only[ay,aV,List.cons.injEq,and_true]at B;obtain⟨rfl,rfl⟩:=B;have m:=eu ab D;have I:=eu ab N;have aI: ∀w,(execOp a.eval ⟨dst,.call {callee:=.builtin .append,args:=[D,N].toArray,argTypes:=[t,t'].toArray},ty,pos,after,guard⟩).run P w=
    ((Builtin.append_ #[t,t'] ty #[a.eval D,a.eval N]).run P w).andThen fun v J=>.ok (.value v) J:=fun w=>by
   simp[execOp,resolve,invoke,builtin,Sem.run_bind]
  unfold CP at h;split at h
  .rename_i d y an ao
   rw[ao]at I;simp only[dh]at I;have I:=I.str_inv;split at h
   .rename_i he
    replace h:=dQ h;obtain⟨hc,h⟩:=h;simp only[ah]at hc;obtain⟨⟨au,av⟩,ad⟩:=hc;have ag:=H5 hT au;obtain⟨hu,hk,aJ,aK,aO⟩:=tu hT an av;have ad:(T.at d).bytes=1:=ax ad;obtain⟨i,z,O,aP,aS,hz,aU,aW⟩:=hT.info hk;have S:d=rH:=hT.byte hk he;have ai:i.zero=a6 (.int .u8 0):=by
     rcases(hT d hk).2.2.1 with q|q
     .simp_all
     .rw[he]at q;have aw:(T.at d).k=.int .u8:=by
       cases hkq:(T.at d).k with
       |int k=>simp_all [oh]
       |struct fs=>
        rw[hkq]at q;simp only[oh]at q;cases fs with
        |nil=>simp[lF]at q
        |cons f l=>
         grind [lF]
       |slice e'=>
        rw[hkq]at q;simp only[oh]at q;cases hq:(T.at e').ty<;>rw[hq]at q<;>simp at q
       |bool=>rw[hkq]at q;cases q
       |str=>rw[hkq]at q;cases q
       |other=>rw[hkq]at q;cases q
       |fn=>rw[hkq]at q;cases q
       |ptr e'=>rw[hkq]at q;cases q
       |map _ _=>rw[hkq]at q;cases q
      exact hT.zero_byte hk aw O
    cases hsv:iM st.fr D with
    |nils=>
     rw[hsv]at h m;simp only at h;simp only[dh]at m;obtain⟨j,h⟩:=gY h;have j:y.length<=140737488355328:=of_decide_eq_true j;obtain⟨v',J,hr,p,g,aj,U⟩:=Sl (ty:=ty) hu ag O ai (by omega) (by omega) (World.ownsRow_nil c.w c.w.heap.size d 1) ⟨y.toArray⟩ (by show 0+y.toArray.size<=_;simpa using j) (af _);obtain⟨id,n',f1,f2,f3,f4⟩:=jY h;have az:Below c.w.heap.size c.w J:=⟨g.os,g.tape,g.output,g.size,fun k hk=>g.block k hk (by simp[Value.ownBlock])⟩;have aA:0+(⟨y.toArray⟩:ByteArray).size=(dR y).length:=by show 0+y.toArray.size=_;simp[dR]
     rw[aQ,aA]at p;obtain⟨V,W,d2,X⟩:=uu A M Z f1 f2 f3 (y:=.int .u8) (by simp[Ty.size]) az d _ p (Nr y) U (fun _=>S);exact⟨_,_,V,_,f4,W,X,.inl (by simp_all)⟩
    |slc id ver vw=>
     rw[hsv]at h m;simp only at h;split at h
     .rename_i u xs L
      rw[<-M]at L;replace h:=dQ h;obtain⟨Y,h⟩:=h;have Y:u=ver:=by simpa using Y
      subst Y;split at h
      .replace h:=gY h;obtain⟨j,h⟩:=h;have j:=CW j;simp only[dh]at m;have aB:=(m.2.2 _ _ _ L).2 rfl;simp only[jU]at aB;obtain⟨_,e0,zs,ak,hL,aF⟩:=A.obj id _ L;have aG:e0=d:=(aF rfl).trans S.symm;subst aG;have aH:(⟨y.toArray⟩:ByteArray).size=(dR y).length:=by show y.toArray.size=_;simp[dR]
       obtain⟨v',J,hr,p,g,aj,U⟩:=Sl (ty:=ty) hu ag O ai (by omega) (by omega) ak ⟨y.toArray⟩ (by simp_all) A.size;rw[aH,<-ae]at p;obtain⟨V,W,d2,X⟩:=akU A M Z (e:=.int .u8) (by simp[Ty.size]) L p (gV.append _ _ _ _ hL (Nr y)) g (fun b hb=>(World.ownsRow.lt ak b hb).1) aj U (fun _=>S);exact⟨_,_,V,_,h,W,X,.inl (by simp_all)⟩
      .cases h
     .cases h
    |_=>rw[hsv]at h;cases h
   .cases h
  .cases h
theorem asf (hT:TOk P T) (D:c.Ok W0) {cl:Bool} {call:gZ R} {o:Oper} {st:St} {a:Act} {K:cO->St->Option R} {args:Array Operand} {ts:Array TypeId} (I:c.hp=st.hp) (W:c.nxt=st.nxt) (aI:bW c st.fr a.tmps.toList)
  (ho:o.op=.call {callee:=.builtin .append,args:=args,argTypes:=ts}) (h:fH T cl call o st K=a6 r):Jo P W0 c st o a K r:=by
 obtain⟨aW,op,U,aX,aY,aZ⟩:=o;simp only at ho;subst ho;simp only[fH,mF]at h;split at h<;>try (cases h;done)
 all_goals try (rename_i hb _;cases hb;done)
 rename_i s x hb ad
 split at h<;>try (cases h;done)
 rename_i t t' aJ
 obtain⟨ts⟩:=ts;simp only at aJ;subst aJ;rw[cond_eq_ite]at h;split at h
 rotate_left
 .grind [anm]
 rename_i aj
 have aj:t=t':=by simpa using aj
 subst aj;obtain⟨al⟩:=args
 match al,ad with
 |[s0,x0],ad=>
  simp only[ay,aV,List.cons.injEq,and_true]at ad;obtain⟨rfl,rfl⟩:=ad;have f:=eu aI s0;have hx:=eu aI x0;have aK: ∀w,(execOp a.eval ⟨aW,.call {callee:=.builtin .append,args:=[s0,x0].toArray,argTypes:=[t,t].toArray},U,aX,aY,aZ⟩).run P w=
    ((Builtin.append_ #[t,t] U #[a.eval s0,a.eval x0]).run P w).andThen fun v w'=>.ok (.value v) w':=fun w=>by
   simp[execOp,resolve,invoke,builtin,Sem.run_bind]
  unfold KH at h;split at h
  .rename_i et ag
   split at h
   .rename_i e he
    split at h
    .cases h
    .rename_i j aO
     rw[<-I]at aO;obtain⟨a2,m2,ak,aP,l,ai⟩:=acd D aO hx;split at h
     .
      rename_i X
      rw[X]at f;simp only[dh]at f;replace h:=gY h;obtain⟨p,h⟩:=h;simp only[ah]at p;obtain⟨y,hk,d,J,L⟩:=tu hT ag p.1;have Y:=CW p.2;obtain⟨i,z,M,an,ao,hz,au,bb⟩:=hT.info hk;have aw:z.cells.size=e.size:=by
       have:=congrArg List.length au;rw[hT.zlen hk,d]at this;simpa using this
      have az:=gV.length _ _ l;have aA:=gV.one _ _ l;have aS:0+j.length<=maxLen:=by
       have h2:j.length<=j.length*(T.at et).bytes:=bP _ L;simp only[maxLen];omega
      obtain⟨v',w',e1,hr,Z,N,bz,aB,aF⟩:=Sj hT y M hz an ao (by rw[aw,d]) (by omega) (World.ownsRow_nil c.w c.w.heap.size et (T.at et).size) (a:=a2) (cp:=m2) (by rw[d];exact az) aA (ai.imp (fun h=>h) fun⟨b,off,q1,_,q3⟩=>⟨b,off,q1,q3⟩) aS
       (by simp_all) (af _) U
      rw[d,aQ,Nat.zero_add]at Z;obtain⟨id,n',f1,f2,f3,f4⟩:=jY h;have bd:Below c.w.heap.size c.w w':=⟨N.os,N.tape,N.output,N.size,fun k hk=>N.block k hk (by simp[Value.ownBlock])⟩;obtain⟨O,A,d2,S⟩:=uu D I W f1 f2 f3 J bd e1 ak Z l aB (fun q=>(aF.elim (fun q=>q) fun q=>q).trans (hT.byte hk (by rw[he,q])));exact⟨_,_,O,_,f4,A,S,.inl (by simp_all)⟩
     .
      rename_i X
      rw[X]at f;simp only[dh]at f;obtain⟨av,f⟩:=f;replace h:=gY h;obtain⟨p,h⟩:=h;simp only[ah]at p;obtain⟨y,hk,d,J,L⟩:=tu hT ag p.1;have Y:=CW p.2;obtain⟨i,z,M,an,ao,hz,au,bb⟩:=hT.info hk;have aw:z.cells.size=e.size:=by
       have:=congrArg List.length au;rw[hT.zlen hk,d]at this;simpa using this
      have az:=gV.length _ _ l;have aA:=gV.one _ _ l;have aS:0+j.length<=maxLen:=by
       have h2:j.length<=j.length*(T.at et).bytes:=bP _ L;simp only[maxLen];omega
      cases hlt:QN 0 j.length with
      |false=>
       rw[hlt]at h;simp only[ac]at h;have h0:j.length=0:=by simpa [QN] using hlt
       refine⟨.emp,.slice av 0 0,c,st,h,E9.refl D I W,by simp only[dh];exact⟨av,rfl⟩,.inl ?_⟩;rw[aK,f,aP,h0];cases a2<;>cases av<;>simp[Builtin.append_,run_underlying y,sizeOf,typeInfo,M,Builtin.lenOf,Builtin.firstCells,loadCells,loadCellsFrom,storeCells]
      |true=>
       rw[hlt]at h;simp only[aa]at h;have be:0<j.length:=by simpa [QN] using hlt
       have bf:ak≠[]:=by
        grind [Nat.mul_pos]
       obtain⟨b,off,rfl,_,hc⟩:=ai.resolve_left bf;obtain⟨v',w',e1,hr,Z,N,aB,aF⟩:=afO hT y M hz an ao (by rw[aw,d]) (by omega) (w:=c.w) (av:=av) (cp:=m2) (by rw[d];exact az) aA hc be (by omega) Y U;rw[d]at Z;obtain⟨id,n',f1,f2,f3,f4⟩:=jY h;obtain⟨O,A,d2,S⟩:=uu D I W f1 f2 f3 J N e1 ak Z l aB (fun q=>aF.trans (hT.byte hk (by rw[he,q])));exact⟨_,_,O,_,f4,A,S,.inl (by simp_all)⟩
     .
      rename_i id bg vw X
      rw[X]at f;split at h
      .rename_i e' u xs ab
       rw[<-I]at ab;replace h:=dQ h;obtain⟨aG,h⟩:=h;have aG:u=bg:=by simpa using aG
       subst aG;split at h
       .rename_i bC aH
        have bi:=jo aH;cases bi;rw[iw]at aH;cases aH;simp only[dh]at f;have V:=(f.2.2 _ _ _ ab).2 rfl;obtain⟨_,e0,zs,bn,hL,bD⟩:=D.obj id _ ab;obtain⟨g,cp,hv,p,_⟩:=uC bn;split at h
        .replace h:=gY h;obtain⟨B,h⟩:=h;simp only[ah]at B;obtain⟨y,hk,d,J,L⟩:=tu hT ag B.1;have Y:=CW B.2;simp only[jU]at V;rw[hv]at V;obtain⟨O,v',A,d2,S⟩:=Si hT D I W y hk d J L ab hv (af _) V (m:=m2) l ai (by simp_all) U (fun q=>hT.byte hk (by rw[he,q]));rw[List.take_length]at A;exact⟨_,_,O,_,h,A,S,.inl (by simp_all)⟩
        .rename_i lo M
         replace h:=gY h;obtain⟨B,h⟩:=h;simp only[ah,cZ,beq_iff_eq]at B;obtain⟨B,rfl,bt⟩:=B;obtain⟨y,hk,d,J,L⟩:=tu hT ag B;have Y:=CW bt;simp only[jU]at V;obtain⟨g',m',bF,aU,p1,p2,p3,V⟩:=V;rw[hv]at aU;cases aU;have bu:a.eval s0=.slice g M.toNat cp:=by
          simp_all [Addr.add]
         obtain⟨O,v',A,d2,S⟩:=Si hT D I W y hk d J L ab hv (k:=M.toNat) (by omega) bu (m:=m2) l ai Y U (fun q=>hT.byte hk (by rw[he,q]));exact⟨_,_,O,_,h,A,S,.inl (by rw[aK,aP,d2];rfl)⟩
       .cases h
      .cases h
     .cases h
   .cases h
  .cases h
end
end
section
open Option renaming some → a6, none → a7
open Bool renaming and_eq_true → ah, not_eq_true' → bu
open List renaming length_append → ae, append_assoc → ag, map_cons → ay, drop_of_length_le → aO, nil_append → aQ, map_nil → aV, length_nil → aY, take_of_length_le → bD, take_append_of_le_length → bQ
open Nat renaming le_refl → af, eq_of_beq_eq_true → ax, le_trans → aK, add_zero → aW
open Go.RowKit
section
variable {P:Program} {T:TT} {W0:World} {c:Cx} {R:Type} {r:R} {t:TypeId}
theorem Jb {cs vs d:List cO} {off:Nat} (h:putCells cs off vs=a6 d):off+vs.length<=cs.length/\d=cs.take off++vs++cs.drop (off+vs.length):=by
 unfold putCells at h;replace h:=dQ h;simp_all
theorem Qs (hT:TOk P T) (hk:(T.at t).known=true) {w:World} {g o:Nat} {d:Array Value} {e:TypeId} (f:w.heap[g]? =a6 (.cells d e (0,0))) {v:Value} (hl:v.cells.size=(T.at t).size) (i:o+v.cells.size<=d.size)
  (j: ∀u∈v.cells.toList,u.oneCell'=true):
  (Instr.storeAt t (.pointer (a6 ⟨g,o,a7⟩)) v).run P w=.ok () (w.setRow g (d.toList.take o++v.cells.toList++d.toList.drop (o+v.cells.size)).toArray):=by
 have l:=run_storeCells_at P g o e v.cells.toList 0 d w f (by simpa using i) j;simp only[aW,Array.length_toList]at l;simp only[Instr.storeAt,Instr.sureAddr,Sem.run_bind,Sem.run_pure,Result.andThen_ok,storeVar,hT.sizeOf hk w,Sem.run_ite];simp_all
theorem asi (hT:TOk P T) (q:c.Ok W0) {dst:Option Nat} {ty:TypeId} {pos} {after} {guard} {st:St} {a:Act} {K:St->Option R} {x y:Operand} (Y:c.hp=st.hp) (ao:c.nxt=st.nxt) (au:bW c st.fr a.tmps.toList)
  (h:KO T st t (iM st.fr x) (iM st.fr y) K=a6 r): ∃c' av,K av=a6 r/\E9 W0 c st c' av/\(execOp a.eval ⟨dst,.store t x y,ty,pos,after,guard⟩).run P c.w=.ok .skip c'.w:=by
 simp only[KO]at h;split at h
 .cases h
 rename_i l aF
 replace h:=dQ h;obtain⟨hk,h⟩:=h;simp only[ah,beq_iff_eq]at hk;obtain⟨hk,aw⟩:=hk;obtain⟨r1,r2⟩:=NK aF (eu au y);have hl:l.length=(a.eval y).cells.size:=by simpa using bW.length _ _ r1
 have D:=eu au x;have az: ∀w w',(Instr.storeAt t (a.eval x) (a.eval y)).run P w=.ok () w'->(execOp a.eval ⟨dst,.store t x y,ty,pos,after,guard⟩).run P w=.ok .skip w':=fun w w' hw=>by
  simp_all [execOp]
 split at h
 .rename_i id off ad
  rw[ad]at D;split at h
  .rename_i I cs z
   split at h
   .rename_i bf Z
    obtain⟨p1,rfl⟩:=Jb Z;rw[<-Y]at z;simp only[dh]at D;have hv:=D.2.2 _ _ z;obtain⟨hB,us,h3,h4,h5⟩:=q.obj id _ z;have bg:cs.length=us.size:=by simpa using bW.length _ _ h4
    have J:=Qs (o:=off) hT hk h3 (v:=a.eval y) (by rw[<-hl,aw]) (by omega) r2;rw[<-hv]at J;have N:(dZ.box I cs).like (c.mu id) (.box I (cs.take off++l++cs.drop (off+l.length))) (c.mu id):=rfl;have O:c.w.heap.size<=(c.w.setRow (c.mu id).blk (us.toList.take off++(a.eval y).cells.toList++us.toList.drop (off+(a.eval y).cells.size)).toArray).heap.size:=by simp
    have S: ∀b,b<c.w.heap.size->(dZ.box I cs).blk (c.mu id)≠a6 b->(c.w.setRow (c.mu id).blk (us.toList.take off++(a.eval y).cells.toList++us.toList.drop (off+(a.eval y).cells.size)).toArray).heap[b]? =c.w.heap[b]? :=
     fun b _ ai=>setRow_other _ _ _ _ (fun e=>ai (by simp[dZ.blk,e]))
    have U: ∀b,(dZ.box I (cs.take off++l++cs.drop (off+l.length))).blk (c.mu id)=a6 b->(dZ.box I cs).blk (c.mu id)=a6 b\/c.w.heap.size<=b:=fun b A=>.inl A;have V: ∀(b:Nat) (L:Loop),(dZ.box I cs).blk (c.mu id)=a6 b->c.w.heap[b]? =a6 (Obj.loop L)-> ∃L':Loop,(c.w.setRow (c.mu id).blk (us.toList.take off++(a.eval y).cells.toList++us.toList.drop (off+(a.eval y).cells.size)).toArray).heap[b]? =a6 (Obj.loop L'):=fun b L A W=>absurd W ((q.obj id _ z).no_loop (by simp) A);have ab:=Cx.Le.put (w:=c.w.setRow (c.mu id).blk (us.toList.take off++(a.eval y).cells.toList++us.toList.drop (off+(a.eval y).cells.size)).toArray) q z N O S U V;have aj:Below W0.heap.size W0 (c.w.setRow (c.mu id).blk (us.toList.take off++(a.eval y).cells.toList++us.toList.drop (off+(a.eval y).cells.size)).toArray):=
     q.bel.trans ⟨rfl,rfl,rfl,by simp,fun k hk=>setRow_other _ _ _ _ (by omega)⟩
    refine⟨c.put id _ (c.mu id) _,_,h,⟨by simp[Cx.put,Y],ao,rfl,rfl,q.put z N aj O S U V ?_,ab⟩,az _ _ J⟩;refine⟨by simp only[Cx.put,upd_same];exact hB,(us.toList.take off++(a.eval y).cells.toList++us.toList.drop (off+(a.eval y).cells.size)).toArray, ?_, ?_, ?_⟩
    .simp only[Cx.put,upd_same]
     grind [setRow_heap]
    .grind [bW.append,bW.take,bW.drop,bW.le]
    grind
   .cases h
  .cases h
 .rename_i id aG i off ad
  rw[ad]at D;split at h
  .rename_i e u f M
   rw[<-Y]at M;replace h:=dQ h;obtain⟨ak,h⟩:=h;have ak:u=aG:=by simpa using ak
   subst ak;replace h:=dQ h;obtain⟨X,h⟩:=h;have X:i<f.length:=by simpa [QN] using X
   split at h
   .rename_i cs Z
    split at h
    .rename_i x' aH
     simp only[dh]at D;obtain⟨B,n',aI,q1,q2⟩:=(D.2.2 _ _ _ M).2 rfl;obtain⟨aJ,e0,zs,al,W,aP⟩:=q.obj id _ M;rcases al.2 with ⟨e1,e2⟩|⟨g,bi,j,e1,e2,e3,e4,e5,e6,e7⟩
     .omega
     rw[q1]at e1;simp only[Value.slice.injEq,Option.some.injEq,Addr.mk.injEq,and_true]at e1;obtain⟨rfl,rfl,rfl⟩:=e1;obtain⟨d,d1,d2,m,p,d3,d4⟩:=gV.at_ i f zs X W;have aS:f.getD i e.dflt=f[i]:=by simp[List.getD,X]
     rw[aS]at Z;obtain⟨p1,rfl⟩:=Jb Z;have hf:=FD (c:=c) e _ _ d2;have bn:=bW.length _ _ hf;have bz:off+l.length<=d.length:=by omega
     have aU:=bW.append _ _ _ _ (bW.append _ _ _ _ (bW.take off _ _ hf) r1) (bW.drop (off+l.length) _ _ hf);have aA:=qZ aH aU;have aX:=fV.length _ _ _ aA;have an:j.toList=m++d++p++j.toList.drop (f.length*e.size):=by
      grind [List.take_append_drop]
     have z:j.size=f.length*e.size+(j.toList.drop (f.length*e.size)).length:=by
      have h1:=congrArg List.length an;have h2:=congrArg List.length d3;rw[al.1]at h2
      grind
     have aB:=congrArg List.length d3;rw[al.1]at aB;simp only[ae]at aB;have J:=Qs (o:=i*e.size+off) hT hk e3 (v:=a.eval y) (by rw[<-hl,aw]) (by omega) r2;rw[<-q2]at J;have aZ:j.toList.take (i*e.size+off)++(a.eval y).cells.toList++j.toList.drop (i*e.size+off+(a.eval y).cells.size)=m++(d.take off++(a.eval y).cells.toList++d.drop (off+l.length))++p++j.toList.drop (f.length*e.size):=by
      have t1:j.toList.take (i*e.size+off)=m++d.take off:=by
       rw[an,ag,ag,List.take_append,bD (by omega),d4,Nat.add_sub_cancel_left,bQ (by omega)]
      have t2:j.toList.drop (i*e.size+off+(a.eval y).cells.size)=d.drop (off+l.length)++p++j.toList.drop (f.length*e.size):=by
       conv=>lhs;rw[an]
       rw[ag,ag,List.drop_append,aO (by omega),aQ,d4,List.drop_append,List.drop_append];have z1:i*e.size+off+(a.eval y).cells.size-i*e.size=off+l.length:=by omega
       have z2:off+l.length-d.length=0:=by omega
       rw[z1,z2];simp
      rw[t1,t2];simp
     rw[aZ]at J;have bb:=gV.set x' (d.take off++(a.eval y).cells.toList++d.drop (off+l.length)) aX aA i f m d p X (by grind) d4 d1;generalize d.take off++(a.eval y).cells.toList++d.drop (off+l.length)=d' at*;have N:(dZ.arr e u f).like (c.mu id) (.arr e u (jd f i x')) (c.mu id):=⟨af _,fun _=>⟨rfl,rfl⟩⟩;have bd:(dZ.arr e u f).blk (c.mu id)=a6 B:=by simp[dZ.blk,q1,Value.ownBlock]
     have O:c.w.heap.size<=(c.w.setRow B (m++d'++p++j.toList.drop (f.length*e.size)).toArray).heap.size:=by simp
     have S: ∀b,b<c.w.heap.size->(dZ.arr e u f).blk (c.mu id)≠a6 b->(c.w.setRow B (m++d'++p++j.toList.drop (f.length*e.size)).toArray).heap[b]? =c.w.heap[b]? :=
      fun b _ ai=>setRow_other _ _ _ _ (fun e=>ai (by rw[bd,e]))
     have U: ∀b,(dZ.arr e u (jd f i x')).blk (c.mu id)=a6 b->(dZ.arr e u f).blk (c.mu id)=a6 b\/c.w.heap.size<=b:=fun b A=>.inl A;have V: ∀(b:Nat) (L:Loop),(dZ.arr e u f).blk (c.mu id)=a6 b->c.w.heap[b]? =a6 (Obj.loop L)-> ∃L':Loop,(c.w.setRow B (m++d'++p++j.toList.drop (f.length*e.size)).toArray).heap[b]? =a6 (Obj.loop L'):=fun b L A W=>absurd W ((q.obj id _ M).no_loop (by simp) A);have ab:=Cx.Le.put (w:=c.w.setRow B (m++d'++p++j.toList.drop (f.length*e.size)).toArray) q M N O S U V;have aj:Below W0.heap.size W0 (c.w.setRow B (m++d'++p++j.toList.drop (f.length*e.size)).toArray):=
      q.bel.trans ⟨rfl,rfl,rfl,by simp,fun k hk=>setRow_other _ _ _ _ (by omega)⟩
     refine⟨c.put id _ (c.mu id) _,_,h,⟨by simp[Cx.put,Y],ao,rfl,rfl,q.put M N aj O S U V ?_,ab⟩,az _ _ J⟩;refine⟨aJ,e0,m++d'++p, ?_,gV.mono (fV.mono ab.free e) _ _ bb,aP⟩;have be:(m++d'++p).length=f.length*e.size:=by
      grind
     simp only[Cx.put,upd_same,jd,List.length_set];refine⟨be,.inr ⟨B,aI,_,q1,e2,setRow_heap c.w _ j _ e0 _ e3,e4,e5, ?_, ?_⟩⟩
     all_goals grind
    .cases h
   .cases h
  .cases h
 .cases h
theorem Ja {w:World} {B:Nat} {e:TypeId} {size n:Nat} {v d:Value} {i:List Value} (h:w.ownsRow B e size v n i) {hi:Int} (J:0<=hi) (K:hi<=n) (x:jU size v (a6 (0,hi)) d):
  w.ownsRow B e size d hi.toNat (i.take (hi.toNat*size))/\ ∀b,d.ownBlock=a6 b->v.ownBlock=a6 b:=by
 obtain⟨a,m,cp,j,_,_,L,y⟩:=x;have hk:hi.toNat<=n:=by omega
 have u:(i.take (hi.toNat*size)).length=hi.toNat*size:=by
  rw[List.length_take,h.1];simp_all
 rcases h.2 with ⟨f,l⟩|⟨g,M,z,f,l,A,N,D,I,O⟩
 .rw[j]at f;cases f;subst l;have:hi.toNat=0:=by omega
  have p:d=.slice a7 0 0:=by rw[y,this];rfl
  subst p;refine⟨⟨u,.inl ⟨rfl,this⟩⟩,fun b q=>by cases q⟩
 .rw[j]at f;cases f;have p:d=.slice (a6 ⟨g,0,a7⟩) hi.toNat cp:=by
   grind [Addr.add]
  subst p;subst j;refine⟨⟨u,.inr ⟨g,cp,z,rfl,l,A,by omega,D,I, ?_⟩⟩,fun b q=>q⟩
  grind
theorem awN {st:St} {c':Cx} {l:St} (hd:E9 W0 c st c' l) {id off i:Nat} {m:TypeId} {cs:List cO} {e:Ty} {w:Nat} {xs:List e.den} {hi:Int} (an:id≠i)
  (x:ed l.hp id=a6 (.box m cs)) (g:ed l.hp i=a6 (.arr e w xs)) (ao:cs.getD off .undef=.slc i w (a6 (0,hi))):
  ∃y,E9 W0 c st y {l with hp:=jW (jW l.hp i (.arr e (w+1) (xs.take hi.toNat))) id (.box m (cs.set off (.slc i (w+1) a7)))}/\y.w=c'.w:=by
 have p:=hd.ok;rw[<-hd.hp]at x g;obtain⟨hB,us,h3,z,N⟩:=p.obj id _ x;have au:cs.length=us.toList.length:=bW.length _ _ z;have av:off<cs.length:=by
  grind
 have aw:off<us.toList.length:=by omega
 have O:dh c' (.slc i w (a6 (0,hi))) us.toList[off]:=by
  have:=bW.getD z off;simp_all
 obtain⟨S,U,V,A,d,W⟩:=p.obj i _ g;have q:=O;simp only[dh]at q;have B:=(q.2.2 _ _ _ g).2 rfl;have⟨X,Y⟩:0<=hi/\hi<=bV xs:=by
  obtain⟨a1,n1,f,D,_,Z,p3,_⟩:=B;obtain⟨a2,c2,e2,_⟩:=uC A;rw[e2]at D;cases D;exact⟨Z,p3⟩
 obtain⟨az,I⟩:=Ja A X Y B;have hk:(dZ.arr e w xs).like (c'.mu i) (.arr e (w+1) (xs.take hi.toNat)) ⟨(c'.mu i).blk,us.toList[off]⟩:=⟨by omega,fun e=>by omega⟩;have J:=Cx.Le.put (w:=c'.w) p g hk (af _) (fun _ _ _=>rfl) (fun b j=>.inl (I b j)) (fun b L _ d=>⟨L,d⟩);have u:=Cx.Ok.put (w:=c'.w) p g hk p.bel (af _) (fun _ _ _=>rfl) (fun b j=>.inl (I b j)) (fun b L _ d=>⟨L,d⟩) (by
  refine⟨S,U,V.take (hi.toNat*e.size), ?_,gV.take _ _ _ (gV.mono (fV.mono J.free e) _ _ d),W⟩;simp_all [bV,Cx.put,upd_same])
 have aA:dh (c'.put i (dZ.arr e (w+1) (List.take hi.toNat xs)) ⟨(c'.mu i).blk,us.toList[off]⟩ c'.w) (.slc i (w+1) a7) us.toList[off]:=by
  simp only[dh];refine⟨q.1,.inl ⟨_,Cx.put_get g⟩,fun t' u' aB ab=> ?_⟩;rw[Cx.put_get g]at ab;simp_all [jU,Cx.put,upd_same]
 have K:ed (c'.put i (dZ.arr e (w+1) (List.take hi.toNat xs)) ⟨(c'.mu i).blk,us.toList[off]⟩ c'.w).hp id=a6 (.box m cs):=by
  simp only[Cx.put,kF]
  grind
 have aF:(c'.put i (dZ.arr e (w+1) (List.take hi.toNat xs)) ⟨(c'.mu i).blk,us.toList[off]⟩ c'.w).mu id=c'.mu id:=by
  simp_all [Cx.put,upd_ne]
 generalize v:c'.put i (dZ.arr e (w+1) (List.take hi.toNat xs)) ⟨(c'.mu i).blk,us.toList[off]⟩ c'.w=f at*;have ad:f.w=c'.w:=by rw[<-v];rfl
 have ai:f.hp=jW c'.hp i (.arr e (w+1) (xs.take hi.toNat)):=by rw[<-v];rfl
 have aj:f.nxt=c'.nxt:=by rw[<-v];rfl
 have M:(dZ.box m cs).like (f.mu id) (.box m (cs.set off (.slc i (w+1) a7))) (f.mu id):=rfl;have ak:=Cx.Le.put (w:=f.w) u K M (af _) (fun _ _ _=>rfl) (fun b j=>.inl j) (fun b L _ d=>⟨L,d⟩);have al:=Cx.Ok.put (w:=f.w) u K M u.bel (af _) (fun _ _ _=>rfl) (fun b j=>.inl j) (fun b L _ d=>⟨L,d⟩) (by
  refine⟨by simp_all [Cx.put,upd_same],us,by simp_all [Cx.put,upd_same], ?_,N⟩
  grind [bW.le,bW.setL])
 refine⟨_,⟨?_, ?_,hd.fr,hd.stk,al,(hd.le.trans J).trans ak⟩,ad⟩
 .simp only[Cx.put];rw[ai,hd.hp]
 .show f.nxt=l.nxt;rw[aj,hd.nxt]
theorem am0 {g:iD} {st:St} {x y:cO} {K:St->Option R} {c':Cx} {f:St} (hd:E9 W0 c st c' f) (h:adq g f x y K=a6 r): ∃d e,K e=a6 r/\E9 W0 c st d e/\d.w=c'.w:=by
 have same:K f=a6 r-> ∃d e,K e=a6 r/\E9 W0 c st d e/\d.w=c'.w:=fun h=>⟨c',f,h,hd,rfl⟩;unfold adq at h;split at h
 .split at h
  .split at h
   .rw[cond_eq_ite]at h;split at h
    .rename_i i
     simp only[ah,bu]at i;split at h
     .rename_i l m
      split at h
      .rename_i p
       rw[cond_eq_ite]at h;split at h
       .rename_i j
        simp only[ah,beq_iff_eq]at j
        grind [ax,awN]
       .exact same h
      .exact same h
     .exact same h
    .exact same h
   .exact same h
  .exact same h
 .exact same h
theorem axD (hT:TOk P T) (l:c.Ok W0) {cl:Bool} {call:gZ R} {o:Oper} {st:St} {a:Act} {K:cO->St->Option R} {x y:Operand} (m:c.hp=st.hp) (p:c.nxt=st.nxt) (q:bW c st.fr a.tmps.toList)
  (d:o.op=.store t x y) (h:fH T cl call o st K=a6 r):Jo P W0 c st o a K r:=by
 obtain⟨e,J,f,g,i,j⟩:=o;simp only at d;subst d;simp only[fH]at h;obtain⟨L,M,u,hd,v⟩:=asi (dst:=e) (ty:=f) (pos:=g) (after:=i) (guard:=j) hT l m p q h;obtain⟨z,A,B,D,I⟩:=am0 hd u;exact⟨_,undef,z,A,B,D,by simp[dh],.inr ⟨by rw[I];exact v,rfl⟩⟩
theorem Xb (w:World) (t d ty:TypeId) (B size n:Nat) (v:Value) (e:List Value) (e0:TypeId) (h:w.ownsRow B e0 size v n e) (f:P.underlying ty=a6 (.pointer d)):
  ∃u w',(Builtin.unsafeSliceData_ #[t] ty #[v]).run P w=.ok u w'/\Below w.heap.size w w'/\u.oneCell'=true/\(∃p,u=.pointer p)/\ ∀a m cp,v=.slice a m cp->m≠0->u=.pointer a:=by
 rcases h.2 with ⟨rfl,rfl⟩|⟨g,i,j,rfl,_,l,x,_⟩
 .exact⟨_,w,Lib.run_unsafeSliceData_nil w _ _ 0 0,Below.refl _ _,rfl,⟨_,rfl⟩,fun a m cp h q=>by simp_all⟩
 .by_cases hc:i=0
  .subst hc;refine⟨_,_,Lib.run_unsafeSliceData_zero w _ _ d f ⟨g,0,a7⟩ n (e0,j.size) (by simp[World.shape?,l]),qw _ _,rfl,⟨_,rfl⟩,fun a m cp h q=> ?_⟩;cases h;omega
  .exact⟨_,w,Lib.run_unsafeSliceData_row w _ _ _ _ _ hc,Below.refl _ _,rfl,⟨_,rfl⟩,fun a m cp h _=>by cases h;rfl⟩
theorem aee (hT:TOk P T) (q:c.Ok W0) {cl:Bool} {call:gZ R} {o:Oper} {st:St} {a:Act} {K:cO->St->Option R} {args:Array Operand} {i:Array TypeId} (x:c.hp=st.hp) (J:c.nxt=st.nxt) (L:bW c st.fr a.tmps.toList)
  (y:o.op=.call {callee:=.builtin .unsafeSliceData,args:=args,argTypes:=i}) (h:fH T cl call o st K=a6 r):Jo P W0 c st o a K r:=by
 obtain⟨M,op,j,N,O,S⟩:=o;simp only at y;subst y;simp only[fH,mF]at h;split at h<;>try (cases h;done)
 all_goals try (rename_i z _;cases z;done)
 rename_i id ak z f
 split at h<;>try (cases h;done)
 rename_i t A
 split at h<;>try (cases h;done)
 rename_i e v U d
 rw[cond_eq_ite]at h;split at h
 .rename_i B
  simp only[ah,beq_iff_eq]at B;obtain⟨rfl,an,V⟩:=B;obtain⟨i⟩:=i;simp only at A;subst A;obtain⟨W⟩:=args
  match W with
  |[]=>simp at f
  |_::_::_=>simp at f
  |[l]=>
   simp only[ay,aV,List.cons.injEq,and_true]at f;have m:=eu L l;rw[f]at m;simp only[dh]at m;rw[<-x]at d;have D:=(m.2.2 _ _ _ d).2 rfl;simp only[jU]at D;obtain⟨_,X,Y,Z,hL,ao⟩:=q.obj id _ d;obtain⟨et,ab⟩:=hT.isPtr V;obtain⟨u,p,hr,I,ad,hp,ai⟩:=Xb c.w t et j W0.heap.size e.size U.length (c.mu id).v Y X Z ab;refine⟨_,u,c.at_ p,st,h,⟨x,J,rfl,rfl,q.ext I,Cx.Le.ext I⟩, ?_,.inl ?_⟩
   .simp only[dh];refine⟨ad,.inl ⟨_,d⟩,fun t' u' aj g=> ?_⟩;have g:ed c.hp id=a6 (.arr t' u' aj):=g;rw[d]at g;cases g;exact⟨af _,fun _=>⟨hp,ai⟩⟩
   .have:(execOp a.eval ⟨M,.call {callee:=.builtin .unsafeSliceData,args:=[l].toArray,argTypes:=[t].toArray},j,N,O,S⟩).run P c.w=
      ((Builtin.unsafeSliceData_ #[t] j #[a.eval l]).run P c.w).andThen fun v p=>.ok (.value v) p:=by
     simp[execOp,resolve,invoke,builtin,Sem.run_bind]
    rw[this,D,hr];rfl
 .cases h
theorem awd {w:World} {fr:Nat->Prop} (xs:List Int) (d:List Value) (h:gV (fV w fr (.int .u8)) 1 xs d):d=xs.map (.int .u8):=Eb xs d h
theorem MV (w:World): ∀(xs:List Int) (a:Addr) (d:ByteArray),(∀j x,xs[j]? =a6 x->w.cell? (a.add j)=a6 (.int .u8 x))->(loadBytes a d xs.length).run P w=.ok (xs.foldl (fun r n=>r.push (UInt8.ofNat n.toNat)) d) w
 |[],a,d,_=>by simp[loadBytes]
 |x::xs,a,d,h=>by
  have f:w.cell? a=a6 (.int .u8 x):=by
   have:=h 0 x rfl
   assumption
  have g:=MV w xs (a.add 1) (d.push (UInt8.ofNat x.toNat)) fun j y e=>by
   have:=h (j+1) y (by simpa using e)
   grind [Addr.add]
  simp_all [loadBytes]
theorem Vz {d it ty e:TypeId} (hp:P.underlying d=a6 (.pointer e)) (i:P.cellsOf e=1) (w:World) (g cells:Nat) (l:w.shape? g=a6 (e,cells)) (xs:List Int) (m:xs≠[]) (I:xs.length<=cells) (J:xs.length<=9223372036854775807)
  (p: ∀j x,xs[j]? =a6 x->w.cell? ((⟨g,0,a7⟩:Addr).add j)=a6 (.int .u8 x)):
  (Builtin.unsafeString_ #[d,it] ty #[.pointer (a6 ⟨g,0,a7⟩),.int .i64 xs.length]).run P w=.ok (.string ⟨(ofBytes xs).toArray⟩) (w.freeze ⟨g,0,a7⟩ xs.length):=by
 have q:xs.length≠0:=by simpa using m
 have u:=MV (P:=P) w xs ⟨g,0,a7⟩ .empty p;have v:=Lib.liesAt_bytes (P:=P) i (cells/P.cellsOf e) xs.length (by simp_all);have y: ¬(9223372036854775807:Int)<(xs.length:Int):=by omega
 have z:Builtin.unsafeString_ #[d,it] ty #[.pointer (a6 ⟨g,0,a7⟩),.int .i64 xs.length]=
   (do
    let n<-asInt (.int .i64 xs.length)
    if n<0 then runtimePanic (.error "unsafe.String: len out of range")
    if n>IntKind.i64.max then unsupported (.unsafePointer "String: a length above the largest int")
    if n=0 then pure (.string .empty)
    else if<-variablesAt ⟨g,0,a7⟩ (<-elemOf d) n.toNat then do
     let s<-loadBytes ⟨g,0,a7⟩ .empty n.toNat
     freeze ⟨g,0,a7⟩ n.toNat
     pure (.string s)
    else unsupported (.unsafePointer "String: not so many bytes at ptr")):=rfl
 rw[z];have A:IntKind.i64.max=9223372036854775807:=rfl;have B: ¬(xs.length:Int)<0:=by omega
 have f:=Oc xs [];have D:(⟨([]:List UInt8).toArray⟩:ByteArray)=.empty:=rfl;rw[D]at f;simp[asInt,asIntOf,A,y,B,q,variablesAt,l,elemOf,run_underlying hp,v,u];exact f
theorem aeb (d:c.Ok W0) {st:St} (y:c.hp=st.hp) (z:c.nxt=st.nxt) {id f:Nat} {e:Ty} {xs:List e.den} (i:ed c.hp id=a6 (.arr e f xs)) {w':World} (j:c.w.heap.size<=w'.heap.size)
  (m: ∀b,(c.mu id).v.ownBlock≠a6 b->w'.heap[b]? =c.w.heap[b]?) (l:w'.os=c.w.os/\w'.tape=c.w.tape/\w'.output=c.w.output):
  ∃c',E9 W0 c st c' {st with hp:=jW st.hp id .dead}/\c'.w=w':=by
 have p:(dZ.arr e f xs).like (c.mu id) .dead (c.mu id):=trivial;have q: ∀(b:Nat) (L:Loop),(dZ.arr e f xs).blk (c.mu id)=a6 b->c.w.heap[b]? =a6 (Obj.loop L)-> ∃A:Loop,w'.heap[b]? =a6 (Obj.loop A):=fun b L g B=>absurd B ((d.obj id _ i).no_loop (by simp) g);have u: ∀b,dZ.dead.blk (c.mu id)=a6 b->(dZ.arr e f xs).blk (c.mu id)=a6 b\/c.w.heap.size<=b:=fun b g=>by cases g
 have x: ∀b,b<c.w.heap.size->(dZ.arr e f xs).blk (c.mu id)≠a6 b->w'.heap[b]? =c.w.heap[b]? :=fun b _ D=>m b D;have I:Below W0.heap.size W0 w':=by
  refine⟨l.1.trans d.bel.os,l.2.1.trans d.bel.tape,l.2.2.trans d.bel.output,aK d.bel.size j,fun b g=>(m b fun h=> ?_).trans (d.bel.block b g)⟩;have:=((d.obj id _ i).lt (b:=b) h).1;omega
 have J:=Cx.Le.put (w:=w') d i p j x u q;exact⟨c.put id .dead (c.mu id) w',⟨by simp[Cx.put,y],z,rfl,rfl,d.put i p I j x u q trivial,J⟩,rfl⟩
theorem Uu (hT:TOk P T) (z:c.Ok W0) {cl:Bool} {call:gZ R} {o:Oper} {st:St} {a:Act} {K:cO->St->Option R} {args:Array Operand} {A:Array TypeId} (B:c.hp=st.hp) (X:c.nxt=st.nxt) (Y:bW c st.fr a.tmps.toList)
  (Z:o.op=.call {callee:=.builtin .unsafeString,args:=args,argTypes:=A}) (h:fH T cl call o st K=a6 r):Jo P W0 c st o a K r:=by
 obtain⟨an,op,l,ao,au,av⟩:=o;simp only at Z;subst Z;simp only[fH,mF]at h;split at h<;>try (cases h;done)
 all_goals try (rename_i y _;cases y;done)
 rename_i id aX n y f
 split at h<;>try (cases h;done)
 rename_i D m ab
 split at h<;>try (cases h;done)
 rename_i v d q
 rw[cond_eq_ite]at h;split at h
 .rename_i hc
  simp only[ah,beq_iff_eq]at hc;obtain⟨rfl,aw⟩:=hc;replace h:=gY h;obtain⟨I,h⟩:=h;have I:n=(d.length:Int):=by simpa [cZ,bV] using I
  subst I;obtain⟨A⟩:=A;simp only at ab;subst ab;obtain⟨al⟩:=args
  match al with
  |[]=>simp at f
  |[_]=>simp at f
  |_::_::_::_=>simp at f
  |[J,L]=>
   simp only[ay,aV,List.cons.injEq,and_true]at f;have M:=eu Y J;have i:=eu Y L;rw[f.1]at M;rw[f.2]at i;simp only[dh]at M i;have i:=i.int_inv;rw[<-B]at q;obtain⟨hp,az⟩:=(M.2.2 _ _ _ q).2 rfl;obtain⟨_,e0,zs,ad,hL,N⟩:=z.obj id _ q;have N:=N rfl;obtain⟨aA,aB⟩:=hT.isBytes aw;have ai:(execOp a.eval ⟨an,.call {callee:=.builtin .unsafeString,args:=[J,L].toArray,argTypes:=[D,m].toArray},l,ao,au,av⟩).run P c.w=
     ((Builtin.unsafeString_ #[D,m] l #[a.eval J,a.eval L]).run P c.w).andThen fun v O=>.ok (.value v) O:=by
    simp[execOp,resolve,invoke,builtin,Sem.run_bind]
   have aF:zs=d.map (.int .u8):=Eb d zs hL;by_cases hx:d=[]
   .subst hx;obtain⟨p,hp⟩:=hp;obtain⟨S,U,V⟩:=aeb z B X q (w':=c.w) (af _) (fun _ _=>rfl) ⟨rfl,rfl,rfl⟩;refine⟨_,.string .empty,S,_,h,U, ?_,.inl ?_⟩
    .simp only[dh];exact VD.str_mk
    .rw[ai,hp,i];have:=Lib.run_unsafeString_none (P:=P) c.w D m l p;simp only[aY,Int.natCast_zero]at this ⊢;rw[this,V];rfl
   .have u:d.length≠0:=by simpa using hx
    rcases ad.2 with ⟨_,h0⟩|⟨g,aG,aj,W,aZ,hg,bb,aH,ak,bd⟩
    .exact absurd h0 u
    .have hp:=az _ _ _ W u;have aI: ∀b,(c.mu id).v.ownBlock≠a6 b->(c.w.freeze ⟨g,0,a7⟩ d.length).heap[b]? =c.w.heap[b]? :=fun b y=>by
      have aJ:g≠b:=fun e=>y (by rw[W,<-e];rfl);unfold World.freeze;rw[aq u];simp only[Array.getElem?_modify];rw[aq aJ]
     have aP:(c.w.freeze ⟨g,0,a7⟩ d.length).heap.size=c.w.heap.size:=by
      unfold World.freeze;rw[aq u];simp
     have aS:(c.w.freeze ⟨g,0,a7⟩ d.length).os=c.w.os/\(c.w.freeze ⟨g,0,a7⟩ d.length).tape=c.w.tape/\(c.w.freeze ⟨g,0,a7⟩ d.length).output=c.w.output:=by
      unfold World.freeze;rw[aq u];exact⟨rfl,rfl,rfl⟩
     obtain⟨S,U,V⟩:=aeb z B X q (w':=c.w.freeze ⟨g,0,a7⟩ d.length) (Nat.le_of_eq aP.symm) aI aS;refine⟨_,.string ⟨(ofBytes d).toArray⟩,S,_,h,U, ?_,.inl ?_⟩
     .simp only[dh];exact VD.str_mk
     .rw[ai,hp,i];have aU: ∀j x,d[j]? =a6 x->c.w.cell? ((⟨g,0,a7⟩:Addr).add j)=a6 (.int .u8 x):=fun j x hj=>by
       have:=ad.cells (g:=g) (by rw[W];rfl) j (.int .u8 x) (by rw[aF];simp[hj]);exact this
      have ak:aj.size=aG:=by simpa [Ty.size] using ak
      rw[Vz (ty:=l) (it:=m) aA aB c.w g aj.size (by rw[<-N];simp[World.shape?,hg]) d hx (by omega) (by unfold maxLen at aH;omega) aU,V];rfl
 .cases h
end
end
section
open Option renaming some → a6, none → a7
open Bool renaming and_eq_true → ah
open List renaming map_cons → ay, cons_append → bz
open Go.RowKit
theorem TV {d l:IntKind} {a:Int}: ∀(f:List MapEntry) (g:List (Int×Int)) (i:Nat),f.map (fun e=>(e.key,e.val))=g.map (fun p=>(Value.int d p.1,Value.int l p.2))->
  (F6 g a=a7/\Instr.findNow (.int d) (.int d a) f i=a6 a7/\ ∀b cl,(f++[(⟨.int d a,.int l b,cl⟩:MapEntry)]).map (fun e=>(e.key,e.val))=(xx g a b).map (fun p=>(Value.int d p.1,Value.int l p.2)))\/
  ∃v j,F6 g a=a6 v/\Instr.findNow (.int d) (.int d a) f i=a6 (a6 (i+j,.int l v))/\(∃e0,f[j]? =a6 e0/\e0.key=.int d a)/\
   ∀b,(f.modify j (fun e=>{e with key:=.int d a,val:=.int l b})).map (fun e=>(e.key,e.val))=(xx g a b).map (fun p=>(Value.int d p.1,Value.int l p.2))
 |[],[],i,_=>.inl ⟨rfl,rfl,fun b cl=>rfl⟩
 |[],_::_,_,h=>by simp at h
 |_::_,[],_,h=>by simp at h
 |e::f,(k,v)::g,i,h=>by
  simp only[ay,List.cons.injEq,Prod.mk.injEq]at h;obtain⟨⟨u,y⟩,x⟩:=h;have q:Instr.sameNow (.int d) (.int d a) e.key=a6 (a==k):=by rw[u];simp[Instr.sameNow]
  by_cases hak:a=k
  .subst hak;refine .inr ⟨v,0,by simp[F6,cZ], ?_,⟨e,rfl,u⟩,fun b=> ?_⟩
   .simp[Instr.findNow,q,y]
   .simp[xx,cZ,x]
  .have m:(a==k)=false:=by simpa using hak
   rw[m]at q;rcases TV (a:=a) f g (i+1) x with ⟨g1,g2,g3⟩|⟨z,j,g1,g2,⟨e0,g3,g4⟩,g5⟩
   .refine .inl ⟨by simp[F6,cZ,m,g1],by simp[Instr.findNow,q,g2],fun b cl=> ?_⟩;have:=g3 b cl;simp only[xx,cZ,m,ac,bz,ay,List.cons.injEq,Prod.mk.injEq];simp_all
   .refine .inr ⟨z,j+1,by simp[F6,cZ,m,g1], ?_,⟨e0,by simpa using g3,g4⟩,fun b=> ?_⟩
    .grind [Instr.findNow]
    .have:=g5 b;simp only[xx,cZ,m,ac,List.modify_succ_cons,ay,List.cons.injEq,Prod.mk.injEq];simp_all
section
variable {P:Program} {T:TT} {W0:World} {c:Cx} {R:Type} {r:R} {t:TypeId}
theorem UM (hT:TOk P T) {a b:IntKind} (h:T.mapOf t=a6 (a,b)): ∃k e,P.underlying t=a6 (.map k e)/\P.underlying k=a6 (.int a)/\ ∃i,P.info? e=a6 i/\i.zero=a6 (.int b 0):=by
 unfold TT.mapOf at h;replace h:=dQ h;obtain⟨hk,h⟩:=h;split at h
 .rename_i k e g
  replace h:=dQ h;obtain⟨d,h⟩:=h;simp only[ah]at d;split at h
  .rename_i m p j l
   cases h;obtain⟨i,z,f,_⟩:=hT.info d.2;exact⟨k,e,hT.map hk g,hT.int d.1 j,i,f,hT.zero_int d.2 l f⟩
  .cases h
 .cases h
theorem aC9 (g:c.Ok W0) {st:St} (i:c.hp=st.hp) (h2:c.nxt=st.nxt) {id n':Nat} (m:ed st.hp id=a7) (p:st.nxt<=id) (v:st.nxt<=n') (d e:IntKind):
  ∃c',E9 W0 c st c' {st with hp:=(id,.mp d e [])::st.hp,nxt:=n'}/\c'.w=c.w.alloc (.map #[] 0)/\dh c' (.mpv id) (.map (a6 c.w.heap.size)):=by
 have hk:=Dk i h2 m p;have f:=qw c.w (.map #[] 0);have j: ∀b,dZ.blk (.mp d e []) ⟨c.w.heap.size,undef⟩=a6 b->c.w.heap.size<=b:=fun b f=>by
  simp_all [dZ.blk]
 have q:=Cx.Le.push (o:=.mp d e []) (l:=⟨c.w.heap.size,undef⟩) (nxt:=n') (w:=c.w.alloc (.map #[] 0)) hk (by omega) f.size f.block j;have u:(c.push id (.mp d e []) ⟨c.w.heap.size,undef⟩ n' (c.w.alloc (.map #[] 0))).ORel W0.heap.size id (.mp d e []):=by
  refine⟨by simp[Cx.push,upd_same];exact g.size,#[],0, ?_,rfl⟩;simp only[Cx.push,upd_same];exact heap_alloc_new c.w _
 refine⟨_,⟨?_,rfl,rfl,rfl,g.push hk (by omega) f j u,q⟩,rfl, ?_⟩
 .simp[Cx.push,i]
 .simp only[dh];refine⟨rfl,.inl ⟨.mp d e [],by simp[Cx.push,fF]⟩,fun _ _ _ _=>by simp[Cx.push,upd_same]⟩
theorem ann (hT:TOk P T) (e:c.Ok W0) {cl:Bool} {call:gZ R} {o:Oper} {st:St} {a:Act} {K:cO->St->Option R} {f:Option Operand} (g:c.hp=st.hp) (i:c.nxt=st.nxt) (d:o.op=.makeMap t f)
  (h:fH T cl call o st K=a6 r):Jo P W0 c st o a K r:=by
 obtain⟨y,z,A,B,D,I⟩:=o;simp only at d;subst d;simp only[fH]at h;split at h
 .rename_i j l J
  obtain⟨id,L,m,p,q,u⟩:=jY h;obtain⟨M,v,N,x⟩:=aC9 e g i m p q j l;refine uq (s:=Instr.makeMap t a7) rfl u v x (by simp_all [Instr.makeMap])
 .cases h
theorem ash (hT:TOk P T) (f:c.Ok W0) {cl:Bool} {call:gZ R} {o:Oper} {st:St} {a:Act} {K:cO->St->Option R} {x y:Operand} {ok:Bool} (g:c.hp=st.hp) (q:c.nxt=st.nxt) (z:bW c st.fr a.tmps.toList) (A:o.op=.lookup t x y ok)
  (h:fH T cl call o st K=a6 r):Jo P W0 c st o a K r:=by
 obtain⟨ab,op,ty,ad,ae,af⟩:=o;simp only at A;subst A;simp only[fH]at h;split at h
 .rename_i kk vk id N O
  split at h
  .rename_i ag d S B n l U
   replace h:=dQ h;obtain⟨hk,h⟩:=h;simp only[ah,decide_eq_true_eq]at hk;obtain⟨rfl,rfl,rfl⟩:=hk;obtain⟨kt,V,D,e,i,W,X⟩:=UM hT N;have m:=eu z x;rw[O]at m;simp only[dh]at m;rw[<-g]at l;have I:=m.2.2 _ _ _ l;obtain⟨hB,Y,ai,J,Z⟩:=f.obj id _ l;have p:=eu z y;rw[U]at p;simp only[dh]at p;have L:=p.int_inv;have hz:(zeroValue V).run P c.w=.ok (.int d 0) c.w:=by simp[zeroValue,typeInfo,W,X]
   have M:MapKept.IsKey (.int B) (.int B n):=rfl;rcases TV (a:=n) Y.toList S 0 Z with ⟨g1,g2,_⟩|⟨v,j,g1,g2,_,_⟩
   .simp only[tV,ate,g1]at h;refine uq (s:=Instr.lookup t (a.eval x) (a.eval y) ok) (u:=if ok then .tuple #[.int d 0,.bool false]else .int d 0) rfl h (E9.refl f g q) ?_ ?_
    .cases ok
     .simp_all [dh,VD.int_mk]
     .simp only[aa,dh,if_true];exact⟨_,rfl,by simp_all [bW,dh,VD.int_mk,VD.bool_mk]⟩
    .rw[I,L];simp[Instr.lookup,run_underlying D,MapKept.run_getObj_map J,MapKept.run_checkKey e M,MapKept.run_findKey e g2,hz,Result.andThen]
   .simp only[tV,ate,g1]at h;refine uq (s:=Instr.lookup t (a.eval x) (a.eval y) ok) (u:=if ok then .tuple #[.int d v,.bool true]else .int d v) rfl h (E9.refl f g q) ?_ ?_
    .cases ok
     .simp_all [dh,VD.int_mk]
     .simp only[aa,dh,if_true];exact⟨_,rfl,by simp_all [bW,dh,VD.int_mk,VD.bool_mk]⟩
    .rw[I,L];simp[Instr.lookup,run_underlying D,MapKept.run_getObj_map J,MapKept.run_checkKey e M,MapKept.run_findKey e g2,Result.andThen]
  .cases h
 .cases h
theorem aed (hT:TOk P T) (A:c.Ok W0) {cl:Bool} {call:gZ R} {o:Oper} {st:St} {a:Act} {K:cO->St->Option R} {x y z:Operand} (W:c.hp=st.hp) (ai:c.nxt=st.nxt) (M:bW c st.fr a.tmps.toList) (X:o.op=.mapUpdate t x y z)
  (h:fH T cl call o st K=a6 r):Jo P W0 c st o a K r:=by
 obtain⟨aj,op,ty,ak,al,an⟩:=o;simp only at X;subst X;simp only[fH]at h;split at h
 .rename_i kk vk id hm ao
  split at h
  .rename_i aF aG q f n m b u hn B
   replace h:=dQ h;obtain⟨hk,h⟩:=h;simp only[ah,decide_eq_true_eq]at hk;obtain⟨rfl,rfl,rfl,rfl⟩:=hk;obtain⟨kt,et,Y,I,i,u3,u4⟩:=UM hT hm;have N:=eu M x;rw[ao]at N;simp only[dh]at N;rw[<-W]at u;have hv:=N.2.2 _ _ _ u;obtain⟨hB,J,O,D,h4⟩:=A.obj id _ u;have S:=eu M y;rw[hn]at S;simp only[dh]at S;have au:=S.int_inv;have U:=eu M z;rw[B]at U;simp only[dh]at U;have av:=U.int_inv;have V:MapKept.IsKey (.int f) (.int f n):=rfl;have Z: ∃g l,(Instr.mapUpdate t (a.eval x) (a.eval y) (a.eval z)).run P c.w=.ok () {c.w with heap:=c.w.heap.setIfInBounds (c.mu id).blk (.map g l)}/\g.toList.map (fun e=>(e.key,e.val))=(xx q n b).map (fun p=>(Value.int f p.1,Value.int m p.2)):=by
    rw[hv,au,av];rcases TV (a:=n) J.toList q 0 h4 with ⟨g1,g2,g3⟩|⟨v,j,g1,g2,⟨e0,g3,g4⟩,g5⟩
    .exact⟨J.push ⟨.int f n,.int m b,O⟩,O+1,by
      simp[Instr.mapUpdate,run_underlying Y,MapKept.run_getObj_map D,MapKept.run_checkKey I V,MapKept.run_findKey I g2,MapKept.run_setObj_map _ D,Result.andThen],by
      simp_all⟩
    .have hj:J[j]? =a6 e0:=by simpa using g3
     exact⟨J.modify j (fun e'=>{e' with key:=.int f n,val:=.int m b}),O,by
      simp[Instr.mapUpdate,run_underlying Y,MapKept.run_getObj_map D,MapKept.run_checkKey I V,MapKept.run_findKey I g2,hj,g4,MapKept.run_keyThatStays V,MapKept.run_setObj_map _ D,Result.andThen],by
      simp_all⟩
   obtain⟨g,l,Z,aw⟩:=Z;have ax:(execOp a.eval ⟨aj,.mapUpdate t x y z,ty,ak,al,an⟩).run P c.w=.ok .skip {c.w with heap:=c.w.heap.setIfInBounds (c.mu id).blk (.map g l)}:=by
    simp_all [execOp]
   have jW:=MapKept.heap_set (o':=Obj.map g l) D;have ab:(dZ.mp f m q).like (c.mu id) (.mp f m (xx q n b)) (c.mu id):=rfl;have ad:c.w.heap.size<=({c.w with heap:=c.w.heap.setIfInBounds (c.mu id).blk (.map g l)}:World).heap.size:=by simp
   have ae: ∀d,d<c.w.heap.size->(dZ.mp f m q).blk (c.mu id)≠a6 d->({c.w with heap:=c.w.heap.setIfInBounds (c.mu id).blk (.map g l)}:World).heap[d]? =c.w.heap[d]? :=
    fun d _ az=>jW.2 d (fun e=>az (by simp[dZ.blk,e]))
   have af: ∀d,(dZ.mp f m (xx q n b)).blk (c.mu id)=a6 d->(dZ.mp f m q).blk (c.mu id)=a6 d\/c.w.heap.size<=d:=fun d B=>.inl B;have ag: ∀(d:Nat) (L:Loop),(dZ.mp f m q).blk (c.mu id)=a6 d->c.w.heap[d]? =a6 (Obj.loop L)-> ∃L':Loop,({c.w with heap:=c.w.heap.setIfInBounds (c.mu id).blk (.map g l)}:World).heap[d]? =a6 (Obj.loop L'):=fun d L B hL=>absurd hL ((A.obj id _ u).no_loop (by simp) B);have aA:=Cx.Le.put (w:={c.w with heap:=c.w.heap.setIfInBounds (c.mu id).blk (.map g l)}) A u ab ad ae af ag;have aB:Below W0.heap.size W0 {c.w with heap:=c.w.heap.setIfInBounds (c.mu id).blk (.map g l)}:=
    A.bel.trans ⟨rfl,rfl,rfl,by simp,fun k hk=>jW.2 k (by omega)⟩
   refine⟨_,undef,c.put id _ (c.mu id) _,_,h,⟨by simp[Cx.put,W],ai,rfl,rfl,A.put u ab aB ad ae af ag ?_,aA⟩,by simp[dh],.inr ⟨ax,rfl⟩⟩;refine⟨by simp only[Cx.put,upd_same];exact hB,g,l, ?_,aw⟩;simp_all [Cx.put,upd_same]
  .cases h
 .cases h
end
end
section
open Option renaming some → a6, none → a7
open Nat renaming le_refl → af, le_trans → aK
open Go.RowKit
def FW (rd:Option Nat):Fence:={Fence.wide with round:=rd}
theorem aH1:FW a7=Fence.wide:=rfl
theorem aJd (rd:Option Nat) (f:FuncId):(FW rd).fn f:=trivial
theorem wu (rd:Option Nat) {n:Nat}:(FW rd).depth.isSome=true->1<=n:=fun h=>by simp[FW,Fence.wide]at h
theorem aFs (rd:Option Nat):(FW rd).round=rd:=rfl
theorem aH2 (rd:Option Nat) (n:Nat):(FW rd).room n:=fun _ h=>by simp[FW,Fence.wide]at h
def mkD (r:Nat):Deferred:={target:=.collected r,args:= #[]}
def EX (c:Cx):List (List cO)->List (Array Value)->Prop
 |[],[]=>True
 |f::d,t::e=>bW c f t.toList/\EX c d e
 |_,_=>False
theorem EX.le {c c':Cx} (h:c.Le c'): ∀(e:List (List cO)) (g:List (Array Value)),EX c e g->EX c' e g
 |[],[],_=>trivial
 |f::e,t::g,d=>⟨bW.le h _ _ d.1,EX.le h e g d.2⟩
 |[],_::_,d=>d.elim
 |_::_,[],d=>d.elim
structure Cx.Mono (c c':Cx):Prop where
 mks: ∀r,r∈c.mks->r∈c'.mks
 lp: ∀(b:Nat) (L:Loop),c.w.heap[b]? =a6 (Obj.loop L)-> ∃L':Loop,c'.w.heap[b]? =a6 (Obj.loop L')
 size:c.w.heap.size<=c'.w.heap.size
 bar:c'.bar=c.bar
 out: ∀b,c.out b->c'.out b/\c'.w.heap[b]? =c.w.heap[b]?
theorem Cx.Le.mono {c c':Cx} (h:c.Le c'):c.Mono c':=⟨h.mks,h.lp,h.size,h.bar,h.out⟩
theorem Cx.Mono.refl (c:Cx):c.Mono c:=⟨fun _ h=>h,fun b L h=>⟨L,h⟩,af _,rfl,fun _ h=>⟨h,rfl⟩⟩
theorem Cx.Mono.trans {a b c:Cx} (h:a.Mono b) (k:b.Mono c):a.Mono c:=
 ⟨fun r e=>k.mks r (h.mks r e),fun b L f=>let⟨g,i⟩:=h.lp b L f;k.lp b g i,aK h.size k.size,k.bar.trans h.bar,fun x d=>⟨(k.out x (h.out x d).1).1,(k.out x (h.out x d).1).2.trans (h.out x d).2⟩⟩
structure jG (W0:World) (b0:Nat) (rd:Option Nat) (c:Cx) (st:St) (a:Act) (ats:List (Array Value)):Prop where
 hp:c.hp=st.hp
 nxt:c.nxt=st.nxt
 ok:c.Ok W0
 fr:bW c st.fr a.tmps.toList
 stk:EX c st.stk ats
 df: ∃ds:List Nat,a.defers=ds.map mkD/\ds.Nodup/\ ∀r∈ds,r∈c.mks/\b0<=r
 rd: ∀l,rd=a6 l-> ∃L:Loop,c.w.heap[l]? =a6 (Obj.loop L)
section
variable {P:Program} {T:TT} {W0:World} {b0 n:Nat} {rd:Option Nat} {c:Cx} {R:Type} {r:R} {st:St} {a:Act} {ats:List (Array Value)}
theorem atN (a:Act) (dst:Option Nat) (v:Value) (fr:List cO) (z:cO) (h:bW c fr a.tmps.toList) (e:dh c z v):bW c (match dst with|some d=>fr.set d z|none=>fr) (a.put dst v).tmps.toList:=by
 grind [Act.put,bW.set]
theorem aDL (st:St) (dst:Option Nat) (z:cO):(st.put dst z).fr=(match dst with|some d=>st.fr.set d z|none=>st.fr)/\(st.put dst z).hp=st.hp/\(st.put dst z).nxt=st.nxt/\(st.put dst z).stk=st.stk:=by
 cases dst<;>exact⟨rfl,rfl,rfl,rfl⟩
theorem put_defers (a:Act) (dst:Option Nat) (v:Value):(a.put dst v).defers=a.defers:=by cases dst<;>rfl
theorem jG.put (h:jG W0 b0 rd c st a ats) {dst:Option Nat} {z:cO} {v:Value} (d:dh c z v):jG W0 b0 rd c (st.put dst z) (a.put dst v) ats:=by
 obtain⟨e,f,g,i⟩:=aDL st dst z;exact⟨h.hp.trans f.symm,h.nxt.trans g.symm,h.ok,by rw[e];exact atN a dst v _ z h.fr d,by rw[i];exact h.stk,by rw[put_defers];exact h.df,h.rd⟩
theorem jG.did (h:jG W0 b0 rd c st a ats) {c':Cx} {d:St} (hd:E9 W0 c st c' d):jG W0 b0 rd c' d a ats:=
 ⟨hd.hp,hd.nxt,hd.ok,by rw[hd.fr];exact bW.le hd.le _ _ h.fr,by rw[hd.stk];exact EX.le hd.le _ _ h.stk,
  let⟨g,i,j,e⟩:=h.df;⟨g,i,j,fun r f=>⟨hd.le.mks r (e r f).1,(e r f).2⟩⟩,fun l m=>let⟨L,p⟩:=h.rd l m;hd.le.lp l L p⟩
def After (W0:World) (b0:Nat) (rd:Option Nat) (c:Cx) (ats:List (Array Value)) (K:St->Option R) (r:R) (f:Act) (w':World):Prop:=
 ∃d e,K e=a6 r/\jG W0 b0 rd d e f ats/\c.Mono d/\d.w=w'
def oV (P:Program) (W0:World) (n:Nat) (call:gZ R):Prop:=
 ∀(b0:Nat) (rd:Option Nat) (f:cO) (g:List cO) (m:Option Nat) (st:St) (K:cO->St->Option R) (r:R),call f g m st K=a6 r->
  ∀(c:Cx) (a:Act) (ats:List (Array Value)) (i:Value) (j:Array Value),jG W0 b0 rd c st a ats->dh c f i->bW c g j.toList->
   ∀(o:Oper) (next:Act->World->Prop) (Q:Exit->Act->World->Prop),(∀e z u l,K z l=a6 r->jG W0 b0 rd e l a ats->dh e z u->c.Mono e->next (a.put o.dst u) e.w)->
    o.uponIn (FW rd) n P a next Q ((do let d<-Deferred.ofValue i j;invoke d.target d.args:Sem Next).run P c.w)
def uj:Op->Bool
 |.defer _=>true
 |_=>false
theorem zG {o:Oper} (h:uj o.op=false) (rd:Option Nat) (d:Operand->Value):Oper.semAt rd d o=execOp d o:=
 Oper.semAt_eq rd d o fun c e=>by rw[e]at h;cases h
theorem tY (o:Oper) (w:World) (d:Operand->Value): ∀f,o.about P w d=a6 f->(FW rd).fn f:=fun _ _=>trivial
theorem qg {o:Oper} {K:cO->St->Option R} (hd:uj o.op=false) (h:Jo P W0 c st o a K r) (g:jG W0 b0 rd c st a ats) {next:Act->World->Prop} {Q:Exit->Act->World->Prop}
  (i: ∀c' z u e,K z e=a6 r->jG W0 b0 rd c' e a ats->dh c' z u->c.Mono c'->next (a.put o.dst u) c'.w):o.wpIn (FW rd) n P a c.w next Q:=by
 obtain⟨z,u,c',e,j,f,l,d⟩:=h;refine⟨tY o c.w _, ?_⟩;rw[zG hd];have:=i c' z u e j (g.did f) l f.le.mono;rcases d with d|⟨d,rfl⟩
 .rw[d];exact this
 .rw[d];exact this
theorem UY (hT:TOk P T) {cl:Bool} {call:gZ R} (M:oV P W0 n call) {o:Oper} {K:cO->St->Option R} (h:fH T cl call o st K=a6 r) (d:jG W0 b0 rd c st a ats) {next:Act->World->Prop} {Q:Exit->Act->World->Prop}
  (e: ∀c' z u D,K z D=a6 r->jG W0 b0 rd c' D a ats->dh c' z u->c.Mono c'->next (a.put o.dst u) c'.w):o.wpIn (FW rd) n P a c.w next Q:=by
 by_cases hq:je o.op=true
 .obtain⟨z,u,N,v,O⟩:=Dn hT d.ok hq d.hp d.fr h;have hd:uj o.op=false:=by cases ho:o.op<;>simp_all [je,lJ,uj]
  exact qg hd ⟨z,u,c,st,N,E9.refl d.ok d.hp d.nxt,v,.inl (O c.w (Below.refl _ _))⟩ d e
 .cases ho:o.op with
  |alloc t=>exact qg (by rw[ho];rfl) (axC hT d.ok d.hp d.nxt ho h) d e
  |box t x=>exact qg (by rw[ho];rfl) (aGp hT d.ok d.hp d.nxt d.fr ho h) d e
  |buildSlice t k V=>exact qg (by rw[ho];rfl) (ZV hT d.ok d.hp d.nxt d.fr ho h) d e
  |makeSlice t l cp=>exact qg (by rw[ho];rfl) (aec hT d.ok d.hp d.nxt d.fr ho h) d e
  |store t x y=>exact qg (by rw[ho];rfl) (axD hT d.ok d.hp d.nxt d.fr ho h) d e
  |makeFunc fn first A=>
   obtain⟨dst,B,g,i,j,p⟩:=o;simp only at ho;subst ho;simp only[fH]at h;split at h
   .rename_i f I
    obtain⟨W⟩:=first
    simp only at I;subst I;refine qg rfl ⟨_,.func (.func f) #[] (A.map a.eval),c,st,h,E9.refl d.ok d.hp d.nxt, ?_,.inl ?_⟩ d e
    .simp only[dh];refine⟨_,rfl, ?_⟩;have:=bW.map_eval (c:=c) d.fr A.toList;simpa using this
    simp_all [execOp,Instr.makeFunc]
   .rename_i l f X
    replace h:=dQ h;obtain⟨Y,h⟩:=h;have S:A= #[]:=by
     simp_all
    subst S;refine qg rfl ⟨_,.func (.func f) (first.map a.eval) #[],c,st,h,E9.refl d.ok d.hp d.nxt, ?_,.inl ?_⟩ d e
    .simp only[dh];refine⟨_,rfl, ?_⟩;have:=bW.map_eval (c:=c) d.fr first.toList;simpa using this
    simp_all [execOp,Instr.makeFunc]
   .cases h
  |makeMap t Z=>exact qg (by rw[ho];rfl) (ann hT d.ok d.hp d.nxt ho h) d e
  |lookup t x y k=>exact qg (by rw[ho];rfl) (ash hT d.ok d.hp d.nxt d.fr ho h) d e
  |mapUpdate t x y z=>exact qg (by rw[ho];rfl) (aed hT d.ok d.hp d.nxt d.fr ho h) d e
  |call U=>
   obtain⟨J,q,L⟩:=U;cases J with
   |builtin b=>
    cases b with
    |append=>exact qg (by rw[ho];rfl) (asf hT d.ok d.hp d.nxt d.fr ho h) d e
    |unsafeSliceData=>exact qg (by rw[ho];rfl) (aee hT d.ok d.hp d.nxt d.fr ho h) d e
    |unsafeString=>exact qg (by rw[ho];rfl) (Uu hT d.ok d.hp d.nxt d.fr ho h) d e
    |len=>rw[ho]at hq;exact absurd rfl hq
    |min=>rw[ho]at hq;exact absurd rfl hq
    |max=>rw[ho]at hq;exact absurd rfl hq
    |_=>
     obtain⟨dst,B,g,i,j,p⟩:=o;simp only at ho;subst ho;simp[fH,mF]at h
   |invoke x m=>
    simp_all [fH]
   |value f=>
    obtain⟨dst,B,g,i,j,p⟩:=o;simp only at ho;subst ho;simp only[fH]at h;refine⟨tY _ c.w _, ?_⟩;rw[zG rfl];have v:=M b0 rd _ _ dst st K r h c a ats (a.eval f) (q.map a.eval) d (eu d.fr f) (by
     have:=bW.map_eval (c:=c) d.fr q.toList;simpa using this) ⟨dst,.call {callee:=.value f,args:=q,argTypes:=L},g,i,j,p⟩ next Q e
    exact v
  |_=>
   obtain⟨dst,B,g,i,j,p⟩:=o;simp only at ho;subst ho
   first
    |(simp[je,lJ]at hq;done)
    |(simp[fH]at h;done)
theorem J6 (ops:Array Oper) (j d:Nat) (h:(ops[j]?).bind (·.dst)=a6 d) (tmps:Array Value):yielded ops tmps j=(match tmps[d]? with|some (.bool b)=>a6 b|_=>a7):=by
 grind [yielded]
theorem OG (hT:TOk P T) {cl:Bool} {call:gZ R} (y:oV P W0 n call) (ops:Array Oper) {K:St->Option R} {Q:Exit->Act->World->Prop}: ∀(l:List Oper) (c:Cx) (st:St) (a:Act),iU T cl call ops K l st=a6 r->jG W0 b0 rd c st a ats->
  (∀c' g p,K g=a6 r->jG W0 b0 rd c' g p ats->c.Mono c'->Q .normal p c'.w)->wpListIn (FW rd) n P ops Q l a c.w
 |[],c,st,a,h,e,q=>by
  simp only[iU]at h;exact q c st a h e (Cx.Mono.refl c)
 |o::l,c,st,a,h,e,q=>by
  simp only[iU]at h;have ad: ∀(c:Cx) (st:St) (a:Act),jG W0 b0 rd c st a ats->(∀c' g p,K g=a6 r->jG W0 b0 rd c' g p ats->c.Mono c'->Q .normal p c'.w)->fH T cl call o st (fun v st=>iU T cl call ops K l (st.put o.dst v))=a6 r->
    o.wpIn (FW rd) n P a c.w (wpListIn (FW rd) n P ops Q l) Q:=fun c st a e q h=>
   UY hT y h e fun c' z u g J L M N=>OG hT y ops l c' (g.put o.dst z) (a.put o.dst u) J (L.put M) fun O S U k1 k2 k3=>q O S U k1 k2 (N.trans k3)
  have A: ∀(st:St),jG W0 b0 rd c st a ats->iU T cl call ops K l (st.put o.dst (.tup []))=a6 r->(∀f,o.about P c.w a.eval=a6 f->(FW rd).fn f)/\wpListIn (FW rd) n P ops Q l (a.put o.dst undef) c.w:=fun st e h=>
   ⟨tY o c.w _,OG hT y ops l c (st.put o.dst (.tup [])) (a.put o.dst undef) h (e.put (by simp only[dh];exact⟨#[],rfl,by simp[bW]⟩)) q⟩
  simp only[wpListIn];cases hg:o.guard with
  |none=>
   rw[hg]at h;rw[am (by simp[Region.wanted,hg])]
   grind
  |some V=>
   obtain⟨j,W⟩:=V;rw[hg]at h;simp only at h;split at h
   .cases h
   .rename_i d hd
    have i:=J6 ops j d hd a.tmps;have m:=e.fr.getD d;have X:=bW.length _ _ e.fr;rw[Array.length_toList]at X;split at h
    .rename_i b B
     rw[B]at m;simp only[dh]at m;have Y:=m.bool_inv;have ae:d<a.tmps.size:=by
      grind
     have D:a.tmps[d]? =a6 (.bool b):=by
      simp_all
     rw[D]at i;simp only at i;have Z:a.put (a6 d) (.bool b)=a:=by
      simp only[Act.put];obtain⟨ag,ah⟩:=Array.getElem?_eq_some_iff.1 D;have:a.tmps.setIfInBounds d (.bool b)=a.tmps:=by
       grind
      rw[this]
     have I:jG W0 b0 rd c (st.put (a6 d) (.val .bool b)) a ats:=by
      have:=e.put (dst:=a6 d) (z:=.val .bool b) (v:=.bool b) (by simp_all [dh]);rwa [Z]at this
     cases b<;>cases W<;>(try simp only[aa,ac]at h)
     .rw[am (by simp[Region.wanted,hg,i])]
      grind
     .rw[aq (by simp[Region.wanted,hg,i])];exact A _ I h
     .rw[aq (by simp[Region.wanted,hg,i])];exact A _ I h
     .rw[am (by simp[Region.wanted,hg,i])]
      grind
    .rename_i B
     rw[B]at m;simp only[dh]at m;obtain⟨vs,Y,_⟩:=m;have ab:yielded ops a.tmps j=a7:=by
      rw[i];cases he:a.tmps[d]? with
      |none=>rfl
      |some x=>
       simp_all
     rw[aq (by simp[Region.wanted,hg,ab])];exact A st e h
    .cases h
end
end
section
open Bool renaming not_eq_true' → bu
open List renaming map_cons → ay, mem_cons_of_mem → aB, mem_append_right → bH, mem_append_left → bJ
open Nat renaming le_refl → af
open Go.RowKit
structure Cx.Keeps (c c':Cx) (l:List Nat):Prop where
 free: ∀b,c.free b->c'.free b/\c'.w.heap[b]? =c.w.heap[b]?
 ref: ∀id∈l,c.known id->c'.known id
 obj: ∀id∈l,∀o',ed c'.hp id=some o'-> ∃o,ed c.hp id=some o/\o.like (c.mu id) o' (c'.mu id)
theorem Cx.Keeps.sub {c c':Cx} {l m:List Nat} (h:c.Keeps c' l) (e: ∀i∈m,i∈l):c.Keeps c' m:=⟨h.free,fun i d=>h.ref i (e i d),fun i d=>h.obj i (e i d)⟩
theorem Cx.Keeps.left {c c':Cx} {l m:List Nat} (h:c.Keeps c' (l++m)):c.Keeps c' l:=h.sub fun i d=>bJ _ d
theorem Cx.Keeps.right {c c':Cx} {l m:List Nat} (h:c.Keeps c' (l++m)):c.Keeps c' m:=h.sub fun i d=>bH _ d
mutual
theorem dh.keeps {c c':Cx}: ∀(v:cO) (x:Value),c.Keeps c' (refs v)->dh c v x->dh c' v x
 |.undef,_,_,_=>by simp[dh]
 |.val t x,v,h,d=>by
  simp only[dh]at d ⊢;exact⟨fun e=>let⟨cs,j,g⟩:=d.1 e;⟨cs,j,fV.mono h.free t x _ g⟩,fun e=>fV.mono h.free t x _ (d.2 e)⟩
 |.nils,_,_,d=>by assumption
 |.emp,_,_,d=>by assumption
 |.lst t x b,v,h,d=>by
  simp only[dh]at d ⊢;exact⟨⟨fun e=>let⟨cs,j,g⟩:=d.1.1 e;⟨cs,j,fV.mono h.free (.list t) x _ g⟩,fun e=>fV.mono h.free (.list t) x _ (d.1.2 e)⟩,d.2⟩
 |.nilp,_,_,d=>by assumption
 |.nilfn,_,_,d=>by assumption
 |.tup l,v,h,d=>by simp only[dh]at d ⊢;obtain⟨y,j,g⟩:=d;exact⟨y,j,bW.keeps l _ (by simpa [refs] using h) g⟩
 |.agg l,v,h,d=>by simp only[dh]at d ⊢;obtain⟨y,j,g,z⟩:=d;exact⟨y,j,bW.keeps l _ (by simpa [refs] using h) g,z⟩
 |.cellp t x,v,h,d=>by
  simp only[dh]at d ⊢;obtain⟨b,o,I,j,g,z,J⟩:=d;exact⟨b,o,I,j,(h.free b g).1,z.of_block (h.free b g).2,fV.mono h.free t x _ J⟩
 |.ptr id off,v,h,d=>by
  simp only[dh]at d ⊢;obtain⟨m,d⟩:=d;refine⟨m,h.ref id (by simp[refs]) d.1,fun t cs q=> ?_⟩;obtain⟨o,j,g⟩:=h.obj id (by simp[refs]) _ q;cases o<;>simp only[dZ.like]at g;simp_all
 |.slf id,v,h,d=>by
  simp only[dh]at d ⊢;obtain⟨m,d⟩:=d;refine⟨m,h.ref id (by simp[refs]) d.1,fun t cs q=> ?_⟩;obtain⟨o,j,g⟩:=h.obj id (by simp[refs]) _ q;cases o<;>simp only[dZ.like]at g;simp_all
 |.sd id A,v,h,d=>by
  simp only[dh]at d ⊢;obtain⟨m,d⟩:=d;refine⟨m,h.ref id (by simp[refs]) d.1,fun t u B q=> ?_⟩;obtain⟨o,j,g⟩:=h.obj id (by simp[refs]) _ q;cases o with
  |arr t' v' D=>
   grind [dZ.like]
  |box _ _=>simp[dZ.like]at g
  |lp _ _ _ _ _ _ _ _=>simp[dZ.like]at g
  |dead=>simp[dZ.like]at g
  |mp _ _ _=>simp[dZ.like]at g
 |.slc id A K,v,h,d=>by
  simp only[dh]at d ⊢;obtain⟨m,d⟩:=d;refine⟨m,h.ref id (by simp[refs]) d.1,fun t u B q=> ?_⟩;obtain⟨o,j,g⟩:=h.obj id (by simp[refs]) _ q;cases o with
  |arr t' v' D=>
   grind [dZ.like]
  |box _ _=>simp[dZ.like]at g
  |lp _ _ _ _ _ _ _ _=>simp[dZ.like]at g
  |dead=>simp[dZ.like]at g
  |mp _ _ _=>simp[dZ.like]at g
 |.ep id A i off,v,h,d=>by
  simp only[dh]at d ⊢;obtain⟨m,d⟩:=d;refine⟨m,h.ref id (by simp[refs]) d.1,fun t u B q=> ?_⟩;obtain⟨o,j,g⟩:=h.obj id (by simp[refs]) _ q;cases o with
  |arr t' v' D=>
   grind [dZ.like]
  |box _ _=>simp[dZ.like]at g
  |lp _ _ _ _ _ _ _ _=>simp[dZ.like]at g
  |dead=>simp[dZ.like]at g
  |mp _ _ _=>simp[dZ.like]at g
 |.fn f l,v,h,d=>by simp only[dh]at d ⊢;obtain⟨y,j,g⟩:=d;exact⟨y,j,bW.keeps l _ (by simpa [refs] using h) g⟩
 |.mfn f l,v,h,d=>by simp only[dh]at d ⊢;obtain⟨y,j,g⟩:=d;exact⟨y,j,bW.keeps l _ (by simpa [refs] using h) g⟩
 |.mpv id,v,h,d=>by
  simp only[dh]at d ⊢;obtain⟨m,d⟩:=d;refine⟨m,h.ref id (by simp[refs]) d.1,fun L M N q=> ?_⟩;obtain⟨o,j,g⟩:=h.obj id (by simp[refs]) _ q;cases o<;>simp only[dZ.like]at g;simp_all
 |.yld id,v,h,d=>by
  simp only[dh]at d ⊢;obtain⟨m,d⟩:=d;refine⟨m,h.ref id (by simp[refs]) d.1,fun f O S kH U V n p q=> ?_⟩;obtain⟨o,j,g⟩:=h.obj id (by simp[refs]) _ q;cases o<;>simp only[dZ.like]at g;simp_all
theorem bW.keeps {c c':Cx}: ∀(l:List cO) (xs:List Value),c.Keeps c' (nY l)->bW c l xs->bW c' l xs
 |[],[],_,_=>by simp[bW]
 |v::l,x::xs,h,d=>by
  simp only[nY]at h;simp only[bW]at d ⊢;exact⟨dh.keeps v x h.left d.1,bW.keeps l xs h.right d.2⟩
 |[],_::_,_,d=>by simp[bW]at d
 |_::_,[],_,d=>by simp[bW]at d
end
theorem EX.keeps {c c':Cx}: ∀(e:List (List cO)) (g:List (Array Value)),c.Keeps c' (uZ e)->EX c e g->EX c' e g
 |[],[],_,_=>trivial
 |f::e,t::g,h,d=>by
  simp only[uZ]at h;exact⟨bW.keeps _ _ h.left d.1,EX.keeps e g h.right d.2⟩
 |[],_::_,_,d=>d.elim
 |_::_,[],_,d=>d.elim
theorem lU (p:Nat->Bool): ∀(h:iD) (i:Nat),ed (h.filter fun e=>p e.1) i=if p i=true then ed h i else none
 |[],i=>by simp[ed]
 |(k,o)::h,i=>by
  rw[List.filter_cons];by_cases hk:p k=true
  .simp only[hk,if_true,fF,lU p h i]
   grind
  .rw[aq hk,lU p h i,fF]
   grind
theorem zq: ∀(h:iD) (i:Nat) (o:dZ),ed h i=some o->(i,o)∈h
 |[],i,o,d=>by simp[ed]at d
 |(k,e)::h,i,o,d=>by
  rw[fF]at d;split at d
  .simp_all
  .exact aB _ (zq h i o d)
theorem Dp: ∀(h:iD) (e:Nat×dZ),e∈h-> ∀i∈e.2.refs,i∈zF h
 |[],e,d,i,f=>by simp at d
 |(k,o)::h,e,d,i,f=>by
  simp only[zF,List.mem_append];rcases List.mem_cons.1 d with g|g
  .simp_all
  .right;exact Dp h e g i f
theorem wS {d l:List Nat} (h:F9 d l=true): ∀i∈l,i∉d:=by
 intro i e hd;have:=List.all_eq_true.1 h i e;simp only[bu,Z4]at this;have f:d.any (Nat.beq i)=true:=List.any_eq_true.2 ⟨i,hd,by simp⟩;simp_all
theorem Cx.keeps_filter {c:Cx} {p:Nat->Bool} {l:List Nat} (q: ∀i∈l,i∉((c.hp.filter fun e=> !p e.1).map (·.1))):c.Keeps {c with hp:=c.hp.filter fun e=>p e.1} l:=by
 refine⟨fun b g=>⟨⟨g.1, ?_,g.2.2⟩,rfl⟩,fun i j hk=> ?_,fun i j m d=> ?_⟩
 .rintro ⟨i,o,f,u⟩;rw[lU]at f;split at f
  .exact g.2.1 ⟨i,o,f,u⟩
  .cases f
 .rcases hk with ⟨o,d⟩|hk
  .left;refine⟨o, ?_⟩;rw[lU];split
   .exact d
   .rename_i hp
    exfalso;refine q i j (List.mem_map.2 ⟨(i,o),List.mem_filter.2 ⟨zq _ _ _ d,by simp[hp]⟩,rfl⟩)
  .exact .inr hk
 .rw[lU]at d;split at d
  .exact⟨m,d,m.like_refl _⟩
  .cases d
section
variable {P:Program} {T:TT} {W0:World} {b0 n:Nat} {rd:Option Nat} {c:Cx} {R:Type} {r:R} {st:St} {a:Act} {ats:List (Array Value)}
theorem U0 (c:Cx) (p:Nat->Bool): ∀b,c.out b->({c with hp:=c.hp.filter fun e=>p e.1}:Cx).out b/\({c with hp:=c.hp.filter fun e=>p e.1}:Cx).w.heap[b]? =c.w.heap[b]? :=fun b f=>⟨⟨f.1,(by
 rintro ⟨i,o,d,g⟩;simp only at d g;rw[lU]at d;split at d
 .exact f.2.1 ⟨i,o,d,g⟩
 .cases d),f.2.2⟩,rfl⟩
theorem Cx.Ok.filter (l:c.Ok W0) {p:Nat->Bool} (hk:c.Keeps {c with hp:=c.hp.filter fun e=>p e.1} (zF (c.hp.filter fun e=>p e.1))):({c with hp:=c.hp.filter fun e=>p e.1}:Cx).Ok W0:=by
 have sub: ∀i o,ed (c.hp.filter fun e=>p e.1) i=some o->ed c.hp i=some o:=fun i o h=>by
  simp_all [lU]
 refine⟨l.bel,fun i o z=> ?_,fun i j o q b d g=>l.inj i j o q b (sub i o d) (sub j q g),l.mks,fun b v=>⟨(l.bar b v).1,(fun⟨i,o,d,g⟩=>(l.bar b v).2.1 ⟨i,o,sub i o d,g⟩),(l.bar b v).2.2⟩,l.phi⟩;have m:=l.obj i o (sub i o z);have A:=zq _ _ _ z;cases o with
 |box e cs=>
  obtain⟨d,B,g,u,x⟩:=m;exact⟨d,B,g,bW.keeps _ _ (hk.sub fun j y=>Dp _ _ A j y) u,x⟩
 |arr t ver I=>
  obtain⟨m,e,D,d,g,u⟩:=m;exact⟨m,e,D,d,gV.mono (fV.mono hk.free t) _ _ g,u⟩
 |lp f fr ps kH bd ky n p=>
  obtain⟨m,d,L,g,u,x⟩:=m;exact⟨m,d,L,g,bW.keeps _ _ (hk.sub fun j y=>Dp _ _ A j y) u,x⟩
 |dead=>trivial
 |mp kk vk J=>exact m
theorem jG.gc (d:jG W0 b0 rd c st a ats) {f:Nat} {v:cO} {u:Value} (m:dh c v u) {g:St} (h:gc f v st=some g):
  ∃c',jG W0 b0 rd c' g a ats/\dh c' v u/\c.Mono c'/\c'.w=c.w/\g.stk=st.stk/\g.fr=st.fr:=by
 obtain⟨fr,stk,q,nxt⟩:=st;simp only[Go.Proofs.YtjegbhogodknhaaGreatDoor.gc]at h;rw[cond_eq_ite]at h;split at h
 .rename_i j
  cases h;have l:=d.hp;simp only at l;subst l;have x: ∀p:Nat->Bool,F9 ((c.hp.filter fun e=> !p e.1).map (·.1)) (refs v++nY fr++uZ stk++zF (c.hp.filter fun e=>p e.1))=true->
    ∃c',jG W0 b0 rd c' ⟨fr,stk,c.hp.filter fun e=>p e.1,nxt⟩ a ats/\dh c' v u/\c.Mono c'/\c'.w=c.w/\stk=stk/\fr=fr:=fun p j=>by
   have y:=wS j;have hk:=Cx.keeps_filter (c:=c) (p:=p) y;exact⟨{c with hp:=c.hp.filter fun e=>p e.1},⟨rfl,d.nxt,d.ok.filter (p:=p) hk.right,bW.keeps _ _ hk.left.left.right d.fr,EX.keeps _ _ hk.left.right d.stk,d.df,d.rd⟩,dh.keeps _ _ hk.left.left.left m,⟨fun _ h=>h,fun b L h=>⟨L,h⟩,af _,rfl,U0 c p⟩,rfl,rfl,rfl⟩
  exact x (fun i=>Nat.blt i f||Z4 (atS (c.hp.filter fun e=> !Nat.blt e.1 f) 3 (refs v++nY fr++uZ stk++zF (c.hp.filter fun e=>Nat.blt e.1 f))) i) j
 .cases h
theorem adS (f:dZ->dZ): ∀(h:iD) (i:Nat),ed (h.map fun e=>(e.1,f e.2)) i=(ed h i).map f
 |[],i=>rfl
 |(k,o)::h,i=>by
  simp only[ay,fF,adS f h i];split<;>rfl
def Cx.anew (c:Cx):Cx:={c with hp:=c.hp.map fun e=>(e.1,e.2.anew c.hp)}
theorem dZ.anew_blk (h:iD) (o:dZ) (l:Loc):(o.anew h).blk l=o.blk l:=by cases o<;>rfl
theorem Cx.anew_get (c:Cx) (i:Nat):ed c.anew.hp i=(ed c.hp i).map (dZ.anew c.hp):=adS _ _ _
theorem Cx.anew_free (c:Cx): ∀b,c.free b->c.anew.free b/\c.anew.w.heap[b]? =c.w.heap[b]? :=fun b d=>⟨⟨d.1,by
 rintro ⟨i,o,e,f⟩;rw[Cx.anew_get]at e;obtain⟨g,j,rfl⟩:=Option.map_eq_some_iff.1 e;rw[dZ.anew_blk]at f;exact d.2.1 ⟨i,g,j,f⟩,d.2.2⟩,rfl⟩
theorem Cx.anew_out (c:Cx): ∀b,c.out b->c.anew.out b/\c.anew.w.heap[b]? =c.w.heap[b]? :=fun b d=>⟨⟨d.1,(by
 rintro ⟨i,o,e,f⟩;rw[Cx.anew_get]at e;obtain⟨g,j,rfl⟩:=Option.map_eq_some_iff.1 e;rw[dZ.anew_blk]at f;exact d.2.1 ⟨i,g,j,f⟩),d.2.2⟩,rfl⟩
theorem Cx.anew_known (c:Cx) {i:Nat} (h:c.known i):c.anew.known i:=by
 rcases h with ⟨o,d⟩|h
 .exact .inl ⟨_,by rw[Cx.anew_get,d];rfl⟩
 .exact .inr h
theorem FO {h:iD} {id d:Nat} (hf:Ue h id d=true): ∃t xs,ed h id=some (.arr t d xs):=by
 simp only[Ue,aAV]at hf
 grind
mutual
theorem dh.anew {c:Cx}: ∀(v:cO) (x:Value),dh c v x->dh c.anew (Go.Proofs.YtjegbhogodknhaaGreatDoor.anew c.hp v) x
 |.undef,_,_=>by simp[dh,Go.Proofs.YtjegbhogodknhaaGreatDoor.anew]
 |.val t x,v,d=>by
  simp only[dh,Go.Proofs.YtjegbhogodknhaaGreatDoor.anew]at d ⊢;exact⟨fun e=>let⟨cs,j,g⟩:=d.1 e;⟨cs,j,fV.mono c.anew_free t x _ g⟩,fun e=>fV.mono c.anew_free t x _ (d.2 e)⟩
 |.nils,_,d=>by simpa only[dh,Go.Proofs.YtjegbhogodknhaaGreatDoor.anew] using d
 |.emp,_,d=>by simpa only[dh,Go.Proofs.YtjegbhogodknhaaGreatDoor.anew] using d
 |.lst t x b,v,d=>by
  simp only[dh,Go.Proofs.YtjegbhogodknhaaGreatDoor.anew]at d ⊢;exact⟨⟨fun e=>let⟨cs,j,g⟩:=d.1.1 e;⟨cs,j,fV.mono c.anew_free (.list t) x _ g⟩,fun e=>fV.mono c.anew_free (.list t) x _ (d.1.2 e)⟩,d.2⟩
 |.nilp,_,d=>by simpa only[dh,Go.Proofs.YtjegbhogodknhaaGreatDoor.anew] using d
 |.nilfn,_,d=>by simpa only[dh,Go.Proofs.YtjegbhogodknhaaGreatDoor.anew] using d
 |.tup l,v,d=>by simp only[dh,Go.Proofs.YtjegbhogodknhaaGreatDoor.anew]at d ⊢;obtain⟨y,j,g⟩:=d;exact⟨y,j,bW.anew l _ g⟩
 |.agg l,v,d=>by simp only[dh,Go.Proofs.YtjegbhogodknhaaGreatDoor.anew]at d ⊢;obtain⟨y,j,g,B⟩:=d;exact⟨y,j,bW.anew l _ g,B⟩
 |.cellp t x,v,d=>by
  simp only[dh,Go.Proofs.YtjegbhogodknhaaGreatDoor.anew]at d ⊢;obtain⟨b,o,N,j,g,B,O⟩:=d;exact⟨b,o,N,j,(c.anew_free b g).1,B.of_block (c.anew_free b g).2,fV.mono c.anew_free t x _ O⟩
 |.ptr id off,v,d=>by
  simp only[dh,Go.Proofs.YtjegbhogodknhaaGreatDoor.anew]at d ⊢;obtain⟨q,d⟩:=d;refine⟨q,c.anew_known d.1,fun t cs m=> ?_⟩;rw[Cx.anew_get]at m;obtain⟨o,j,g⟩:=Option.map_eq_some_iff.1 m;cases o<;>simp only[dZ.anew,reduceCtorEq]at g;exact d.2 _ _ j
 |.slf id,v,d=>by
  simp only[dh,Go.Proofs.YtjegbhogodknhaaGreatDoor.anew]at d ⊢;obtain⟨q,d⟩:=d;refine⟨q,c.anew_known d.1,fun t cs m=> ?_⟩;rw[Cx.anew_get]at m;obtain⟨o,j,g⟩:=Option.map_eq_some_iff.1 m;cases o<;>simp only[dZ.anew,reduceCtorEq]at g;exact d.2 _ _ j
 |.sd id I,v,d=>by
  simp only[dh,Go.Proofs.YtjegbhogodknhaaGreatDoor.anew]at d ⊢;rw[cond_eq_ite];split
  .rename_i A
   obtain⟨J,K,z⟩:=FO A;simp only[dh];obtain⟨q,d⟩:=d;refine⟨q,c.anew_known d.1,fun t u L m=>⟨Nat.zero_le _,fun M=> ?_⟩⟩;exact(d.2 _ _ _ z).2 rfl
  .simp[dh]
 |.slc id I S,v,d=>by
  simp only[dh,Go.Proofs.YtjegbhogodknhaaGreatDoor.anew]at d ⊢;rw[cond_eq_ite];split
  .rename_i A
   obtain⟨J,K,z⟩:=FO A;simp only[dh];obtain⟨q,d⟩:=d;refine⟨q,c.anew_known d.1,fun t u L m=>⟨Nat.zero_le _,fun M=> ?_⟩⟩;rw[Cx.anew_get,z]at m;simp only[Option.map_some,dZ.anew,Option.some.injEq,dZ.arr.injEq]at m;obtain⟨D,_,_⟩:=m;rw[<-D];exact(d.2 _ _ _ z).2 rfl
  .simp[dh]
 |.ep id I i off,v,d=>by
  simp only[dh,Go.Proofs.YtjegbhogodknhaaGreatDoor.anew]at d ⊢;rw[cond_eq_ite];split
  .rename_i A
   obtain⟨J,K,z⟩:=FO A;simp only[dh];obtain⟨q,d⟩:=d;refine⟨q,c.anew_known d.1,fun t u L m=>⟨Nat.zero_le _,fun M=> ?_⟩⟩;rw[Cx.anew_get,z]at m;simp only[Option.map_some,dZ.anew,Option.some.injEq,dZ.arr.injEq]at m;obtain⟨D,_,_⟩:=m;rw[<-D];exact(d.2 _ _ _ z).2 rfl
  .simp[dh]
 |.fn f l,v,d=>by simp only[dh,Go.Proofs.YtjegbhogodknhaaGreatDoor.anew]at d ⊢;obtain⟨y,j,g⟩:=d;exact⟨y,j,bW.anew l _ g⟩
 |.mfn f l,v,d=>by simp only[dh,Go.Proofs.YtjegbhogodknhaaGreatDoor.anew]at d ⊢;obtain⟨y,j,g⟩:=d;exact⟨y,j,bW.anew l _ g⟩
 |.mpv id,v,d=>by
  simp only[dh,Go.Proofs.YtjegbhogodknhaaGreatDoor.anew]at d ⊢;obtain⟨q,d⟩:=d;refine⟨q,c.anew_known d.1,fun U V W m=> ?_⟩;rw[Cx.anew_get]at m;obtain⟨o,j,g⟩:=Option.map_eq_some_iff.1 m;cases o<;>simp only[dZ.anew,reduceCtorEq]at g;exact d.2 _ _ _ j
 |.yld id,v,d=>by
  simp only[dh,Go.Proofs.YtjegbhogodknhaaGreatDoor.anew]at d ⊢;obtain⟨q,d⟩:=d;refine⟨q,c.anew_known d.1,fun f X Y kH Z ky n p m=> ?_⟩;rw[Cx.anew_get]at m;obtain⟨o,j,g⟩:=Option.map_eq_some_iff.1 m;cases o<;>simp only[dZ.anew,reduceCtorEq]at g;exact d.2 _ _ _ _ _ _ _ _ j
theorem bW.anew {c:Cx}: ∀(l:List cO) (xs:List Value),bW c l xs->bW c.anew (Ci c.hp l) xs
 |[],[],_=>by simp[bW,Ci]
 |v::l,x::xs,d=>by
  simp only[bW,Ci]at d ⊢;exact⟨dh.anew v x d.1,bW.anew l xs d.2⟩
 |[],_::_,d=>by simp[bW]at d
 |_::_,[],d=>by simp[bW]at d
end
theorem EX.anew {c:Cx}: ∀(e:List (List cO)) (g:List (Array Value)),EX c e g->EX c.anew (e.map (Ci c.hp)) g
 |[],[],_=>trivial
 |f::e,t::g,d=>⟨bW.anew _ _ d.1,EX.anew e g d.2⟩
 |[],_::_,d=>d.elim
 |_::_,[],d=>d.elim
theorem jG.anew (d:jG W0 b0 rd c st a ats): ∃c',jG W0 b0 rd c' (YQ st) a ats/\c.Mono c'/\c'.w=c.w:=by
 obtain⟨A,O,S,nxt⟩:=st;have x:=d.hp;simp only at x;subst x;refine⟨c.anew,⟨rfl,d.nxt,⟨d.ok.bel,fun i o y=> ?_,fun i j o q b g l m v=> ?_,d.ok.mks,fun b B=>(Cx.anew_out c b (d.ok.bar b B)).1,d.ok.phi⟩,bW.anew _ _ d.fr,EX.anew _ _ d.stk,d.df,d.rd⟩,⟨fun _ h=>h,fun b L h=>⟨L,h⟩,af _,rfl,Cx.anew_out c⟩,rfl⟩
 .rw[Cx.anew_get]at y;obtain⟨z,g,rfl⟩:=Option.map_eq_some_iff.1 y;have u:=d.ok.obj i z g;cases z with
  |box e cs=>
   obtain⟨g,D,l,m,v⟩:=u;exact⟨g,D,l,bW.anew _ _ m,v⟩
  |arr t ver U=>
   obtain⟨u,e,I,g,l,m⟩:=u;exact⟨u,e,I,g,gV.mono (fV.mono c.anew_free t) _ _ l,m⟩
  |lp f A ps kH bd ky n p=>
   obtain⟨u,g,L,l,m,v⟩:=u;exact⟨u,g,L,l,bW.anew _ _ m,v⟩
  |dead=>trivial
  |mp kk vk V=>exact u
 .rw[Cx.anew_get]at g l;obtain⟨J,K,rfl⟩:=Option.map_eq_some_iff.1 g;obtain⟨M,N,rfl⟩:=Option.map_eq_some_iff.1 l;rw[dZ.anew_blk]at m v;exact d.ok.inj i j J M b K N m v
theorem C9 {l:List Nat}: ∀(i:Nat) (fr:List cO) (xs:List Value),bW c fr xs->bW c (I7 l i fr) xs
 |i,[],[],_=>by simp[bW,I7]
 |i,v::fr,x::xs,h=>by
  simp only[bW,I7]at h ⊢;refine⟨?_,C9 (i+1) fr xs h.2⟩;rw[cond_eq_ite]
  grind [dh]
 |i,[],_::_,h=>by simp[bW]at h
 |i,_::_,[],h=>by simp[bW]at h
end
end
end Go.Proofs.YtjegbhogodknhaaGreatDoor
