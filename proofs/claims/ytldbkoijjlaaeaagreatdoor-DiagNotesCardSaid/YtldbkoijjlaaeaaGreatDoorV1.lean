/- Parts of the proof, joined and shortened by a program: the plain machine, the functions as it prints them, and the mathematics over them. -/
import Derived.Calls
import Derived.Still
import Derived.Orders
import Derived.Laws.Sem
import Derived.Test.YtldbkoijjlaaeaaGreatDoorProg
import Derived.WalkKit
import Derived.WalkSmall
import Derived.Below
import Derived.Laws.AppendOwn
import Derived.Lib.LaidTab
import Derived.Lib.ItoaNum
import Derived.KernelRfl
import Derived.Laws.StructEq
import Derived.Laws.Slices
import Derived.Laws.Cells
import Derived.Laws.Strings
import Derived.Laws.MakeOwn
import Derived.Laws.BytesString
import Derived.Maps.AppendAt
import Derived.Lib.AppendStr
import Derived.Lib.UnsafeStr
import Derived.MapKept
import Derived.TacticsIn
import Derived.RangeFuncIn
import Derived.RangeFuncLeaves
import Derived.Sort.QuietThIn
set_option linter.unusedVariables false
set_option linter.unusedSimpArgs false
set_option maxRecDepth 100000
set_option maxHeartbeats 4000000
namespace Go.Proofs.YtldbkoijjlaaeaaGreatDoor
section
inductive Ty where
 |unit
 |bool
 |int (k:IntKind)
 |str
 |list (t:Ty)
 |pair (a b:Ty)
 deriving DecidableEq
@[reducible] def Ty.den:Ty->Type
 |.unit=>Unit
 |.bool=>Bool
 |.int _=>Int
 |.str=>List UInt8
 |.list t=>List t.den
 |.pair a b=>a.den×b.den
def Ty.dflt:(t:Ty)->t.den
 |.unit=>()
 |.bool=>false
 |.int _=>0
 |.str=>[]
 |.list _=>[]
 |.pair a b=>(a.dflt,b.dflt)
def Ty.size:Ty->Nat
 |.unit=>0
 |.pair a b=>a.size+b.size
 |_=>1
def Ty.isAgg:Ty->Bool
 |.unit=>true
 |.pair _ _=>true
 |_=>false
def jX {t':Ty} (t:Ty) (x:t'.den):Option t.den:=if h:t'=t then some (cast (congrArg Ty.den h) x)else none
def Ty.same:(t:Ty)->t.den->t.den->Bool
 |.unit,_,_=>true
 |.bool,x,y=>x==y
 |.int _,x,y=>x==y
 |.str,x,y=>x==y
 |.list _,_,_=>false
 |.pair a b,x,y=>a.same x.1 y.1&&b.same x.2 y.2
def sub {α:Type} (l:List α) (lo hi:Int):List α:=(l.take hi.toNat).drop lo.toNat
inductive bK where
 |undef
 |val (t:Ty) (x:t.den)
 |nils
 |nilp
 |nilfn
 |tup (l:List bK)
 |agg (l:List bK)
 |cellp (t:Ty) (x:t.den)
 |ptr (id off:Nat)
 |slc (id ver:Nat) (view:Option (Int×Int))
 |ep (id ver:Nat) (i:Nat) (off:Nat)
 |fn (f:FuncId) (caps:List bK)
 |mfn (f:FuncId) (fst:List bK)
 |mpv (id:Nat)
 |yld (id:Nat)
 |emp
 |lst (t:Ty) (x:List t.den) (nil:Bool)
 |slf (id:Nat)
 |sd (id ver:Nat)
inductive Ex where
 |normal
 |exit (id:Nat)
 |goto (l:Nat)
 |ret
inductive dI where
 |box (t:TypeId) (cells:List bK)
 |arr (t:Ty) (ver:Nat) (xs:List t.den)
 |lp (f:FuncId) (fr:List bK) (ps:List Nat) (jy bd:Code) (key:Option Nat) (state:Nat) (pend:Option Ex)
 |dead
 |mp (kk vk:IntKind) (es:List (Int×Int))
abbrev gI:=List (Nat×dI)
def dK:gI->Nat->Option dI
 |[],_=>none
 |(k,o)::h,i=>bif k==i then some o else dK h i
def ji:gI->Nat->dI->gI
 |[],_,_=>[]
 |(k,o)::h,i,o'=>bif k==i then(k,o')::h else(k,o)::ji h i o'
structure St where
 fr:List bK
 stk:List (List bK)
 hp:gI
 nxt:Nat
inductive TK where
 |bool|str|other
 |int (k:IntKind)
 |slice (e:TypeId)
 |struct (fs:List (Nat×TypeId))
 |fn
 |ptr (e:TypeId)
 |map (k e:TypeId)
structure TI where
 known:Bool
 k:TK
 size:Nat
 bytes:Nat
 ty:Option Ty
 zero:List bK
 eq:Bool
 bld:Bool:=false
 keep:Bool:=false
instance:Inhabited TI:=⟨⟨false,.other,0,0,none,[],false,false,false⟩⟩
inductive TT where
 |nil
 |node (k:Nat) (i:TI) (l r:TT)
def TT.at:TT->TypeId->TI
 |.nil,_=>default
 |.node k i l r,t=>bif Nat.beq k t then i else bif Nat.blt t k then l.at t else r.at t
def TI.isAgg (i:TI):Bool:=match i.k with|.struct _=>true|_=>false
def flat:(t:Ty)->t.den->List bK
 |.unit,_=>[]
 |.pair a b,x=>flat a x.1++flat b x.2
 |.bool,x=>[.val .bool x]
 |.int k,x=>[.val (.int k) x]
 |.str,x=>[.val .str x]
 |.list t,x=>[.val (.list t) x]
def bK.cells:bK->Option (List bK)
 |.val t x=>some (flat t x)
 |.agg l=>some l
 |.undef=>none
 |.tup _=>none
 |v=>some [v]
def leaf (t:Ty):bK->Option t.den
 |.val t' x=>jX t x
 |.nils=>match t with|.list _=>some []|_=>none
 |_=>none
def mk:(t:Ty)->List bK->Option (t.den×List bK)
 |.unit,l=>some ((),l)
 |.pair a b,l=>
  match mk a l with
  |some (x,l1)=>match mk b l1 with
   |some (y,l2)=>some ((x,y),l2)
   |none=>none
  |none=>none
 |.bool,c::l=>match leaf .bool c with|some x=>some (x,l)|none=>none
 |.int k,c::l=>match leaf (.int k) c with|some x=>some (x,l)|none=>none
 |.str,c::l=>match leaf .str c with|some x=>some (x,l)|none=>none
 |.list t,c::l=>match leaf (.list t) c with|some x=>some (x,l)|none=>none
 |_,[]=>none
def H6 (t:Ty) (l:List bK):Option t.den:=
 match mk t l with
 |some (x,[])=>some x
 |_=>none
def bK.isNils:bK->Bool
 |.nils=>true
 |_=>false
def norm (i:TI) (l:List bK):bK:=
 match i.k with
 |.struct _=>match i.ty with
  |some t=>match H6 t l with
   |some x=>bif i.keep&&l.any bK.isNils then .agg l else .val t x
   |none=>.agg l
  |none=>.agg l
 |_=>match l with
  |[v]=>v
  |_=>.undef
def adb {α:Type} (xs:List α):Option (Int×Int)->List α
 |none=>xs
 |some (lo,hi)=>sub xs lo hi
def BL (hp:gI) (t:Ty) (id ver:Nat) (vw:Option (Int×Int)):Option (List t.den):=
 match dK hp id with
 |some (.arr t' v xs)=>bif v==ver then(match jX (.list t) (t':=.list t') xs with|some ys=>some (adb ys vw)|none=>none)else none
 |_=>none
def bK.as (hp:gI) (t:Ty):bK->Option t.den
 |.val t' x=>jX t x
 |.nils=>match t with|.list _=>some []|_=>none
 |.emp=>match t with|.list _=>some []|_=>none
 |.lst e xs _=>jX (t':=.list e) t xs
 |.slc id ver vw=>match t with|.list e=>BL hp e id ver vw|_=>none
 |.agg l=>bif t.isAgg then H6 t l else none
 |_=>none
def Ze:(t:Ty)->t.den->Nat->bK
 |.pair a _,x,0=>.val a x.1
 |.pair _ b,x,n+1=>Ze b x.2 n
 |_,_,_=>.undef
def Tm:(t:Ty)->t.den->Nat->bK
 |.pair a _,x,0=>.cellp a x.1
 |.pair _ b,x,n+1=>Tm b x.2 n
 |_,_,_=>.undef
def wZ:Value->bK
 |.bool b=>.val .bool b
 |.int k n=>.val (.int k) n
 |.string s=>.val .str s.data.toList
 |.slice none 0 0=>.nils
 |.pointer none=>.nilp
 |.nilFunc=>.nilfn
 |_=>.undef
def Y3:Value->bK
 |.agg cs=>bif cs.toList.all Value.oneCell' then .agg (cs.toList.map wZ)else .undef
 |.tuple _=>.undef
 |v=>wZ v
def gV (fr:List bK):Operand->bK
 |.tmp t=>fr.getD t .undef
 |.const v=>Y3 v
 |.global _=>.undef
 |.func f=>.fn f []
def lC:Nat:=140737488355328
def bU (k:IntKind) (a b:Int):Int:=k.wrap (a+b)
def dR (k:IntKind) (a b:Int):Int:=k.wrap (a-b)
def aoV (k:IntKind) (a b:Int):Int:=k.wrap (a*b)
def aH1 (k:IntKind) (a b:Int):Int:=k.wrap (a.tdiv b)
def aqH (op:BinOp) (k:IntKind) (a b:Int):Int:=
 let x:=BitVec.ofInt k.bits a
 let y:=BitVec.ofInt k.bits b
 match op with
 |.and=>k.wrap (x&&& y).toNat
 |.or=>k.wrap (x|||y).toNat
 |.xor=>k.wrap (x^^^y).toNat
 |_=>k.wrap (x&&& ~~~y).toNat
def aBf (k:IntKind) (a b:Int):Int:=k.wrap (a*2^(min b.toNat k.bits))
def WN (k:IntKind) (a b:Int):Int:=a.fdiv (2^(min b.toNat k.bits))
def gU (a b:Int):Bool:=decide (a<b)
def leI (a b:Int):Bool:=decide (a<=b)
def bJ (a b:Int):Bool:=a==b
def bC {α:Type} (l:List α):Int:=(l.length:Int)
def Qa (a b:Nat):Bool:=decide (a<b)
def eqN (a b:Nat):Bool:=Nat.beq a b
def leN (a b:Nat):Bool:=decide (a<=b)
def I5 (a b:Int):Int:=if b<a then b else a
def CJ (a b:Int):Int:=if b>a then b else a
def bT (s:List UInt8) (i:Int):Int:=((s.getD i.toNat 0).toNat:Int)
def dQ {α:Type} (l:List α) (d:α) (i:Int):α:=l.getD i.toNat d
def fG (a b:List UInt8):Bool:=a==b
def ltS (a b:List UInt8):Bool:=Op.bytesLess a b
def dh (l:List UInt8):List Int:=l.map fun b=>(b.toNat:Int)
def ofBytes (l:List Int):List UInt8:=l.map fun n=>UInt8.ofNat n.toNat
def aKf (l:List UInt8):Bool:=decide (l.length<=lC)
def dO {α:Type} (l:List α) (bytes:Nat):Bool:=decide (l.length*bytes<=lC)
def fB {α:Type} (l:List α) (i:Int):Bool:=decide (0<=i)&&decide (i<(l.length:Int))
def eU (n lo hi:Int):Bool:=decide (0<=lo)&&(decide (lo<=hi)&&decide (hi<=n))
def ig {α:Type} (l:List α) (i:Nat) (x:α):List α:=l.set i x
def zi (op:BinOp) (k:IntKind) (a b:Int):bK:=
 match op with
 |.add=>.val (.int k) (bU k a b)
 |.sub=>.val (.int k) (dR k a b)
 |.mul=>.val (.int k) (aoV k a b)
 |.eql=>.val .bool (bJ a b)
 |.neq=>.val .bool (!bJ a b)
 |.lss=>.val .bool (gU a b)
 |.leq=>.val .bool (leI a b)
 |.gtr=>.val .bool (gU b a)
 |.geq=>.val .bool (leI b a)
 |_=>.undef
def YR (op:BinOp) (a b:List UInt8):bK:=
 match op with
 |.eql=>.val .bool (fG a b)
 |.neq=>.val .bool (!fG a b)
 |.lss=>.val .bool (ltS a b)
 |.leq=>.val .bool (ltS a b||fG a b)
 |.gtr=>.val .bool (!(ltS a b||fG a b))
 |.geq=>.val .bool (!ltS a b)
 |_=>.undef
def TT.eqOk (T:TT):Nat->TypeId->Bool
 |0,_=>false
 |n+1,t=>(T.at t).known&&(match(T.at t).k with
  |.bool|.int _|.str=>true
  |.struct fs=>(T.at t).eq&&fs.all fun f=>T.eqOk n f.2
  |_=>false)
section
variable {R:Type}
def mf (b:Bool) (k:Option R):Option R:=bif b then k else none
def adI (T:TT) (op:BinOp) (t:TypeId) (x y:bK) (K:bK->Option R):Option R:=
 match x,y with
 |.val (.int k) a,.val (.int k') b=>
  if k=k' then
   match op with
   |.quo=>mf (!bJ b 0) (K (.val (.int k) (aH1 k a b)))
   |.rem=>mf (!bJ b 0) (K (.val (.int k) (a.tmod b)))
   |.add|.sub|.mul|.eql|.neq|.lss|.leq|.gtr|.geq=>K (zi op k a b)
   |.and|.or|.xor|.andNot=>K (.val (.int k) (aqH op k a b))
   |.shl=>mf (leI 0 b) (K (.val (.int k) (aBf k a b)))
   |.shr=>mf (leI 0 b) (K (.val (.int k) (WN k a b)))
  else
   match op with
   |.shl=>mf (leI 0 b) (K (.val (.int k) (aBf k a b)))
   |.shr=>mf (leI 0 b) (K (.val (.int k) (WN k a b)))
   |_=>none
 |.val .bool a,.val .bool b=>
  bif(T.at t).known then
   match(T.at t).k,op with
   |.bool,.eql=>K (.val .bool (a==b))
   |.bool,.neq=>K (.val .bool (!(a==b)))
   |_,_=>none
  else none
 |.val .str a,.val .str b=>
  match op with
  |.add=>mf (decide (a.length+b.length<=lC)) (K (.val .str (a++b)))
  |.eql|.neq|.lss|.leq|.gtr|.geq=>K (YR op a b)
  |_=>none
 |.lst _ _ b,.nils=>bif(T.at t).known then(match(T.at t).k,op with
  |.slice _,.eql=>K (.val .bool b)
  |.slice _,.neq=>K (.val .bool (!b))
  |_,_=>none)else none
 |x,y=>
  bif !T.eqOk 6 t then none else
  match(T.at t).k,(T.at t).ty with
  |.struct _,some ty=>
   match x.as [] ty,y.as [] ty,op with
   |some a,some b,.eql=>K (.val .bool (ty.same a b))
   |some a,some b,.neq=>K (.val .bool (!ty.same a b))
   |_,_,_=>none
  |_,_=>none
def Ez:List (Int×Int)->Int->Option Int
 |[],_=>none
 |(k,v)::l,a=>bif bJ a k then some v else Ez l a
def qG (l:List (Int×Int)) (a:Int):Int:=match Ez l a with
 |some v=>v
 |none=>0
def avi (l:List (Int×Int)) (a:Int):Bool:=match Ez l a with
 |some _=>true
 |none=>false
def uZ:List (Int×Int)->Int->Int->List (Int×Int)
 |[],a,b=>[(a,b)]
 |(k,v)::l,a,b=>bif bJ a k then(k,b)::l else(k,v)::uZ l a b
def TT.mapOf (T:TT) (t:TypeId):Option (IntKind×IntKind):=bif(T.at t).known then(match(T.at t).k with
 |.map k e=>bif(T.at k).known&&(T.at e).known then(match(T.at k).k,(T.at e).k with
  |.int a,.int b=>some (a,b)
  |_,_=>none)else none
 |_=>none)else none
def awP (hp:gI) (x y:bK):Bool:=match x with
 |.slc id ver _=>(match y with
  |.nils=>(match dK hp id with
   |some (.arr _ v ys)=>v==ver&&Qa 0 ys.length
   |_=>false)
  |_=>false)
 |_=>false
def avO (hp:gI) (x y:bK):Bool:=match x with
 |.ptr id _=>(match y with
  |.nilp=>(match dK hp id with
   |some (.box _ _)=>true
   |_=>false)
  |_=>false)
 |_=>false
def Td (T:TT) (hp:gI) (op:BinOp) (t:TypeId) (x y:bK) (K:bK->Option R):Option R:=
 bif awP hp x y then(bif(T.at t).known then(match(T.at t).k,op with
  |.slice _,.eql=>K (.val .bool false)
  |.slice _,.neq=>K (.val .bool true)
  |_,_=>none)else none)else bif avO hp x y then(bif(T.at t).known then(match(T.at t).k,op with
  |.ptr _,.eql=>K (.val .bool false)
  |.ptr _,.neq=>K (.val .bool true)
  |_,_=>none)else none)else adI T op t x y K
def asH (op:UnOp) (x:bK) (K:bK->Option R):Option R:=
 match op,x with
 |.not,.val .bool b=>K (.val .bool (!b))
 |.neg,.val (.int k) a=>K (.val (.int k) (dR k 0 a))
 |_,_=>none
def ED (cl:Bool) (st:St) (dst:Option Nat):Nat:=bif cl then st.nxt else 1000000*st.stk.length+dst.getD 0
def alloc (cl:Bool) (dst:Option Nat) (o:dI) (st:St) (K:Nat->St->Option R):Option R:=
 match dK st.hp (ED cl st dst)with
 |some _=>none
 |none=>bif st.nxt.ble (ED cl st dst)then K (ED cl st dst) {st with hp:=(ED cl st dst,o)::st.hp,nxt:=bif cl then ED cl st dst+1 else st.nxt}else none
def Jy (cs:List bK) (off k:Nat):Option (List bK):=bif(off+k).ble cs.length then some ((cs.drop off).take k)else none
def putCells (cs:List bK) (off:Nat) (vs:List bK):Option (List bK):=
 bif(off+vs.length).ble cs.length then some (cs.take off++vs++cs.drop (off+vs.length))else none
def MJ (T:TT) (hp:gI) (t:TypeId) (a:bK) (K:bK->Option R):Option R:=
 bif !(T.at t).known then none else
 match a with
 |.cellp u x=>match(T.at t).ty with
  |some u'=>match jX u' x with
   |some y=>K (.val u' y)
   |none=>none
  |none=>none
 |.ptr id off=>match dK hp id with
  |some (.box _ cs)=>match Jy cs off (T.at t).size with
   |some l=>K (norm (T.at t) l)
   |none=>none
  |_=>none
 |.ep id ver i off=>match dK hp id with
  |some (.arr u v xs)=>bif v==ver then
    (bif Qa i xs.length then
     (match Jy (flat u (xs.getD i u.dflt)) off (T.at t).size with
     |some l=>K (norm (T.at t) l)
     |none=>none)else none)else none
  |_=>none
 |_=>none
def JM (T:TT) (st:St) (t:TypeId) (a v:bK) (K:St->Option R):Option R:=
 match v.cells with
 |none=>none
 |some vs=>
  bif(T.at t).known&&vs.length==(T.at t).size then
   match a with
   |.ptr id off=>match dK st.hp id with
    |some (.box bt cs)=>match putCells cs off vs with
     |some cs'=>K {st with hp:=ji st.hp id (.box bt cs')}
     |none=>none
    |_=>none
   |.ep id ver i off=>match dK st.hp id with
    |some (.arr u w xs)=>bif w==ver then
      (bif Qa i xs.length then
       (match putCells (flat u (xs.getD i u.dflt)) off vs with
       |some cs=>match H6 u cs with
        |some x=>K {st with hp:=ji st.hp id (.arr u w (ig xs i x))}
        |none=>none
       |none=>none)else none)else none
    |_=>none
   |_=>none
  else none
def adJ (old:gI) (st:St) (a v:bK) (K:St->Option R):Option R:=
 match a,v with
 |.ptr id off,.slc i _ (some _)=>match dK old id with
  |some (.box _ cs0)=>match cs0.getD off .undef with
   |.slc i0 _ none=>bif Nat.beq i0 i&& !Nat.beq i id then
     (match dK st.hp id,dK st.hp i with
     |some (.box bt cs),some (.arr e w xs)=>match cs.getD off .undef with
      |.slc i1 w1 (some (lo,hi))=>bif Nat.beq i1 i&&(w1==w&&lo==0)then
        K {st with hp:=ji (ji st.hp i (.arr e (w+1) (xs.take hi.toNat))) id (.box bt (cs.set off (.slc i (w+1) none)))}else K st
      |_=>K st
     |_,_=>K st)else K st
   |_=>K st
  |_=>K st
 |_,_=>K st
def JI (T:TT) (fs:List (Nat×TypeId)) (cs:List bK):List (Nat×bK)->Option (List bK)
 |[]=>some cs
 |(i,v)::rest=>match fs[i]?,v.cells with
  |some (off,ft),some vs=>bif(T.at ft).known&&vs.length==(T.at ft).size then
    (match putCells cs off vs with
    |some cs'=>JI T fs cs' rest
    |none=>none)else none
  |_,_=>none
def JK (e:Ty) (xs:List e.den):List (Nat×bK)->Option (List e.den)
 |[]=>some xs
 |(i,v)::rest=>match v.as [] e with
  |some x=>bif Qa i xs.length then JK e (xs.set i x) rest else none
  |none=>none
def intOf:bK->Option Int
 |.val (.int _) n=>some n
 |_=>none
def bound (d:Int):Option bK->Option Int
 |none=>some d
 |some v=>intOf v
def TT.rowOf (T:TT) (t:TypeId) (size:Nat):Bool:=
 match(T.at t).k with
 |.slice e=>(T.at t).known&&((T.at e).known&&((T.at e).size==size&&(Qa 0 size&&Qa 0 (T.at e).bytes)))
 |_=>false
def TT.isPtr (T:TT) (t:TypeId):Bool:=
 match(T.at t).k with
 |.ptr _=>(T.at t).known
 |_=>false
def TT.isBytes (T:TT) (t:TypeId):Bool:=
 match(T.at t).k with
 |.ptr e=>(T.at t).known&&((T.at e).known&&(match(T.at e).ty with|some (.int .u8)=>Nat.beq (T.at e).size 1|_=>false))
 |_=>false
def TT.isStr (T:TT) (t:TypeId):Bool:=
 match(T.at t).k with
 |.str=>(T.at t).known
 |_=>false
def JL (T:TT) (hp:gI) (t:TypeId) (x:bK) (lo hi mx:Option bK) (K:bK->Option R):Option R:=
 match x,mx with
 |.val .str s,none=>match bound 0 lo,bound (bC s) hi with
  |some l,some h=>mf (T.isStr t&&eU (bC s) l h) (K (.val .str (sub s l h)))
  |_,_=>none
 |.val (.list e) xs,none=>match bound 0 lo,bound (bC xs) hi with
  |some l,some h=>mf (T.rowOf t e.size&&eU (bC xs) l h) (K (.val (.list e) (sub xs l h)))
  |_,_=>none
 |.val (.list e) xs,some m=>match bound 0 lo,hi.bind intOf,intOf m with
  |some l,some h,some k=>mf (T.rowOf t e.size&&(l==0&&(h==0&&k==0))) (K .emp)
  |_,_,_=>none
 |.nils,none=>match bound 0 lo,bound 0 hi with
  |some l,some h=>mf (T.rowOf t (T.at (match(T.at t).k with|.slice e=>e|_=>0)).size&&(bJ l 0&&bJ h 0)) (K .nils)
  |_,_=>none
 |.slc id ver none,none=>match dK hp id with
  |some (.arr e v xs)=>bif v==ver then
    (match bound 0 lo,bound (bC xs) hi with
    |some l,some h=>mf (T.rowOf t e.size&&eU (bC xs) l h) (K (.slc id ver (some (l,h))))
    |_,_=>none)else none
  |_=>none
 |_,_=>none
def TT.fieldAt (T:TT) (t:TypeId) (f:Nat):Option (Nat×TypeId):=
 match(T.at t).k with
 |.struct fs=>bif(T.at t).known then
   (match fs[f]? with
   |some (off,ft)=>bif(T.at ft).known&&Qa 0 (T.at ft).size then some (off,ft)else none
   |none=>none)else none
 |_=>none
def uw (T:TT) (hp:gI) (t:TypeId) (x:bK) (f:Nat) (K:bK->Option R):Option R:=
 match T.fieldAt t f with
 |some (off,_)=>match x with
  |.cellp u x=>match(T.at t).ty with
   |some u'=>match jX u' x with
    |some y=>K (Tm u' y f)
    |none=>none
   |none=>none
  |.ptr id o=>match dK hp id with
   |some (.box _ _)=>K (.ptr id (o+off))
   |_=>none
  |.ep id ver i o=>match dK hp id with
   |some (.arr _ v _)=>bif v==ver then K (.ep id ver i (o+off))else none
   |_=>none
  |_=>none
 |none=>none
def JJ (T:TT) (t:TypeId) (x:bK) (f:Nat) (K:bK->Option R):Option R:=
 match T.fieldAt t f with
 |some (off,ft)=>match x with
  |.val u x=>match(T.at t).ty with
   |some u'=>match jX u' x with
    |some y=>K (Ze u' y f)
    |none=>none
   |none=>none
  |.agg l=>match Jy l off (T.at ft).size with
   |some cs=>K (norm (T.at ft) cs)
   |none=>none
  |_=>none
 |none=>none
def uy (T:TT) (hp:gI) (t:TypeId) (x i:bK) (K:bK->Option R):Option R:=
 match intOf i with
 |none=>none
 |some i=>match x with
  |.val (.list e) xs=>mf (T.rowOf t e.size&&fB xs i) (K (.cellp e (dQ xs e.dflt i)))
  |.slc id ver vw=>match dK hp id with
   |some (.arr e v xs)=>bif v==ver then
     (match vw with
     |none=>mf (T.rowOf t e.size&&fB xs i) (K (.ep id ver i.toNat 0))
     |some (lo,hi)=>mf (T.rowOf t e.size&&(decide (0<=i)&&gU (lo+i) hi)) (K (.ep id ver (lo+i).toNat 0)))else none
   |_=>none
  |_=>none
def adK (T:TT) (hp:gI) (t:TypeId) (x:bK) (K:bK->Option R):Option R:=
 match x with
 |.val .str s=>mf (T.isStr t) (K (.val (.int .i64) (bC s)))
 |.val (.list e) xs=>mf (T.rowOf t e.size) (K (.val (.int .i64) (bC xs)))
 |.nils=>mf (T.rowOf t (T.at (match(T.at t).k with|.slice e=>e|_=>0)).size) (K (.val (.int .i64) 0))
 |.slc id ver vw=>match dK hp id with
  |some (.arr e v xs)=>bif v==ver then
    mf (T.rowOf t e.size) (match vw with
    |none=>K (.val (.int .i64) (bC xs))
    |some (lo,hi)=>K (.val (.int .i64) (hi-lo)))else none
  |_=>none
 |_=>none
def JH (T:TT) (cl:Bool) (dst:Option Nat) (t:TypeId) (s x:bK) (st:St) (K:bK->St->Option R):Option R:=
 match(T.at t).k with
 |.slice et=>match(T.at et).ty with
  |some e=>match x.as st.hp (.list e)with
   |none=>none
   |some ys=>match s with
    |.nils=>mf (T.rowOf t e.size&&dO ys (T.at et).bytes) (alloc cl dst (.arr e 0 ys) st fun id st=>K (.slc id 0 none) st)
    |.emp=>mf (T.rowOf t e.size&&dO ys (T.at et).bytes) (bif Qa 0 ys.length then alloc cl dst (.arr e 0 ys) st fun id st=>K (.slc id 0 none) st else K .emp st)
    |.slc id ver vw=>match dK st.hp id with
     |some (.arr e' v xs)=>bif v==ver then
       (match jX (t':=.list e') (.list e) xs with
       |some xs=>match vw with
        |none=>mf (T.rowOf t e.size&&dO (xs++ys) (T.at et).bytes) (K (.slc id (ver+1) none) {st with hp:=ji st.hp id (.arr e (ver+1) (xs++ys))})
        |some (lo,hi)=>mf (T.rowOf t e.size&&(bJ lo 0&&dO (xs.take hi.toNat++ys) (T.at et).bytes))
          (K (.slc id (ver+1) none) {st with hp:=ji st.hp id (.arr e (ver+1) (xs.take hi.toNat++ys))})
       |none=>none)else none
     |_=>none
    |_=>none
  |none=>none
 |_=>none
def Ag (T:TT) (cl:Bool) (dst:Option Nat) (t t':TypeId) (s x:bK) (st:St) (K:bK->St->Option R):Option R:=
 match(T.at t).k,x with
 |.slice et,.val .str y=>match(T.at et).ty with
  |some (.int .u8)=>bif T.isStr t'&&T.rowOf t 1&&Nat.beq (T.at et).bytes 1 then
    (match s with
    |.nils=>mf (aKf y) (alloc cl dst (.arr (.int .u8) 0 (dh y)) st fun id st=>K (.slc id 0 none) st)
    |.slc id ver vw=>match dK st.hp id with
     |some (.arr (.int .u8) v xs)=>bif v==ver then
       (match vw with
       |none=>mf (dO (xs++dh y) 1) (K (.slc id (ver+1) none) {st with hp:=ji st.hp id (.arr (.int .u8) (ver+1) (xs++dh y))})
       |some _=>none)else none
     |_=>none
    |_=>none)else none
  |_=>none
 |_,_=>none
def Ah (T:TT) (s d:TypeId) (x:bK) (hp:gI) (K:bK->Option R):Option R:=
 bif !((T.at s).known&&(T.at d).known)then none else
 match(T.at s).k,(T.at d).k,x with
 |.int _,.int k,.val (.int _) n=>K (.val (.int k) (k.wrap n))
 |.str,.str,.val .str s=>K (.val .str s)
 |.slice e,.str,x=>match(T.at e).k with
  |.int .u8=>match x.as hp (.list (.int .u8))with
   |some xs=>mf (T.at e).known (K (.val .str (ofBytes xs)))
   |none=>none
  |_=>none
 |_,_,_=>none
abbrev gq (R:Type):=bK->List bK->Option Nat->St->(bK->St->Option R)->Option R
def BG (k:IntKind):List bK->Option (List Int)
 |[]=>some []
 |.val (.int k') a::l=>if k=k' then match BG k l with
   |some l=>some (a::l)
   |none=>none
  else none
 |_=>none
def jV (T:TT) (cl:Bool) (o:Oper) (b:Builtin) (ts:List TypeId) (args:List bK) (st:St) (K:bK->St->Option R):Option R:=
 match b,args with
 |.len,[x]=>match ts with
  |[t]=>adK T st.hp t x fun v=>K v st
  |_=>none
 |.min,.val (.int k) a::l=>match BG k l with
  |some l=>K (.val (.int k) (l.foldl I5 a)) st
  |none=>none
 |.max,.val (.int k) a::l=>match BG k l with
  |some l=>K (.val (.int k) (l.foldl CJ a)) st
  |none=>none
 |.append,[s,x]=>match ts with
  |[t,t']=>bif t==t' then JH T cl o.dst t s x st K else Ag T cl o.dst t t' s x st K
  |_=>none
 |.unsafeSliceData,[.slc id ver none]=>match ts with
  |[t]=>match dK st.hp id with
   |some (.arr e v _)=>bif v==ver&&(T.rowOf t e.size&&T.isPtr o.type)then K (.sd id ver) st else none
   |_=>none
  |_=>none
 |.unsafeString,[.sd id ver,.val (.int .i64) n]=>match ts with
  |[pt,_]=>match dK st.hp id with
   |some (.arr (.int .u8) v xs)=>bif v==ver&&T.isBytes pt then mf (bJ n (bC xs)) (K (.val .str (ofBytes xs)) {st with hp:=ji st.hp id .dead})else none
   |_=>none
  |_=>none
 |_,_=>none
def dX (T:TT) (cl:Bool) (call:gq R) (o:Oper) (st:St) (K:bK->St->Option R):Option R:=
 match o.op with
 |.move x|.assign x=>K (gV st.fr x) st
 |.pick c a b=>match gV st.fr c with
  |.val .bool t=>bif t then K (gV st.fr a) st else K (gV st.fr b) st
  |_=>none
 |.alloc t=>bif(T.at t).known then
   (match(T.at t).k,(T.at t).zero with
   |.slice et,[.nils]=>match(T.at et).ty with
    |some e=>bif Qa 0 e.size then alloc cl (some (o.dst.getD 0+500000)) (.arr e 0 []) st fun i st=>alloc cl o.dst (.box t [.slc i 0 none]) st fun id st=>K (.ptr id 0) st
     else none
    |none=>alloc cl o.dst (.box t (T.at t).zero) st fun id st=>K (.ptr id 0) st
   |.struct _,[.nilp,.nils]=>bif(T.at t).bld then
     alloc cl (some (o.dst.getD 0+500000)) (.arr (.int .u8) 0 []) st fun i st=>alloc cl o.dst (.box t [.slf (ED cl st o.dst),.slc i 0 none]) st fun id st=>K (.ptr id 0) st
    else alloc cl o.dst (.box t (T.at t).zero) st fun id st=>K (.ptr id 0) st
   |_,z=>alloc cl o.dst (.box t z) st fun id st=>K (.ptr id 0) st)else none
 |.box t x=>match(gV st.fr x).cells with
  |some vs=>bif(T.at t).known&&vs.length==(T.at t).size then alloc cl o.dst (.box t vs) st fun id st=>K (.ptr id 0) st else none
  |none=>none
 |.build t parts=>bif !(T.at t).known then none else
  match(T.at t).k with
  |.struct fs=>match JI T fs (T.at t).zero (parts.toList.map fun p=>(p.1,gV st.fr p.2))with
   |some cs=>K (norm (T.at t) cs) st
   |none=>none
  |_=>none
 |.buildSlice t n parts=>match(T.at t).k with
  |.slice et=>match(T.at et).ty with
   |some e=>match H6 e (T.at et).zero with
    |some d=>bif T.rowOf t e.size&&leN (n*e.size) 1000000 then
      (match JK e (List.replicate n d) (parts.toList.map fun p=>(p.1,gV st.fr p.2))with
      |some xs=>alloc cl o.dst (.arr e 0 xs) st fun id st=>K (.slc id 0 none) st
      |none=>none)else none
    |none=>none
   |none=>none
  |_=>none
 |.load t a=>MJ T st.hp t (gV st.fr a) fun v=>K v st
 |.store t a v=>JM T st t (gV st.fr a) (gV st.fr v) fun st'=>adJ st.hp st' (gV st.fr a) (gV st.fr v) fun st=>K .undef st
 |.nilCheck x=>match gV st.fr x with
  |.ptr id off=>match dK st.hp id with
   |some (.box _ _)=>K (.ptr id off) st
   |_=>none
  |.cellp t x=>K (.cellp t x) st
  |.ep id ver i off=>match dK st.hp id with
   |some (.arr _ v _)=>bif v==ver then K (.ep id ver i off) st else none
   |_=>none
  |_=>none
 |.binOp op t x y _=>Td T st.hp op t (gV st.fr x) (gV st.fr y) fun v=>K v st
 |.unOp op _ x=>asH op (gV st.fr x) fun v=>K v st
 |.makeMap t r=>match r,T.mapOf t with
  |none,some (kk,vk)=>alloc cl o.dst (.mp kk vk []) st fun id st=>K (.mpv id) st
  |_,_=>none
 |.mapUpdate t m k x=>match T.mapOf t,gV st.fr m with
  |some (kk,vk),.mpv id=>match dK st.hp id,gV st.fr k,gV st.fr x with
   |some (.mp kk' vk' es),.val (.int kk'') a,.val (.int vk'') b=>
    bif decide (kk'=kk)&&(decide (kk''=kk)&&(decide (vk'=vk)&&decide (vk''=vk)))then K .undef {st with hp:=ji st.hp id (.mp kk vk (uZ es a b))}else none
   |_,_,_=>none
  |_,_=>none
 |.lookup t m k ok=>match T.mapOf t,gV st.fr m with
  |some (kk,vk),.mpv id=>match dK st.hp id,gV st.fr k with
   |some (.mp kk' vk' es),.val (.int kk'') a=>
    bif decide (kk'=kk)&&(decide (kk''=kk)&&decide (vk'=vk))then
     K (bif ok then .tup [.val (.int vk) (qG es a),.val .bool (avi es a)]else .val (.int vk) (qG es a)) st else none
   |_,_=>none
  |_,_=>none
 |.convert s d x=>Ah T s d (gV st.fr x) st.hp fun v=>K v st
 |.makeFunc f first caps=>match f,first.toList with
  |.func f,[]=>K (.fn f (caps.toList.map (gV st.fr))) st
  |.func f,l=>bif caps.toList.isEmpty then K (.mfn f (l.map (gV st.fr))) st else none
  |_,_=>none
 |.makeSlice t l c=>match(T.at t).k with
  |.slice et=>match(T.at et).ty,intOf (gV st.fr l),intOf (gV st.fr c)with
   |some e,some l,some c=>match H6 e (T.at et).zero with
    |some d=>mf (T.rowOf t e.size&&(decide (0<=l)&&(decide (l<=c)&&decide (c.toNat*(T.at et).bytes<=lC))))
      (alloc cl o.dst (.arr e 0 (List.replicate l.toNat d)) st fun id st=>K (.slc id 0 none) st)
    |none=>none
   |_,_,_=>none
  |_=>none
 |.slice t x lo hi mx=>JL T st.hp t (gV st.fr x) (lo.map (gV st.fr)) (hi.map (gV st.fr)) (mx.map (gV st.fr)) fun v=>K v st
 |.fieldAddr t x f=>uw T st.hp t (gV st.fr x) f fun v=>K v st
 |.field t x f=>JJ T t (gV st.fr x) f fun v=>K v st
 |.indexAddr t x i=>uy T st.hp t (gV st.fr x) (gV st.fr i) fun v=>K v st
 |.index t x i=>match gV st.fr x,intOf (gV st.fr i)with
  |.val .str s,some i=>mf (T.isStr t&&fB s i) (K (.val (.int .u8) (bT s i)) st)
  |_,_=>none
 |.extract x n=>match gV st.fr x with
  |.tup l=>match l[n]? with
   |some v=>K v st
   |none=>none
  |_=>none
 |.call c=>match c.callee with
  |.builtin b=>jV T cl o b c.argTypes.toList (c.args.toList.map (gV st.fr)) st K
  |.value f=>call (gV st.fr f) (c.args.toList.map (gV st.fr)) o.dst st K
  |_=>none
 |_=>none
def St.put (st:St) (dst:Option Nat) (v:bK):St:=
 match dst with
 |some d=>{st with fr:=st.fr.set d v}
 |none=>st
def gZ (T:TT) (cl:Bool) (call:gq R) (ops:Array Oper) (K:St->Option R):List Oper->St->Option R
 |[],st=>K st
 |o::rest,st=>
  match o.guard with
  |none=>dX T cl call o st fun v st=>gZ T cl call ops K rest (st.put o.dst v)
  |some (j,want)=>match(ops[j]?).bind (·.dst)with
   |none=>none
   |some d=>match st.fr.getD d .undef with
    |.val .bool b=>
     bif b then
      (bif want then dX T cl call o (st.put (some d) (.val .bool true)) fun v st=>gZ T cl call ops K rest (st.put o.dst v)
      else gZ T cl call ops K rest ((st.put (some d) (.val .bool true)).put o.dst (.tup [])))
     else
      (bif want then gZ T cl call ops K rest ((st.put (some d) (.val .bool false)).put o.dst (.tup []))
      else dX T cl call o (st.put (some d) (.val .bool false)) fun v st=>gZ T cl call ops K rest (st.put o.dst v))
    |.tup []=>gZ T cl call ops K rest (st.put o.dst (.tup []))
    |_=>none
mutual
def refs:bK->List Nat
 |.ptr id _=>[id]
 |.slc id _ _=>[id]
 |.ep id _ _ _=>[id]
 |.slf id=>[id]
 |.sd id _=>[id]
 |.yld id=>[id]
 |.tup l=>oN l
 |.agg l=>oN l
 |.fn _ l=>oN l
 |.mfn _ l=>oN l
 |.mpv id=>[id]
 |_=>[]
def oN:List bK->List Nat
 |[]=>[]
 |v::l=>refs v++oN l
end
def zQ:List (List bK)->List Nat
 |[]=>[]
 |l::ls=>oN l++zQ ls
def dI.refs:dI->List Nat
 |.box _ cs=>oN cs
 |.lp _ fr _ _ _ _ _ _=>oN fr
 |_=>[]
def DC:gI->List Nat
 |[]=>[]
 |(_,o)::h=>o.refs++DC h
def ZY (l:List Nat) (i:Nat):Bool:=l.any (Nat.beq i)
def avT (h:gI):Nat->List Nat->List Nat
 |0,l=>l
 |n+1,l=>avT h n (l++DC (h.filter fun e=>ZY l e.1))
def Nw (d l:List Nat):Bool:=l.all fun i=> !ZY d i
def gc (mark:Nat) (v:bK) (st:St):Option St:=
 let old:=st.hp.filter fun e=>Nat.blt e.1 mark
 let new:=st.hp.filter fun e=> !Nat.blt e.1 mark
 let live:=avT new 3 (refs v++oN st.fr++zQ st.stk++DC old)
 let kept:=st.hp.filter fun e=>Nat.blt e.1 mark||ZY live e.1
 let gone:=((st.hp.filter fun e=> !(Nat.blt e.1 mark||ZY live e.1)).map (·.1))
 bif Nw gone (refs v++oN st.fr++zQ st.stk++DC kept)then some {st with hp:=kept}else none
def aDu (h:gI) (id:Nat):Option Nat:=
 match dK h id with
 |some (.arr _ v _)=>some v
 |_=>none
def TJ (h:gI) (id ver:Nat):Bool:=match aDu h id with
 |some v=>v==ver
 |none=>false
mutual
def anew (h:gI):bK->bK
 |.slc id ver vw=>bif TJ h id ver then .slc id 0 vw else .undef
 |.ep id ver i off=>bif TJ h id ver then .ep id 0 i off else .undef
 |.sd id ver=>bif TJ h id ver then .sd id 0 else .undef
 |.tup l=>.tup (zZ h l)
 |.agg l=>.agg (zZ h l)
 |.fn f l=>.fn f (zZ h l)
 |.mfn f l=>.mfn f (zZ h l)
 |v=>v
def zZ (h:gI):List bK->List bK
 |[]=>[]
 |v::l=>anew h v::zZ h l
end
def dI.anew (h:gI):dI->dI
 |.box t cs=>.box t (zZ h cs)
 |.lp f fr ps a b k n p=>.lp f (zZ h fr) ps a b k n p
 |.arr t _ xs=>.arr t 0 xs
 |o=>o
def YN (st:St):St:=
 {st with fr:=zZ st.hp st.fr,stk:=st.stk.map (zZ st.hp),hp:=st.hp.map fun e=>(e.1,e.2.anew st.hp)}
structure dW where
 slots:List Nat
 owns:List (Nat×Ty)
 after:List Nat
 aowns:List (Nat×Ty)
 rets:List Nat
 give:List (Nat×Ty)
def HY (l:List Nat):Nat->List bK->List bK
 |_,[]=>[]
 |i,v::r=>(bif ZY l i then v else .undef)::HY l (i+1) r
def yL (s:Nat) (t:Ty) (st:St):Option St:=
 match st.fr.getD s .undef with
 |.nils=>match dK st.hp (1000000*st.stk.length+800000+s)with
  |some _=>none
  |none=>bif st.nxt.ble (1000000*st.stk.length+800000+s)&&Nat.blt 0 t.size then
    some {st with fr:=st.fr.set s (.slc (1000000*st.stk.length+800000+s) 0 none),hp:=(1000000*st.stk.length+800000+s,.arr t 0 [])::st.hp}else none
 |.slc id ver vw=>match dK st.hp id with
  |some (.arr u w xs)=>bif w==ver then
    (match vw with
    |none=>some st
    |some (lo,hi)=>bif lo==0 then
      some {st with fr:=st.fr.set s (.slc id (ver+1) none),hp:=ji st.hp id (.arr u (ver+1) (xs.take hi.toNat))}else none)else none
  |_=>none
 |_=>none
def atx (k:Nat) (o:dI):gI->gI
 |[]=>[(k,o)]
 |(j,p)::h=>bif Nat.ble j k then(k,o)::(j,p)::h else(j,p)::atx k o h
def nY:gI->gI
 |[]=>[]
 |(k,o)::h=>atx k o (nY h)
def UG (id off:Nat) (t:Ty) (st:St):Option St:=
 match dK st.hp id with
 |some (.box bt cs)=>match cs.getD off .undef with
  |.nils=>match t with
   |.pair .unit t'=>some {st with hp:=ji st.hp id (.box bt (cs.set off (.val (.list t') [])))}
   |t=>match dK st.hp (id+500000+2000*off)with
    |some _=>none
    |none=>bif st.nxt.ble (id+500000+2000*off)&&Nat.blt 0 t.size then
      some {st with hp:=ji ((id+500000+2000*off,.arr t 0 [])::st.hp) id (.box bt (cs.set off (.slc (id+500000+2000*off) 0 none)))}else none
  |_=>some st
 |_=>some st
def Qs (id off:Nat) (t:Ty) (st:St):Option St:=
 match UG id off t st with
 |some st=>some {st with hp:=nY st.hp}
 |none=>none
def Ei (s:Nat) (t:Ty) (st:St):Option St:=
 match st.fr.getD s .undef with
 |.nils=>some {st with fr:=st.fr.set s (.val (.list t) [])}
 |.emp=>some {st with fr:=st.fr.set s (.val (.list t) [])}
 |.slc id ver none=>match dK st.hp id with
  |some (.arr u w xs)=>bif w==ver&&Nw ((st.hp.filter fun e=> !(!Nat.beq e.1 id)).map (·.1)) (oN (st.fr.set s .undef)++zQ st.stk++DC (st.hp.filter fun e=> !Nat.beq e.1 id))then
    some {st with fr:=st.fr.set s (.val (.list u) xs),hp:=st.hp.filter fun e=> !Nat.beq e.1 id}else none
  |_=>none
 |.slc _ _ (some _)=>none
 |_=>some st
def QI (s:Nat) (t:Ty) (st:St):Option St:=
 match st.fr.getD s .undef with
 |.slc id ver none=>bif Nat.beq id (1000000*st.stk.length+800000+s)then some {st with hp:=nY st.hp}else
  match dK st.hp id with
  |some (.arr u w xs)=>bif st.nxt.ble (1000000*st.stk.length+800000+s)&&Nw [id,1000000*st.stk.length+800000+s] (oN (st.fr.set s .undef)++zQ st.stk++DC (st.hp.filter fun e=> !(Nat.beq e.1 id||Nat.beq e.1 (1000000*st.stk.length+800000+s))))then
    some {st with fr:=st.fr.set s (.slc (1000000*st.stk.length+800000+s) ver none),hp:=nY ((1000000*st.stk.length+800000+s,.arr u w xs)::st.hp.filter fun e=> !(Nat.beq e.1 id||Nat.beq e.1 (1000000*st.stk.length+800000+s)))}else none
  |_=>none
 |_=>match yL s t st with
  |some st=>some {st with hp:=nY st.hp}
  |none=>none
def FZ:List (Nat×Ty)->St->Option St
 |[],st=>some st
 |(s,t)::l,st=>match Ei s t st with
  |some st=>FZ l st
  |none=>none
def jF:List (Nat×Ty)->St->Option St
 |[],st=>some st
 |(s,.pair .unit t)::l,st=>match Ei s t st with
  |some st=>jF l st
  |none=>none
 |(s,.pair (.list .unit) t)::l,st=>match Qs (s/100) (s %100) t st with
  |some st=>jF l st
  |none=>none
 |(s,.pair (.list .bool) t)::l,st=>match QI s t st with
  |some st=>jF l st
  |none=>none
 |(s,t)::l,st=>match yL s t st with
  |some st=>jF l st
  |none=>none
def LZ (slots:List Nat) (owns:List (Nat×Ty)) (st:St):Option St:=
 match(match owns with
  |[]=>some {st with fr:=HY slots 0 st.fr}
  |_=>gc (1000000*st.stk.length) .undef {st with fr:=HY slots 0 st.fr})with
 |some st=>match jF owns st with
  |some st=>match gc (1000000*st.stk.length) .undef st with
   |some st=>some (YN st)
   |none=>none
  |none=>none
 |none=>none
def ayl (k:dW) (st:St):Option St:=
 match FZ k.give {st with fr:=HY k.rets 0 st.fr}with
 |some st=>match gc (1000000*st.stk.length) .undef st with
  |some st=>some (YN st)
  |none=>none
 |none=>none
def iter (kp:Option dW) (F:St->(Ex->St->Option R)->Option R):Nat->St->(Ex->St->Option R)->Option R
 |0,_,_=>none
 |n+1,st,K=>F st fun ex st=>match ex with
  |.normal=>match kp with
   |none=>iter kp F n st K
   |some k=>match LZ k.slots k.owns st with
    |some st=>iter kp F n st K
    |none=>none
  |.ret=>match kp with
   |none=>K .ret st
   |some k=>match ayl k st with
    |some st=>K .ret st
    |none=>none
  |ex=>match kp with
   |none=>K ex st
   |some k=>match LZ k.after k.aowns st with
    |some st=>K ex st
    |none=>none
def dn:Code->Nat
 |.region id _ _=>id
 |.seq a _=>dn a
 |.block _ c=>dn c
 |.loop c=>dn c
 |.scope c=>dn c
 |.cond _ a _=>dn a
 |_=>0
def bH:Nat:=10000000000000000000000000000000000000000
def Ty.rigid:Ty->Bool
 |.list _=>false
 |.pair a b=>a.rigid&&b.rigid
 |_=>true
structure Sum where
 ps:List Ty
 rs:List (Ty×Bool)
 f:(ps.foldr Ty.pair Ty.unit).den->Option ((rs.map (·.1)).foldr Ty.pair Ty.unit).den
def Aa (hp:gI):(ps:List Ty)->List bK->Option (ps.foldr Ty.pair Ty.unit).den
 |[],[]=>some ()
 |t::ts,v::vs=>match v.as hp t with
  |some x=>match Aa hp ts vs with
   |some y=>some (x,y)
   |none=>none
  |none=>none
 |_,_=>none
def Ty.elem:Ty->Ty
 |.list t=>t
 |t=>t
def oL (id:Nat):(rs:List (Ty×Bool))->((rs.map (·.1)).foldr Ty.pair Ty.unit).den->List bK
 |[],_=>[]
 |(t,false)::rs,y=>.val t y.1::oL id rs y.2
 |(_,true)::rs,y=>.slc id 0 none::oL id rs y.2
def yI:(rs:List (Ty×Bool))->((rs.map (·.1)).foldr Ty.pair Ty.unit).den->Option (Σ e:Ty,List e.den)
 |[],_=>none
 |(_,false)::rs,y=>yI rs y.2
 |(.list e,true)::_,y=>some ⟨e,y.1⟩
 |(_,true)::_,_=>none
def mi:bK->Bool
 |.slc _ _ _=>true
 |.agg _=>true
 |_=>false
def NR:List bK->bK
 |[v]=>v
 |vs=>.tup vs
def news:List (Ty×Bool)->Nat
 |[]=>0
 |(_,false)::rs=>news rs
 |(_,true)::rs=>news rs+1
def bz {α β:Type} (o:Option α) (k:α->Option β):Option β:=
 match o with
 |some x=>k x
 |none=>none
def Sum.call (s:Sum) (cl:Bool) (args:List bK) (dst:Option Nat) (st:St) (K:bK->St->Option R):Option R:=
 bif s.rs.all (fun r=>r.1.rigid||(r.2&&r.1.elem.rigid))|| !args.any mi then
  match Aa st.hp s.ps args with
  |some x=>bz (s.f x) fun y=>match yI s.rs y with
   |none=>bif Nat.beq (news s.rs) 0 then K (NR (oL 0 s.rs y)) st else none
   |some ⟨e,xs⟩=>bif Nat.beq (news s.rs) 1 then alloc cl (some (dst.getD 0+100000)) (.arr e 0 xs) st fun id st=>K (NR (oL id s.rs y)) st else none
  |none=>none
 else none
structure fP where
 bt:TypeId
 cs:List (Ty×Bool)
 ps:List Ty
 rs:List Ty
 f:((cs.map (·.1)).foldr Ty.pair Ty.unit).den->(ps.foldr Ty.pair Ty.unit).den->Option (((cs.map (·.1)).foldr Ty.pair Ty.unit).den×(rs.foldr Ty.pair Ty.unit).den)
def JF:(ps:List Ty)->(ps.foldr Ty.pair Ty.unit).den->List bK
 |[],_=>[]
 |t::ps,x=>.val t x.1::JF ps x.2
def oI:List (Ty×Bool)->List bK->List (Nat×Nat)
 |(_,true)::cs,.slc id ver _::vs=>(id,ver)::oI cs vs
 |_::cs,_::vs=>oI cs vs
 |_,_=>[]
def ut:List (Ty×Bool)->List bK->List Nat
 |(_,false)::cs,v::vs=>refs v++ut cs vs
 |_::cs,_::vs=>ut cs vs
 |_,_=>[]
def jL (hp:gI) (strict:Bool):(cs:List (Ty×Bool))->List bK->Option ((cs.map (·.1)).foldr Ty.pair Ty.unit).den
 |[],[]=>some ()
 |(t,false)::cs,v::vs=>bif strict&&(mi v&& !t.rigid)then none else match v.as hp t with
  |some x=>match jL hp strict cs vs with
   |some y=>some (x,y)
   |none=>none
  |none=>none
 |(.list e,true)::cs,.slc id ver none::vs=>match dK hp id with
  |some (.arr t v xs)=>bif v==ver then(match jX (.list e) (t':=.list t) xs with
   |some x=>match jL hp strict cs vs with
    |some y=>some (x,y)
    |none=>none
   |none=>none)else none
  |_=>none
 |_,_=>none
def Hf:(cs:List (Ty×Bool))->List (Nat×Nat)->((cs.map (·.1)).foldr Ty.pair Ty.unit).den->List bK
 |[],_,_=>[]
 |(t,false)::cs,l,y=>.val t y.1::Hf cs l y.2
 |(_,true)::cs,(i,v)::l,y=>.slc i v none::Hf cs l y.2
 |(_,true)::cs,[],y=>.undef::Hf cs [] y.2
def um:(cs:List (Ty×Bool))->List (Nat×Nat)->((cs.map (·.1)).foldr Ty.pair Ty.unit).den->gI
 |[],_,_=>[]
 |(_,false)::cs,l,y=>um cs l y.2
 |(.list e,true)::cs,(i,v)::l,y=>(i,.arr e v y.1)::um cs l y.2
 |(_,true)::cs,l,y=>um cs l y.2
def OV:gI->gI->gI
 |[],h=>h
 |(i,o)::l,h=>OV l (ji h i o)
def ja:List (Ty×Bool)->Nat->List (Nat×Nat)
 |[],_=>[]
 |(_,true)::cs,n=>(n,0)::ja cs (n+1)
 |(_,false)::cs,n=>ja cs n
def Uz:List Nat->Bool
 |[]=>true
 |i::l=> !ZY l i&&Uz l
def fP.rigid (s:fP):Bool:=s.cs.all (fun c=>c.1.rigid||(c.2&&c.1.elem.rigid))&&s.rs.all Ty.rigid
def sZ (cl:Bool):Nat->List (Ty×Bool)->List bK->St->(List bK->St->Option R)->Option R
 |n,(.list e,true)::cs,.nils::vs,st,K=>bif Qa 0 e.size then alloc cl (some n) (.arr e 0 []) st fun id st=>sZ cl (n+1) cs vs st fun l st=>K (.slc id 0 none::l) st else none
 |n,_::cs,v::vs,st,K=>sZ cl (n+1) cs vs st fun l st=>K (v::l) st
 |_,_,l,st,K=>K l st
def fP.go (s:fP) (id:Nat) (as_:List bK) (st:St) (K:bK->St->Option R):Option R:=
 match dK st.hp id with
 |some (.box t cells)=>
  bif Nat.beq t s.bt&&((Uz ((oI s.cs cells).map (·.1))&&Nw (id::(oI s.cs cells).map (·.1)) (oN as_++ut s.cs cells))&&(s.rigid|| !as_.any mi))then
   match jL st.hp (!s.rigid) s.cs cells with
   |some x=>match Aa st.hp s.ps as_ with
    |some y=>bz (s.f x y) fun z=>K (NR (JF s.rs z.2))
      {st with hp:=ji (OV (um s.cs ((oI s.cs cells).map fun p=>(p.1,p.2+1)) z.1) st.hp) id (.box t (Hf s.cs ((oI s.cs cells).map fun p=>(p.1,p.2+1)) z.1))}
    |none=>none
   |none=>none
  else none
 |_=>none
def fP.call (s:fP) (cl:Bool) (args:List bK) (st:St) (K:bK->St->Option R):Option R:=
 match args with
 |.ptr id 0::as_=>match dK st.hp id with
  |some (.box t cells)=>bif cells.any (fun v=>match v with|.nils=>true|_=>false)then
    sZ cl (200000+20*(id %5000)) s.cs cells st fun cells st=>s.go id as_ {st with hp:=ji st.hp id (.box t cells)} K
   else s.go id as_ st K
  |_=>none
 |_=>none
inductive Job where
 |call (f:FuncId) (args:List bK)
 |yield (id:Nat) (args:List bK)
structure di where
 V:Type
 A:V->Type
 B:V->Type
 get:St->Option V
 spec:(v:V)->Option (A v⊕B v)
 exA:V->Ex
 stA:St->(v:V)->A v->St
 stB:St->(v:V)->B v->St
 dep:Nat:=0
 exB:V->Ex:=fun _=>.ret
def dE {α β γ:Type} (o:α⊕β) (f:α->γ) (g:β->γ):γ:=
 match o with
 |.inl a=>f a
 |.inr b=>g b
structure Env where
 P:Program
 T:TT
 cl:Bool
 kp:FuncId->Nat->Option dW
 sg:FuncId->Option Sum
 lp:FuncId->Nat->Option di
 rf:FuncId->Nat->Bool:=fun _ _=>false
 bf:FuncId->Bool:=fun _=>false
 dp:Nat:=0
 sb:FuncId->Option fP:=fun _=>none
def Env.at (E:Env) (n:Nat):Env:={E with dp:=n}
def Sj (T:TT) (args:List bK) (st:St) (K:bK->St->Option R):Option R:=
 match args with
 |[.ptr id 0]=>match dK st.hp id with
  |some (.box t (.slf i:: .slc _ _ _::[]))=>bif Nat.beq i id&&((T.at t).known&&(T.at t).bld)then K (.tup []) st else none
  |_=>none
 |_=>none
abbrev mV (R:Type):=Job->St->(bK->St->Option R)->Option R
structure YL where
 q:Job->St->Option bK
 s:mV St
 u:mV Unit
def wY (E:Env) (ex:mV R):gq R:=fun fv args dst st K=>
 match fv with
 |.fn g caps=>match E.sg g with
  |some s=>s.call E.cl (args++caps) dst st K
  |none=>match E.sb g with
   |some s=>s.call E.cl (args++caps) st K
   |none=>bif E.bf g then Sj E.T (args++caps) st K else ex (.call g (args++caps)) st K
 |.mfn g fst=>match E.sb g with
  |some s=>s.call E.cl (fst++args) st K
  |none=>ex (.call g (fst++args)) st K
 |.yld id=>ex (.yield id args) st K
 |_=>none
def bK.rigid:bK->Bool
 |.val t _=>t.rigid
 |_=>false
def bK.rigidR:bK->Bool
 |.tup l=>l.all bK.rigid
 |v=>v.rigid
def WY (hp:gI):bK->Option bK
 |.val t x=>some (.val t x)
 |.nils=>some .nils
 |.slc id ver vw=>match dK hp id with
  |some (.arr t v xs)=>bif v==ver then some (.val (.list t) (adb xs vw))else none
  |_=>none
 |_=>none
def RH (hp:gI):List bK->Option (List bK)
 |[]=>some []
 |v::l=>match WY hp v with
  |some v=>match RH hp l with
   |some l=>some (v::l)
   |none=>none
  |none=>none
def SC (E:Env) (exd:Job->St->Option bK):gq R:=fun fv args dst st K=>
 match fv with
 |.fn g []=>match E.sg g with
  |some s=>bif s.rs.all (fun r=> !r.2&&r.1.rigid)then s.call E.cl args dst st K else none
  |none=>match RH st.hp args with
   |some args=>match exd (.call g args) ⟨[],[],[],st.nxt⟩with
    |some v=>bif v.rigidR then K v st else none
    |none=>none
   |none=>none
 |_=>none
def jK:Op->Bool
 |.move _|.assign _|.pick _ _ _|.load _ _|.nilCheck _|.binOp _ _ _ _ _|.unOp _ _ _|.slice _ _ _ _ _|.fieldAddr _ _ _|.field _ _ _|.indexAddr _ _ _|.index _ _ _|.extract _ _|.build _ _|.convert _ _ _=>true
 |.call c=>match c.callee with
  |.builtin .len=>true
  |.builtin .min=>true
  |.builtin .max=>true
  |.value _=>true
  |_=>false
 |_=>false
def ik:Op->Bool
 |.call c=>match c.callee with
  |.builtin .len=>true
  |.builtin .min=>true
  |.builtin .max=>true
  |_=>false
 |o=>jK o
def Ja:Op->Bool
 |.move _|.assign _|.pick _ _ _|.nilCheck _|.binOp _ _ _ _ _|.unOp _ _ _|.slice _ _ _ _ _|.fieldAddr _ _ _|.field _ _ _|.indexAddr _ _ _|.index _ _ _|.extract _ _=>true
 |.call c=>match c.callee with
  |.builtin .len=>true
  |.builtin .min=>true
  |.builtin .max=>true
  |_=>false
 |_=>false
def Qn:Op->Bool
 |.move _|.assign _|.pick _ _ _|.load _ _|.index _ _ _|.extract _ _|.alloc _|.box _ _=>true
 |.call c=>match c.callee with
  |.builtin .len=>true
  |.builtin .unsafeSliceData=>true
  |_=>false
 |_=>false
def mg (ops:Array Oper):Bool:=ops.toList.all fun o=>match o.op with|.defer _=>false|.select _ _=>false|_=>true
def XK (l:List Nat) (i:Nat):Bool:=l.any (Nat.beq i)
def FD (ops:Array Oper) (j:Nat) (D:List Nat):Bool:=match ops[j]? with
 |some oj=>oj.after.any fun e=>Region.binds .any e&&XK D e.on
 |none=>false
def aIb (ops:Array Oper) (listed:Array Bool) (n:Nat) (D:List Nat):List Nat:=
 (List.range n).foldl (fun D j=>bif !listed.getD j true&&(!XK D j&&FD ops j D)then j::D else D) D
def VK (ops:Array Oper) (listed:Array Bool) (i:Nat) (pure:Bool):Bool:=match ops[i]? with
 |some oi=>let D:=aIb ops listed ops.size [i]
  XK D i&&(D.all (fun j=> !listed.getD j true&&(Nat.beq j i||FD ops j D))&&(List.range ops.size).all fun j=>listed.getD j true||(XK D j||(match ops[j]? with
   |some oj=>oi.apart ops oj&&(pure||Qn oj.op)
   |none=>true)))
 |none=>false
def ahH (ops:Array Oper) (f:Op->Bool) (i:Nat):Bool:=match ops[i]? with
 |some o=>f o.op
 |none=>false
def xe {α:Type} (f:α->α->Bool):List α->List α->Bool
 |[],[]=>true
 |x::l,y::m=>f x y&&xe f l m
 |_,_=>false
def Za:(t:Ty)->t.den->t.den->Bool
 |.unit,_,_=>true
 |.bool,x,y=>x==y
 |.int _,x,y=>bJ x y
 |.str,x,y=>fG x y
 |.list t,x,y=>xe (Za t) x y
 |.pair a b,x,y=>Za a x.1 y.1&&Za b x.2 y.2
def agS:Option (Int×Int)->Option (Int×Int)->Bool
 |none,none=>true
 |some a,some b=>bJ a.1 b.1&&bJ a.2 b.2
 |_,_=>false
mutual
def V4 (a b:bK):Bool:=
 match a with
 |.undef=>match b with|.undef=>true|_=>false
 |.val t x=>match b with
  |.val u y=>(match jX t y with|some y=>Za t x y|none=>false)
  |_=>false
 |.nils=>match b with|.nils=>true|_=>false
 |.nilp=>match b with|.nilp=>true|_=>false
 |.nilfn=>match b with|.nilfn=>true|_=>false
 |.emp=>match b with|.emp=>true|_=>false
 |.tup l=>match b with|.tup m=>IJ l m|_=>false
 |.agg l=>match b with|.agg m=>IJ l m|_=>false
 |.cellp t x=>match b with
  |.cellp u y=>(match jX t y with|some y=>Za t x y|none=>false)
  |_=>false
 |.lst t x n=>match b with
  |.lst u y m=>n==m&&(match jX (.list t) (t':=.list u) y with|some y=>Za (.list t) x y|none=>false)
  |_=>false
 |.ptr i o=>match b with|.ptr j p=>Nat.beq i j&&Nat.beq o p|_=>false
 |.slc i v w=>match b with|.slc j u x=>Nat.beq i j&&(Nat.beq v u&&agS w x)|_=>false
 |.ep i v n o=>match b with|.ep j u m p=>Nat.beq i j&&(Nat.beq v u&&(eqN n m&&Nat.beq o p))|_=>false
 |.fn f l=>match b with|.fn g m=>Nat.beq f g&&IJ l m|_=>false
 |.mfn f l=>match b with|.mfn g m=>Nat.beq f g&&IJ l m|_=>false
 |.mpv i=>match b with|.mpv j=>Nat.beq i j|_=>false
 |.yld i=>match b with|.yld j=>Nat.beq i j|_=>false
 |.slf i=>match b with|.slf j=>Nat.beq i j|_=>false
 |.sd i v=>match b with|.sd j u=>Nat.beq i j&&Nat.beq v u|_=>false
def IJ:List bK->List bK->Bool
 |[],m=>match m with|[]=>true|_=>false
 |a::l,m=>match m with|b::m=>V4 a b&&IJ l m|_=>false
end
def aEa (a b:Ex):Bool:=match a with
 |.normal=>match b with|.normal=>true|_=>false
 |.exit i=>match b with|.exit j=>Nat.beq i j|_=>false
 |.goto i=>match b with|.goto j=>Nat.beq i j|_=>false
 |.ret=>match b with|.ret=>true|_=>false
def asC:Option Ex->Option Ex->Bool
 |none,none=>true
 |some a,some b=>aEa a b
 |_,_=>false
def eqO (a b:dI):Bool:=
 match a with
 |.box t l=>match b with|.box u m=>Nat.beq t u&&IJ l m|_=>false
 |.arr t v x=>match b with
  |.arr u w y=>Nat.beq v w&&(match jX (.list t) (t':=.list u) y with|some y=>Za (.list t) x y|none=>false)
  |_=>false
 |.lp f fr ps _ _ k n p=>match b with
  |.lp g fs qs _ _ h m q=>Nat.beq f g&&(IJ fr fs&&(xe Nat.beq ps qs&&((match k,h with|some k,some h=>Nat.beq k h|_,_=>false)&&(Nat.beq n m&&asC p q))))
  |_=>false
 |.dead=>match b with|.dead=>true|_=>false
 |.mp k v l=>match b with
  |.mp k' v' m=>decide (k=k')&&(decide (v=v')&&decide (l=m))
  |_=>false
def eqH:gI->gI->Bool
 |[],h=>match h with|[]=>true|_=>false
 |(i,a)::h,g=>match g with
  |(j,b)::g=>Nat.beq i j&&(eqO a b&&eqH h g)
  |[]=>false
def asE (a b:St):Bool:=IJ a.fr b.fr&&(xe IJ a.stk b.stk&&(eqH a.hp b.hp&&Nat.beq a.nxt b.nxt))
def VP (old:gI) (i:Nat) (a:dI):Option dI:=match a with
 |.lp f fr ps _ _ (some k) n p=>match dK old i with
  |some (.lp g _ _ jy bd (some h) _ _)=>bif Nat.beq f g&&Nat.beq k h then some (.lp f fr ps jy bd (some k) n p)else none
  |_=>none
 |.lp _ _ _ _ _ none _ _=>none
 |a=>some a
def VM (old:gI):gI->Option gI
 |[]=>some []
 |(i,a)::h=>match VP old i a with
  |some a=>match VM old h with
   |some h=>some ((i,a)::h)
   |none=>none
  |none=>none
def tH:gI->Bool
 |[]=>true
 |(k,_)::h=> !h.any (fun e=>Nat.beq e.1 k)&&tH h
def Us (old:gI):List (Option St)->Option St
 |some a::l=>bif(some a::l).all (fun b=>match b with|some b=>asE a b&&tH b.hp|none=>false)then
   (match VM old a.hp with|some h=>some {a with hp:=h}|none=>none)else none
 |_=>none
def tidy (cl:Bool) (st:St):St:=bif cl then st else {st with hp:=nY st.hp}
def ug (ops:Array Oper) (i k:Nat):Bool:=match ops[i]? with
 |some oi=>oi.after.any fun e=>Region.binds .any e&&Nat.beq e.on k
 |none=>false
def F7 (ops:Array Oper) (x y:Oper):Bool:=match y.dst with
 |some d=> !(x.looksAt ops).contains d&&x.dst !=some d
 |none=>true
def Ny (ops:Array Oper) (log:List Nat) (i:Nat):Bool:=match ops[i]? with
 |some oi=>F7 ops {oi with dst:=none} oi&&log.all fun k=>match ops[k]? with
  |some ok=>F7 ops ok oi&&(ug ops i k||ok.apart ops oi)
  |none=>false
 |none=>false
def avz (ops:Array Oper) (log:List Nat) (i:Nat):Bool:=match ops[i]? with
 |some oi=>log.all fun k=>match ops[k]? with
  |some ok=>ug ops i k||ok.apart ops oi
  |none=>false
 |none=>false
def oQ (ops:Array Oper):List Nat->List bK->List bK
 |[],fr=>fr
 |i::l,fr=>match(ops[i]?).bind (·.dst)with
  |some d=>(oQ ops l fr).set d .undef
  |none=>oQ ops l fr
def sameAt (dst:Option Nat) (z:bK) (st:St):Bool:=match dst with
 |some d=>V4 z (st.fr.getD d .undef)
 |none=>true
def Ld (s:Sum):Bool:=s.rs.all fun r=> !r.2&&r.1.rigid
def Hl (sg:FuncId->Option Sum) (cl:Bool):gq R:=fun fv args dst st K=>match fv with
 |.fn g []=>match sg g with
  |some s=>bif Ld s&&args.all bK.rigid then s.call cl args dst st K else none
  |none=>none
 |_=>none
def ww (sg:FuncId->Option Sum) (o:Op):Bool:=match o with
 |.call c=>match c.callee with
  |.builtin _=>true
  |.value (.func g)=>match sg g with
   |some s=>Ld s
   |none=>false
  |_=>false
 |_=>true
def Rt:List (Option Unit)->Option R->Option R
 |[],k=>k
 |o::l,k=>bz o fun _=>Rt l k
def settle (old:gI) (a:St):Option St:=match VM old a.hp with
 |some h=>some {a with hp:=h}
 |none=>none
def jE (o:Oper) (fr:List bK):List bK:=match o.op with
 |.call c=>match c.callee with
  |.value v=>gV fr v::c.args.toList.map (gV fr)
  |_=>[]
 |_=>[]
def Zz (sg:FuncId->Option Sum) (ops:Array Oper) (fr:List bK) (i:Nat):Bool:=match ops[i]? with
 |some o=>match jE o fr with
  |.fn g []::args=>match sg g with
   |some s=>(Ld s&&args.all bK.rigid)&&(match o.dst with|some d=>Qa d fr.length|none=>true)
   |none=>false
  |_=>false
 |none=>false
def zU (dst:Option Nat) (fr:List bK):List bK:=match dst with
 |some d=>[fr.getD d .undef]
 |none=>[]
def yP (T:TT) (cl:Bool) (call:gq R) (ops:Array Oper) (old:List bK):List Nat->St->(St->Option R)->Option R
 |[],st,K=>K st
 |i::l,st,K=>match ops[i]? with
  |some oi=>bif ik oi.op then(dX T cl call oi st fun z _=>bif sameAt oi.dst z st then yP T cl call ops old l st K else none)
   else bif IJ (jE oi old) (jE oi st.fr)&&IJ (zU oi.dst old) (zU oi.dst st.fr)then yP T cl call ops old l st K else none
  |none=>none
def uB (T:TT) (cl:Bool) (call:gq R) (ops:Array Oper) (j:Nat) (log:List Nat) (st:St) (K:St->Option R):Option R:=
 match ops[j]? with
 |some oj=>bif oj.guard.isNone&&avz ops log j then
   dX T cl call oj {st with fr:=oQ ops (log.filter fun i=> !ug ops j i) st.fr,stk:=st.fr::st.stk} fun z st1=>match st1.stk with
    |fr::stk=>yP T cl call ops st.fr (log.filter fun i=> !ug ops j i).reverse ({st1 with fr:=fr,stk:=stk}.put oj.dst z) K
    |[]=>none
  else none
 |none=>none
def lX (T:TT) (cl:Bool) (sg:FuncId->Option Sum) (callS:gq St) (callU:gq Unit) (ops:Array Oper):Nat->{R:Type}->gq R->Array Bool->List Nat->St->(St->Option R)->Option R
  |0,_,_,_,_,_,_=>none
  |n+1,_,call,listed,log,st,K=>match Region.ready .any ops listed with
    |[]=>K st
    |k::rs=>match(k::rs).find? fun i=>ahH ops ik i&&Ny ops log i with
      |some i=>match ops[i]? with
        |some oi=>bif oi.guard.isNone&&Ny ops log i then
            dX T cl call oi st fun z st=>lX T cl sg callS callU ops n call (listed.setIfInBounds i true) (i::log) (st.put oi.dst z) K else none
        |none=>none
      |none=>match(k::rs).find? fun i=>Zz sg ops st.fr i with
       |some i=>match ops[i]? with
        |some oi=>bif oi.guard.isNone&&Ny ops log i then
            dX T cl (Hl sg cl) oi st fun z st=>lX T cl sg callS callU ops n call (listed.setIfInBounds i true) (i::log) (st.put oi.dst z) K else none
        |none=>none
       |none=>match rs with
        |[]=>uB T cl call ops k log st fun st=>lX T cl sg callS callU ops n call (listed.setIfInBounds k true) log st K
        |_=>bif cl|| !ops.toList.all (fun o=>ww sg o.op)then(match Us st.hp ((k::rs).map fun j=>uB T cl callS ops j log st fun st=>lX T cl sg callS callU ops n callS (listed.setIfInBounds j true) log st fun st=>some (tidy cl st))with
          |some st=>K st
          |none=>none)else
          uB T cl call ops k log st fun st'=>lX T cl sg callS callU ops n call (listed.setIfInBounds k true) log st' fun st1=>
            bif tH (tidy cl st1).hp then(match settle st.hp (tidy cl st1)with
              |some m=>Rt (rs.map fun j=>uB T cl callU ops j log st fun st'=>lX T cl sg callS callU ops n callU (listed.setIfInBounds j true) log st' fun b=>
                  bif asE (tidy cl st1) (tidy cl b)&&tH (tidy cl b).hp then some ()else none) (K m)
              |none=>none)else none
def uF (ops:Array Oper):Nat->Array Bool->Option (List Nat)
 |0,listed=>bif(Region.ready .any ops listed).isEmpty then some []else none
 |n+1,listed=>match Region.ready .any ops listed with
  |[]=>some []
  |k::rs=>match(k::rs).find? fun i=>ahH ops Ja i&&VK ops listed i true with
   |some i=>match uF ops n (listed.setIfInBounds i true)with
    |some l=>some (i::l)
    |none=>none
   |none=>match(k::rs).find? fun i=>ahH ops ik i&&VK ops listed i false with
    |some i=>match uF ops n (listed.setIfInBounds i true)with
     |some l=>some (i::l)
     |none=>none
    |none=>match rs with
     |[]=>match uF ops n (listed.setIfInBounds k true)with
      |some l=>some (k::l)
      |none=>none
     |_=>none
def aiE (ops:Array Oper):Option (List Oper):=bif mg ops then(match uF ops ops.size (Array.replicate ops.size false)with
 |some l=>some (l.filterMap fun i=>ops[i]?)
 |none=>none)else none
def aGx (sb:FuncId->Option fP) (o:Op):Bool:=match o with
 |.call c=>match c.callee with
  |.value (.func g)=>(sb g).isNone
  |.value _=>false
  |_=>true
 |_=>true
def Lc (ops:Array Oper):Bool:=ops.toList.all (fun o=>jK o.op)&&Region.lexB .any ops
def aIg (rb:St->(Ex->St->Option R)->Option R) (K:Ex->St->Option R):Ex->St->Option R:=fun e st=>match e with
 |.normal=>rb st K
 |e=>K e st
def uS (id:Nat) (K:Ex->St->Option R):Ex->St->Option R:=fun e st=>match e with
 |.exit i=>bif i==id then K .normal st else K (.exit i) st
 |e=>K e st
def BM (F:St->(Ex->St->Option R)->Option R):St->(Ex->St->Option R)->Option R:=fun st K=>F st fun e st=>match e with
 |.normal=>K (.exit 999999) st
 |.exit i=>bif Nat.beq i 999999 then none else K (.exit i) st
 |e=>K e st
def cutAt (E:Env) (f:FuncId) (k:Nat) (F:St->(Ex->St->Option R)->Option R) (st:St) (K:Ex->St->Option R):Option R:=
 match E.lp f k with
 |some L=>bif L.dep.ble E.dp then(match L.get st with
  |some v=>bz (L.spec v) fun o=>dE o (fun a=>uS 999999 K (L.exA v) (L.stA st v a)) fun b=>uS 999999 K (L.exB v) (L.stB st v b)
  |none=>none)else none
 |none=>match E.kp f k with
  |none=>F st K
  |some kp=>match LZ kp.slots kp.owns st with
   |some st=>iter (some kp) (BM F) bH st (uS 999999 K)
   |none=>none
def aui (K:Ex->St->Option R):Ex->St->Option R:=fun e st=>match e with
 |.goto _=>none
 |e=>K e st
def GG (k:Option dW) (st:St):St:=match k with
 |some k=>{st with fr:=HY k.slots 0 st.fr}
 |none=>st
def run (E:Env) (ex:mV R) (exd:YL) (f:FuncId):Code->St->(Ex->St->Option R)->Option R
 |.skip,st,K=>K .normal st
 |.label _,st,K=>K .normal st
 |.region id ops draw,st,K=>
  let st:=GG (E.kp f (600000+id)) st
  bif draw then(bif Lc ops&&ops.toList.all (fun o=>ik o.op)then gZ E.T E.cl (SC E exd.q) ops (K .normal) ops.toList st else match aiE ops with
   |some l=>gZ E.T E.cl (wY E ex) ops (K .normal) l st
   |none=>bif Lc ops&&ops.toList.all (fun o=>aGx E.sb o.op)then gZ E.T E.cl (SC E exd.q) ops (K .normal) ops.toList st else bif mg ops then lX E.T E.cl E.sg (wY E exd.s) (wY E exd.u) ops (ops.size+1) (wY E ex) (Array.replicate ops.size false) [] st (K .normal)else none)
  else gZ E.T E.cl (wY E ex) ops (K .normal) ops.toList st
 |.seq a b,st,K=>run E ex exd f a st (aIg (cutAt E f (800000+dn b) (run E ex exd f b)) K)
 |.cond c x y,st,K=>match gV st.fr c with
  |.val .bool b=>bif b then run E ex exd f x st K else run E ex exd f y st K
  |_=>none
 |.block id c,st,K=>run E ex exd f c st (uS id K)
 |.loop c,st,K=>match E.lp f (dn c)with
  |some L=>bif L.dep.ble E.dp then(match L.get st with
   |some v=>bz (L.spec v) fun o=>dE o (fun a=>K (L.exA v) (L.stA st v a)) fun b=>K (L.exB v) (L.stB st v b)
   |none=>none)else none
  |none=>match E.kp f (dn c)with
   |none=>iter none (run E ex exd f c) bH st K
   |some k=>match LZ k.slots k.owns st with
    |some st=>iter (some k) (run E ex exd f c) bH st K
    |none=>none
 |.exit id,st,K=>K (.exit id) st
 |.goto l,st,K=>K (.goto l) st
 |.ret,st,K=>K .ret st
 |.scope c,st,K=>run E ex exd f c st (aui K)
 |.rangeFunc fv ps jy bd,st,K=>match gV st.fr fv with
  |.fn g caps=>
   let st:=GG (E.kp f (500000+dn bd)) st
   alloc E.cl (some (700000+ps.toList.headD 0)) (.lp f st.fr ps.toList jy bd (bif E.rf f (dn bd)then some (dn bd)else none) 0 none) st fun id st=>
    ex (.call g (.yld id::caps)) {st with stk:=[.yld id]::st.stk} fun _ st=>match st.stk with
     |[.yld id]::stk=>match dK st.hp id with
      |some (.lp _ _ _ _ _ _ 0 none)=>K .normal {st with stk:=stk,hp:=ji st.hp id .dead}
      |some (.lp _ _ _ _ _ _ 1 (some e))=>K e {st with stk:=stk,hp:=ji st.hp id .dead}
      |_=>none
     |_=>none
  |_=>none
 |.refuse _,_,_=>none
def sJ (T:TT) (st:St):List ResultVar->(List bK->Option R)->Option R
 |[],K=>K []
 |.tmp t::l,K=>sJ T st l fun vs=>K (st.fr.getD t .undef::vs)
 |.cell a t::l,K=>MJ T st.hp t (st.fr.getD a .undef) fun v=>sJ T st l fun vs=>K (v::vs)
def wL (fr:List bK):List Nat->List bK->List bK
 |p::ps,v::vs=>wL (fr.set p v) ps vs
 |_,_=>fr
def pop (st:St) (K:St->Option R):Option R:=
 match st.stk with
 |fr::stk=>K {st with fr:=fr,stk:=stk}
 |[]=>none
def Env.keyed (E:Env):Option Nat->Env
 |some _=>E
 |none=>{E with lp:=fun _ _=>none,rf:=fun _ _=>false}
def lF (E:Env):Nat->{R:Type}->mV R
 |0,_,_,_,_=>none
 |n+1,R,.call f args,st,K=>match E.P.funcs[f]? with
  |none=>none
  |some fn=>match fn.body with
   |none=>none
   |some c=>bif args.length.ble fn.ntmps then
     (run (E.at n) (lF E n) ⟨fun j st=>lF E n (R:=bK) j st fun v _=>some v,lF E n,lF E n⟩ f c {fr:=args++List.replicate (fn.ntmps-args.length) (.tup []),stk:=st.fr::st.stk,hp:=st.hp,nxt:=st.nxt} fun e st1=>
      match e with
      |.normal|.ret=>sJ E.T st1 fn.results.toList fun vs=>
       let v:=match vs with
        |[v]=>v
        |vs=>.tup vs
       match gc (bif E.cl then st.nxt else 1000000*st1.stk.length) v {st1 with fr:=[]}with
       |some st2=>pop st2 (K v)
       |none=>none
      |_=>none)else none
 |n+1,R,.yield id args,st,K=>match dK st.hp id with
  |some (.lp f fr0 ps jy bd ky 0 none)=>bif args.length==ps.length then
    (run ((E.at n).keyed ky) (lF E n) ⟨fun j st=>lF E n (R:=bK) j st fun v _=>some v,lF E n,lF E n⟩ f jy {fr:=wL fr0 ps args,stk:=[.yld id]::st.fr::st.stk,hp:=st.hp,nxt:=st.nxt} fun e st1=>match e,st1.stk with
     |.normal,[.yld id]::_=>match dK st1.hp id with
      |some (.lp f1 fr1 ps1 asg1 bd1 ky1 0 none)=>run ((E.at n).keyed ky) (lF E n) ⟨fun j st=>lF E n (R:=bK) j st fun v _=>some v,lF E n,lF E n⟩ f bd {st1 with hp:=ji st1.hp id (.lp f1 fr1 ps1 asg1 bd1 ky1 2 none)} fun e st2=>match st2.stk with
       |[.yld id]::stk=>match dK st2.hp id with
        |some (.lp f2 fr2 ps2 asg2 bd2 ky2 2 none)=>
         match gc (bif E.cl then st.nxt else 1000000*st2.stk.length) .undef {st2 with fr:=[],stk:=stk,hp:=ji st2.hp id (match e with|.normal=>.lp f2 fr2 ps2 asg2 bd2 ky2 0 none|e=>.lp f2 fr2 ps2 asg2 bd2 ky2 1 (some e))}with
         |some st3=>pop st3 (K (.val .bool (match e with|.normal=>true|_=>false)))
         |none=>none
        |_=>none
       |_=>none
      |_=>none
     |_,_=>none)else none
  |_=>none
end
end
section
open List renaming append_assoc → ah, length_append → ai, drop_of_length_le → az, length_cons → aF, nil_append → aO, take_of_length_le → bg, eq_nil_of_length_eq_zero → bi
open Nat renaming le_refl → ae, lt_or_ge → aI
open Tryz
open Go.RowKit
def oU:TypeId:=5
def W9:TypeId:=69
def Jd:Code->Nat->Option (Code×Code)
 |.rangeFunc _ _ jy bd,k=>if dn bd=k then some (jy,bd)else match Jd jy k with
  |some x=>some x
  |none=>Jd bd k
 |.seq a b,k=>match Jd a k with
  |some x=>some x
  |none=>Jd b k
 |.cond _ a b,k=>match Jd a k with
  |some x=>some x
  |none=>Jd b k
 |.block _ c,k=>Jd c k
 |.loop c,k=>Jd c k
 |.scope c,k=>Jd c k
 |_,_=>none
def aGH (P:Program) (f:FuncId) (k:Nat):Option (Code×Code):=
 match P.funcs[f]? with
 |some fn=>match fn.body with
  |some c=>Jd c k
  |none=>none
 |none=>none
noncomputable def pz (f:FuncId) (k:Nat):Option (Code×Code):=aGH prog f k
def gX (w:World) (b o:Nat) (zs:List Value):Prop:= ∀j (h:j<zs.length),w.cell? ⟨b,o+j,none⟩=some zs[j]
theorem gX.of_block {w w':World} {b o:Nat} {zs:List Value} (h:gX w b o zs) (hb:w'.heap[b]? =w.heap[b]?):gX w' b o zs:=
 fun j hj=>(World.cell?_of_block (w:=w) (a:=⟨b,o+j,none⟩) hb).trans (h j hj)
theorem gX.append {w:World} {b o:Nat} {xs ys:List Value}:gX w b o (xs++ys)↔gX w b o xs/\gX w b (o+xs.length) ys:=by
 constructor
 ·intro h;refine⟨fun j hj=> ?_,fun j hj=> ?_⟩
  ·have:=h j (by simp;omega);simp_all
  ·have:=h (xs.length+j) (by simp;omega)
   grind
 ·rintro ⟨h1,h2⟩ j hj;rcases aI j xs.length with h|h
  ·rw[List.getElem_append_left h];exact h1 j h
  ·rw[List.getElem_append_right h];have:=h2 (j-xs.length) (by simp at hj;omega)
   grind
def gu {α:Type} (R:α->List Value->Prop) (size:Nat):List α->List Value->Prop
 |[],zs=>zs=[]
 |x::xs,zs=> ∃c rest,zs=c++rest/\c.length=size/\R x c/\gu R size xs rest
theorem gu.mono {α:Type} {R R':α->List Value->Prop} {size:Nat} (h: ∀x c,R x c->R' x c): ∀(xs:List α) (zs:List Value),gu R size xs zs->gu R' size xs zs
 |[],_,hh=>hh
 |_::xs,_,⟨c,rest,h1,h2,h3,h4⟩=>⟨c,rest,h1,h2,h _ _ h3,gu.mono h xs rest h4⟩
theorem gu.length {α:Type} {R:α->List Value->Prop} {size:Nat}: ∀(xs:List α) (zs:List Value),gu R size xs zs->zs.length=xs.length*size
 |[],_,hh=>by cases hh;simp
 |_::xs,_,⟨c,rest,h1,h2,h3,h4⟩=>by
  subst h1;simp only[ai,aF,h2,gu.length xs rest h4,Nat.add_mul,Nat.one_mul];omega
theorem gu.append {α:Type} {R:α->List Value->Prop} {size:Nat}: ∀(xs:List α) (zs:List Value) (ys:List α) (us:List Value),gu R size xs zs->gu R size ys us->gu R size (xs++ys) (zs++us)
 |[],_,ys,us,hh,h=>by cases hh;exact h
 |x::xs,_,ys,us,⟨c,rest,h1,h2,h3,h4⟩,h=>by
  subst h1;exact⟨c,rest++us,by simp,h2,h3,gu.append xs rest ys us h4 h⟩
theorem gu.take {α:Type} {R:α->List Value->Prop} {size:Nat}: ∀(k:Nat) (xs:List α) (zs:List Value),gu R size xs zs->gu R size (xs.take k) (zs.take (k*size))
 |0,_,_,_=>by simp[gu]
 |k+1,[],_,hh=>by cases hh;simp[gu]
 |k+1,x::xs,_,⟨c,rest,h1,h2,h3,h4⟩=>by
  subst h1;refine⟨c,rest.take (k*size), ?_,h2,h3,gu.take k xs rest h4⟩;simp_all [List.take_append,bg,Nat.add_mul]
theorem gu.drop {α:Type} {R:α->List Value->Prop} {size:Nat}: ∀(k:Nat) (xs:List α) (zs:List Value),gu R size xs zs->gu R size (xs.drop k) (zs.drop (k*size))
 |0,_,_,h=>by simpa using h
 |k+1,[],_,hh=>by cases hh;simp[gu]
 |k+1,x::xs,_,⟨c,rest,h1,h2,h3,h4⟩=>by
  subst h1;have:(c++rest).drop ((k+1)*size)=rest.drop (k*size):=by
   rw[List.drop_append,az (by rw[h2,Nat.add_mul];omega),aO,h2,Nat.add_mul];congr 1;omega
  rw[this,List.drop_succ_cons];exact gu.drop k xs rest h4
theorem gu.at_ {α:Type} {R:α->List Value->Prop} {size:Nat}: ∀(i:Nat) (xs:List α) (zs:List Value) (hi:i<xs.length),gu R size xs zs->
  ∃c,c.length=size/\R xs[i] c/\ ∃l1 l2,zs=l1++c++l2/\l1.length=i*size
 |i,[],_,hi,_=>by simp at hi
 |0,x::xs,_,_,⟨c,rest,h1,h2,h3,h4⟩=>⟨c,h2,h3,[],rest,by simp[h1],by simp⟩
 |i+1,x::xs,_,hi,⟨c,rest,h1,h2,h3,h4⟩=>by
  obtain⟨c',e1,e2,l1,l2,e3,e4⟩:=gu.at_ i xs rest (by simpa using hi) h4
  grind
theorem gu.set {α:Type} {R:α->List Value->Prop} {size:Nat} (y:α) (d:List Value) (hd:d.length=size) (hy:R y d): ∀(i:Nat) (xs:List α) (l1 c l2:List Value),
  i<xs.length->gu R size xs (l1++c++l2)->l1.length=i*size->c.length=size->gu R size (xs.set i y) (l1++d++l2)
 |i,[],_,_,_,hi,_,_,_=>by simp at hi
 |0,x::xs,l1,c,l2,_,⟨c0,rest,h1,h2,h3,h4⟩,hl,hc=>by
  have:l1=[]:=bi (by simpa using hl);subst this;simp only[aO]at h1 ⊢;obtain⟨e1,e2⟩:=List.append_inj h1 (by rw[hc,h2]);subst e2;exact⟨d,l2,rfl,hd,hy,h4⟩
 |i+1,x::xs,l1,c,l2,hi,⟨c0,rest,h1,h2,h3,h4⟩,hl,hc=>by
  have hl':size<=l1.length:=by grind
  have e0:l1=l1.take size++l1.drop size:=(List.take_append_drop size l1).symm;rw[e0,ah,ah]at h1;obtain⟨e1,e2⟩:=List.append_inj h1 (by grind);have:=gu.set y d hd hy i xs (l1.drop size) c l2 (by simpa using hi) (by grind) (by grind) hc;refine⟨c0,l1.drop size++d++l2, ?_,h2,h3,this⟩
  grind
def eY (w:World) (fr:Nat->Prop):(t:Ty)->t.den->List Value->Prop
 |.unit,_,cs=>cs=[]
 |.bool,x,cs=>cs=[.bool x]
 |.int k,x,cs=>cs=[.int k x]
 |.str,x,cs=>cs=[.string ⟨x.toArray⟩]
 |.list t,xs,cs=> ∃a c zs,cs=[.slice a xs.length c]/\xs.length<=c/\gu (eY w fr t) t.size xs zs/\(zs=[]\/ ∃b off,a=some ⟨b,off,none⟩/\fr b/\gX w b off zs)
 |.pair a b,x,cs=> ∃l1 l2,cs=l1++l2/\eY w fr a x.1 l1/\eY w fr b x.2 l2
theorem eY.mono {w w':World} {fr fr':Nat->Prop} (h: ∀b,fr b->fr' b/\w'.heap[b]? =w.heap[b]?): ∀(t:Ty) (x:t.den) (cs:List Value),eY w fr t x cs->eY w' fr' t x cs
 |.unit,_,_,hh=>hh
 |.bool,_,_,hh=>hh
 |.int _,_,_,hh=>hh
 |.str,_,_,hh=>hh
 |.list t,xs,_,⟨a,c,zs,h1,h2,h3,h4⟩=>⟨a,c,zs,h1,h2,gu.mono (eY.mono h t) xs zs h3,h4.imp id fun⟨b,off,e1,e2,e3⟩=>⟨b,off,e1,(h b e2).1,e3.of_block (h b e2).2⟩⟩
 |.pair a b,x,_,⟨l1,l2,h1,h2,h3⟩=>⟨l1,l2,h1,eY.mono h a x.1 l1 h2,eY.mono h b x.2 l2 h3⟩
theorem eY.length {w:World} {fr:Nat->Prop}: ∀(t:Ty) (x:t.den) (cs:List Value),eY w fr t x cs->cs.length=t.size
 |.unit,_,_,hh=>by cases hh;rfl
 |.bool,_,_,hh=>by cases hh;rfl
 |.int _,_,_,hh=>by cases hh;rfl
 |.str,_,_,hh=>by cases hh;rfl
 |.list t,xs,_,⟨a,c,zs,h1,_⟩=>by subst h1;rfl
 |.pair a b,x,_,⟨l1,l2,h1,h2,h3⟩=>by subst h1;simp[Ty.size,eY.length a x.1 l1 h2,eY.length b x.2 l2 h3]
theorem eY.one {w:World} {fr:Nat->Prop}: ∀(t:Ty) (x:t.den) (cs:List Value),eY w fr t x cs-> ∀v∈cs,v.oneCell'=true
 |.unit,_,_,hh=>by cases hh;simp
 |.bool,_,_,hh=>by cases hh;simp[Value.oneCell']
 |.int _,_,_,hh=>by cases hh;simp[Value.oneCell']
 |.str,_,_,hh=>by cases hh;simp[Value.oneCell']
 |.list t,xs,_,⟨a,c,zs,h1,_⟩=>by subst h1;simp[Value.oneCell']
 |.pair a b,x,_,⟨l1,l2,h1,h2,h3⟩=>by
  subst h1;intro v hv;rcases List.mem_append.1 hv with hv|hv
  ·exact eY.one a x.1 l1 h2 v hv
  ·exact eY.one b x.2 l2 h3 v hv
structure Loc where
 blk:Nat
 v:Value
structure Cx where
 mu:Nat->Loc
 hp:gI
 nxt:Nat
 w:World
 mks:List Nat
 bar:Nat->Prop
def dI.blk:dI->Loc->Option Nat
 |.box _ _,l=>some l.blk
 |.arr _ _ _,l=>l.v.ownBlock
 |.lp _ _ _ _ _ _ _ _,l=>some l.blk
 |.dead,_=>none
 |.mp _ _ _,l=>some l.blk
def Cx.own (c:Cx) (b:Nat):Prop:= ∃id o,dK c.hp id=some o/\o.blk (c.mu id)=some b
def Cx.free (c:Cx) (b:Nat):Prop:=b<c.w.heap.size/\ ¬c.own b/\b∉c.mks/\ ¬c.bar b
def Cx.out (c:Cx) (b:Nat):Prop:=b<c.w.heap.size/\ ¬c.own b/\b∉c.mks
def Cx.known (c:Cx) (id:Nat):Prop:=(∃o,dK c.hp id=some o)\/id<c.nxt
def VD (c:Cx) (t:Ty) (x:t.den) (v:Value):Prop:=
 (t.isAgg=true-> ∃cs,v=.agg cs/\eY c.w c.free t x cs.toList)/\(t.isAgg=false->eY c.w c.free t x [v])
def iZ (size:Nat) (s:Value):Option (Int×Int)->Value->Prop
 |none,v=>v=s
 |some (lo,hi),v=> ∃a n c,s=.slice a n c/\0<=lo/\lo<=hi/\hi<=n/\v=.slice (if c=lo.toNat then a else a.map (·.add (lo.toNat*size))) (hi.toNat-lo.toNat) (c-lo.toNat)
mutual
def bP (c:Cx):bK->Value->Prop
 |.undef,_=>True
 |.val t x,v=>VD c t x v
 |.nils,v=>v=.slice none 0 0
 |.emp,v=> ∃a,v=.slice a 0 0
 |.lst e xs b,v=>VD c (.list e) xs v/\ ∃a n m,v=.slice a n m/\b=a.isNone
 |.nilp,v=>v=.pointer none
 |.nilfn,v=>v=.nilFunc
 |.tup l,v=> ∃vs,v=.tuple vs/\bD c l vs.toList
 |.agg l,v=> ∃vs,v=.agg vs/\bD c l vs.toList/\ ∀u∈vs.toList,u.oneCell'=true
 |.cellp t x,v=> ∃b o zs,v=.pointer (some ⟨b,o,none⟩)/\c.free b/\gX c.w b o zs/\eY c.w c.free t x zs
 |.ptr id off,v=>v.oneCell'=true/\c.known id/\ ∀t cs,dK c.hp id=some (.box t cs)->v=.pointer (some ⟨(c.mu id).blk,off,none⟩)
 |.slf id,v=>v.oneCell'=true/\c.known id/\ ∀t cs,dK c.hp id=some (.box t cs)->v=.pointer none\/v=.pointer (some ⟨(c.mu id).blk,0,none⟩)
 |.sd id ver,v=>v.oneCell'=true/\c.known id/\ ∀t u xs,dK c.hp id=some (.arr t u xs)->ver<=u/\(u=ver->(∃p,v=.pointer p)/\ ∀a n cp,(c.mu id).v=.slice a n cp->n≠0->v=.pointer a)
 |.slc id ver vw,v=>v.oneCell'=true/\c.known id/\ ∀t u xs,dK c.hp id=some (.arr t u xs)->ver<=u/\(u=ver->iZ t.size (c.mu id).v vw v)
 |.ep id ver i off,v=>v.oneCell'=true/\c.known id/\ ∀t u xs,dK c.hp id=some (.arr t u xs)->ver<=u/\(u=ver-> ∃g n cp,(c.mu id).v=.slice (some ⟨g,0,none⟩) n cp/\v=.pointer (some ⟨g,i*t.size+off,none⟩))
 |.fn f l,v=> ∃vs,v=.func (.func f) #[] vs/\bD c l vs.toList
 |.mfn f l,v=> ∃vs,v=.func (.func f) vs #[]/\bD c l vs.toList
 |.mpv id,v=>v.oneCell'=true/\c.known id/\ ∀kk vk es,dK c.hp id=some (.mp kk vk es)->v=.map (some (c.mu id).blk)
 |.yld id,v=>v.oneCell'=true/\c.known id/\ ∀f fr ps jy bd ky n p,dK c.hp id=some (.lp f fr ps jy bd ky n p)->v=.func (.yield (c.mu id).blk) #[] #[]
def bD (c:Cx):List bK->List Value->Prop
 |[],[]=>True
 |v::l,x::xs=>bP c v x/\bD c l xs
 |_,_=>False
end
def dI.like:dI->Loc->dI->Loc->Prop
 |.box _ _,l,.box _ _,l'=>l'.blk=l.blk
 |.lp _ _ _ _ _ _ _ _,l,.lp _ _ _ _ _ _ _ _,l'=>l'.blk=l.blk
 |.mp _ _ _,l,.mp _ _ _,l'=>l'.blk=l.blk
 |_,_,.dead,_=>True
 |.arr t v _,l,.arr t' v' _,l'=>v<=v'/\(v=v'->t=t'/\l'.v=l.v)
 |_,_,_,_=>False
structure Cx.Le0 (c c':Cx):Prop where
 out: ∀b,c.out b->c'.out b/\c'.w.heap[b]? =c.w.heap[b]?
 ref: ∀id,c.known id->c'.known id
 obj: ∀id o',c.known id->dK c'.hp id=some o'-> ∃o,dK c.hp id=some o/\o.like (c.mu id) o' (c'.mu id)
 bar:c'.bar=c.bar
structure Cx.Le (c c':Cx):Prop where
 out: ∀b,c.out b->c'.out b/\c'.w.heap[b]? =c.w.heap[b]?
 ref: ∀id,c.known id->c'.known id
 obj: ∀id o',c.known id->dK c'.hp id=some o'-> ∃o,dK c.hp id=some o/\o.like (c.mu id) o' (c'.mu id)
 mks: ∀r,r∈c.mks->r∈c'.mks
 lp: ∀(b:Nat) (L:Loop),c.w.heap[b]? =some (Obj.loop L)-> ∃L':Loop,c'.w.heap[b]? =some (Obj.loop L')
 size:c.w.heap.size<=c'.w.heap.size
 bar:c'.bar=c.bar
theorem Cx.Le0.free {c c':Cx} (h:c.Le0 c') (b:Nat) (hb:c.free b):c'.free b/\c'.w.heap[b]? =c.w.heap[b]? :=
 let⟨⟨h1,h2,h3⟩,h4⟩:=h.out b ⟨hb.1,hb.2.1,hb.2.2.1⟩
 ⟨⟨h1,h2,h3,by rw[h.bar];exact hb.2.2.2⟩,h4⟩
theorem Cx.Le.free {c c':Cx} (h:c.Le c') (b:Nat) (hb:c.free b):c'.free b/\c'.w.heap[b]? =c.w.heap[b]? :=
 let⟨⟨h1,h2,h3⟩,h4⟩:=h.out b ⟨hb.1,hb.2.1,hb.2.2.1⟩
 ⟨⟨h1,h2,h3,by rw[h.bar];exact hb.2.2.2⟩,h4⟩
theorem dI.like_refl (o:dI) (l:Loc):o.like l o l:=by cases o<;>simp[dI.like]
theorem dI.like_trans {a b d:dI} {l m n:Loc} (h:a.like l b m) (k:b.like m d n):a.like l d n:=by
 cases d with
 |dead=>cases a<;>simp[dI.like]
 |arr t'' v'' xs''=>
  cases b with
  |arr t' v' xs'=>
   cases a with
   |arr t v xs=>
    grind [dI.like]
   |_=>simp[dI.like]at h
  |_=>simp[dI.like]at k
 |box _ _=>cases b<;>cases a<;>simp_all [dI.like]
 |lp _ _ _ _ _ _ _ _=>cases b<;>cases a<;>simp_all [dI.like]
 |mp _ _ _=>cases b<;>cases a<;>simp_all [dI.like]
theorem Cx.Le.refl (c:Cx):c.Le c:=⟨fun _ h=>⟨h,rfl⟩,fun _ h=>h,fun id o h ho=>⟨o,ho,o.like_refl _⟩,fun _ h=>h,fun b L h=>⟨L,h⟩,ae _,rfl⟩
theorem VD.le0 {c c':Cx} (h:c.Le0 c') {t:Ty} {x:t.den} {v:Value} (hv:VD c t x v):VD c' t x v:=
 ⟨fun e=>let⟨cs,h1,h2⟩:=hv.1 e;⟨cs,h1,eY.mono h.free t x _ h2⟩,fun e=>eY.mono h.free t x _ (hv.2 e)⟩
mutual
theorem bP.le0 {c c':Cx} (h:c.Le0 c'): ∀(v:bK) (x:Value),bP c v x->bP c' v x
 |.undef,_,_=>by simp[bP]
 |.val t x,v,hv=>by simp only[bP]at hv ⊢;exact hv.le0 h
 |.nils,_,hv=>by assumption
 |.emp,_,hv=>by assumption
 |.lst e xs b,v,hv=>by simp only[bP]at hv ⊢;exact⟨hv.1.le0 h,hv.2⟩
 |.nilp,_,hv=>by assumption
 |.nilfn,_,hv=>by assumption
 |.tup l,v,hv=>by simp only[bP]at hv ⊢;obtain⟨vs,h1,h2⟩:=hv;exact⟨vs,h1,bD.le0 h l _ h2⟩
 |.agg l,v,hv=>by simp only[bP]at hv ⊢;obtain⟨vs,h1,h2,h3⟩:=hv;exact⟨vs,h1,bD.le0 h l _ h2,h3⟩
 |.cellp t x,v,hv=>by
  simp only[bP]at hv ⊢;obtain⟨b,o,zs,h1,h2,h3,h4⟩:=hv;exact⟨b,o,zs,h1,(h.free b h2).1,h3.of_block (h.free b h2).2,eY.mono h.free t x _ h4⟩
 |.ptr id off,v,hv=>by
  simp only[bP]at hv ⊢;obtain⟨hone,hv⟩:=hv;refine⟨hone,h.ref id hv.1,fun t cs hc=> ?_⟩;obtain⟨o,h1,h2⟩:=h.obj id _ hv.1 hc;cases o<;>simp only[dI.like]at h2;simp_all
 |.slf id,v,hv=>by
  simp only[bP]at hv ⊢;obtain⟨hone,hv⟩:=hv;refine⟨hone,h.ref id hv.1,fun t cs hc=> ?_⟩;obtain⟨o,h1,h2⟩:=h.obj id _ hv.1 hc;cases o<;>simp only[dI.like]at h2;simp_all
 |.sd id ver,v,hv=>by
  simp only[bP]at hv ⊢;obtain⟨hone,hv⟩:=hv;refine⟨hone,h.ref id hv.1,fun t u xs hc=> ?_⟩;obtain⟨o,h1,h2⟩:=h.obj id _ hv.1 hc;cases o with
  |arr t' v' xs'=>
   grind [dI.like]
  |box _ _=>simp[dI.like]at h2
  |lp _ _ _ _ _ _ _ _=>simp[dI.like]at h2
  |dead=>simp[dI.like]at h2
  |mp _ _ _=>simp[dI.like]at h2
 |.slc id ver vw,v,hv=>by
  simp only[bP]at hv ⊢;obtain⟨hone,hv⟩:=hv;refine⟨hone,h.ref id hv.1,fun t u xs hc=> ?_⟩;obtain⟨o,h1,h2⟩:=h.obj id _ hv.1 hc;cases o with
  |arr t' v' xs'=>
   grind [dI.like]
  |box _ _=>simp[dI.like]at h2
  |lp _ _ _ _ _ _ _ _=>simp[dI.like]at h2
  |dead=>simp[dI.like]at h2
  |mp _ _ _=>simp[dI.like]at h2
 |.ep id ver i off,v,hv=>by
  simp only[bP]at hv ⊢;obtain⟨hone,hv⟩:=hv;refine⟨hone,h.ref id hv.1,fun t u xs hc=> ?_⟩;obtain⟨o,h1,h2⟩:=h.obj id _ hv.1 hc;cases o with
  |arr t' v' xs'=>
   grind [dI.like]
  |box _ _=>simp[dI.like]at h2
  |lp _ _ _ _ _ _ _ _=>simp[dI.like]at h2
  |dead=>simp[dI.like]at h2
  |mp _ _ _=>simp[dI.like]at h2
 |.fn f l,v,hv=>by simp only[bP]at hv ⊢;obtain⟨vs,h1,h2⟩:=hv;exact⟨vs,h1,bD.le0 h l _ h2⟩
 |.mfn f l,v,hv=>by simp only[bP]at hv ⊢;obtain⟨vs,h1,h2⟩:=hv;exact⟨vs,h1,bD.le0 h l _ h2⟩
 |.mpv id,v,hv=>by
  simp only[bP]at hv ⊢;obtain⟨hone,hv⟩:=hv;refine⟨hone,h.ref id hv.1,fun kk vk es hc=> ?_⟩;obtain⟨o,h1,h2⟩:=h.obj id _ hv.1 hc;cases o<;>simp only[dI.like]at h2;simp_all
 |.yld id,v,hv=>by
  simp only[bP]at hv ⊢;obtain⟨hone,hv⟩:=hv;refine⟨hone,h.ref id hv.1,fun f fr ps jy bd ky n p hc=> ?_⟩;obtain⟨o,h1,h2⟩:=h.obj id _ hv.1 hc;cases o<;>simp only[dI.like]at h2;simp_all
theorem bD.le0 {c c':Cx} (h:c.Le0 c'): ∀(l:List bK) (xs:List Value),bD c l xs->bD c' l xs
 |[],[],_=>by simp[bD]
 |v::l,x::xs,hv=>by simp only[bD]at hv ⊢;exact⟨bP.le0 h v x hv.1,bD.le0 h l xs hv.2⟩
 |[],_::_,hv=>by simp[bD]at hv
 |_::_,[],hv=>by simp[bD]at hv
end
theorem Cx.Le.le0 {c c':Cx} (h:c.Le c'):c.Le0 c':=⟨h.out,h.ref,h.obj,h.bar⟩
theorem bP.le {c c':Cx} (h:c.Le c') (v:bK) (x:Value) (hv:bP c v x):bP c' v x:=bP.le0 h.le0 v x hv
theorem bD.le {c c':Cx} (h:c.Le c') (l:List bK) (xs:List Value) (hv:bD c l xs):bD c' l xs:=bD.le0 h.le0 l xs hv
end
section
open Nat renaming lt_or_ge → aI
open Tryz
open Go.RowKit
def ang (w:World):Prop:=Lib.TabIs prog w "internal/strconv.uint64pow10" .u64 Lib.pow10Tab
theorem alX:prog.globalNamed "internal/strconv.uint64pow10" =some 0:=by kernel_rfl
theorem ang.below {w w':World} (hb:Below w.heap.size w w') (h:ang w):ang w':=by
 unfold ang Lib.TabIs World.var? at h ⊢;rw[alX]at h ⊢;simp only[Option.bind_some]at h ⊢;have hlt:0<w.heap.size:=by
  rcases aI 0 w.heap.size with h'|h'
  ·exact h'
  ·rw[Array.getElem?_eq_none h']at h;cases h
 rw[hb.block _ hlt];exact h
def aqv (w:World):Prop:= ∃m,w.cell? ⟨3,0,none⟩=some (.int .i64 m)
theorem aqv.below {w w':World} (hb:Below w.heap.size w w') (h:aqv w):aqv w':=by
 obtain⟨m,hm⟩:=h;exact⟨m,(hb.cell (World.block_lt_of_cell? w _ hm)).trans hm⟩
def Phi (w:World):Prop:=ang w/\aqv w
theorem Phi.below {w w':World} (hb:Below w.heap.size w w') (h:Phi w):Phi w':=⟨h.1.below hb,h.2.below hb⟩
end
section
open Nat renaming le_trans → aG, lt_of_lt_of_le → aX
open Go.RowKit
theorem Cx.Le.trans {a b c:Cx} (h:a.Le b) (k:b.Le c):a.Le c:=
 ⟨fun x hx=>⟨(k.out x (h.out x hx).1).1,(k.out x (h.out x hx).1).2.trans (h.out x hx).2⟩,fun i hi=>k.ref i (h.ref i hi),fun i o hi ho=>by
  obtain⟨p,h1,h2⟩:=k.obj i o (h.ref i hi) ho;obtain⟨q,h3,h4⟩:=h.obj i p hi h1
  grind [dI.like_trans],fun r hr=>k.mks r (h.mks r hr),fun b L hL=>let⟨L1,h1⟩:=h.lp b L hL;k.lp b L1 h1,aG h.size k.size,k.bar.trans h.bar⟩
theorem dY (k:Nat) (o:dI) (h:gI) (i:Nat):dK ((k,o)::h) i=if k=i then some o else dK h i:=by
 simp_all [dK]
theorem jr: ∀(h:gI) (i:Nat) (o:dI) (j:Nat),dK (ji h i o) j=if i=j then(dK h i).map fun _=>o else dK h j
 |[],i,o,j=>by simp[ji,dK]
 |(k,p)::h,i,o,j=>by
  simp only[ji];by_cases e:k=i
  ·simp_all [dY]
  ·have e':(k==i)=false:=by simpa using e
   simp only[e',cond_false,dY,jr h i o j]
   grind
theorem TN {h:gI} {i:Nat} {o p:dI} (hi:dK h i=some p):dK (ji h i o) i=some o:=by rw[jr];simp[hi]
def upd (mu:Nat->Loc) (id:Nat) (l:Loc):Nat->Loc:=fun j=>if j=id then l else mu j
theorem upd_same (mu:Nat->Loc) (id:Nat) (l:Loc):upd mu id l id=l:=by simp[upd]
theorem upd_ne (mu:Nat->Loc) {id j:Nat} (l:Loc) (h:j≠id):upd mu id l j=mu j:=by simp[upd,h]
def Ex.code:Ex->Option Code
 |.normal=>none
 |.exit id=>some (.exit id)
 |.goto l=>some (.goto l)
 |.ret=>some .ret
def aqs:Nat->Option Ex->Loop->Prop
 |0,none,L=>L.state=.ready/\L.pending=none
 |1,some e,L=>L.state=.done/\L.pending=e.code/\e.code≠none
 |2,none,L=>L.state=.busy
 |_,_,_=>False
def Cx.ORel (B:Nat) (c:Cx) (id:Nat):dI->Prop
 |.box e cs=>B<=(c.mu id).blk/\ ∃vs,c.w.heap[(c.mu id).blk]? =some (.cells vs e (0,0))/\bD c cs vs.toList/\ ∀u∈vs.toList,u.oneCell'=true
 |.arr t ver xs=>0<t.size/\ ∃e zs,c.w.ownsRow B e t.size (c.mu id).v xs.length zs/\gu (eY c.w c.free t) t.size xs zs/\(t=.int .u8->e=oU)
 |.lp f fr ps jy bd ky n p=>(∀k,ky=some k->pz f k=some (jy,bd))/\B<=(c.mu id).blk/\ ∃L:Loop,c.w.heap[(c.mu id).blk]? =some (Obj.loop L)/\bD c fr L.tmps.toList/\L.params.toList=ps/\L.assign=jy/\L.body=bd/\aqs n p L
 |.dead=>True
 |.mp kk vk es=>B<=(c.mu id).blk/\ ∃ms clock,c.w.heap[(c.mu id).blk]? =some (.map ms clock)/\ms.toList.map (fun e=>(e.key,e.val))=es.map fun p=>(Value.int kk p.1,Value.int vk p.2)
structure Cx.Ok (W0:World) (c:Cx):Prop where
 bel:Below W0.heap.size W0 c.w
 obj: ∀id o,dK c.hp id=some o->c.ORel W0.heap.size id o
 inj: ∀i j o p b,dK c.hp i=some o->dK c.hp j=some p->o.blk (c.mu i)=some b->p.blk (c.mu j)=some b->i=j
 mks: ∀r,r∈c.mks->W0.heap.size<=r/\c.w.heap[r]? =some (.deferred (some []))
 bar: ∀b,c.bar b->c.out b
 phi:Phi W0
theorem Cx.Ok.phiw {W0:World} {c:Cx} (h:c.Ok W0):Phi c.w:=Phi.below h.bel h.phi
theorem Cx.ORel.lt {B:Nat} {c:Cx} {id:Nat} {o:dI} (h:c.ORel B id o) {b:Nat} (hb:o.blk (c.mu id)=some b):B<=b/\b<c.w.heap.size:=by
 cases o with
 |box e cs=>
  simp only[dI.blk,Option.some.injEq]at hb;subst hb;obtain⟨h1,vs,h2,_⟩:=h
  grind
 |arr t ver xs=>
  simp only[dI.blk]at hb;obtain⟨_,e,zs,h1,_⟩:=h;exact World.ownsRow.lt h1 b hb
 |lp _ _ _ _ _ _ _ _=>
  simp only[dI.blk,Option.some.injEq]at hb;subst hb;obtain⟨_,h1,L,h2,_⟩:=h
  grind
 |dead=>cases hb
 |mp _ _ _=>
  simp only[dI.blk,Option.some.injEq]at hb;subst hb;obtain⟨h1,ms,cl,h2,_⟩:=h
  grind
theorem Cx.ORel.no_mark {B:Nat} {c:Cx} {id:Nat} {o:dI} (h:c.ORel B id o) {b:Nat} (hb:o.blk (c.mu id)=some b) {d:Option (List Deferred)}:c.w.heap[b]? ≠some (.deferred d):=by
 intro hd;cases o with
 |box e cs=>
  simp only[dI.blk,Option.some.injEq]at hb;subst hb;obtain⟨h1,vs,h2,_⟩:=h;simp_all
 |arr t ver xs=>
  simp only[dI.blk]at hb;obtain⟨_,e,zs,h1,_⟩:=h;rcases h1.2 with ⟨e1,_⟩|⟨g,cap,cur,e1,_,e2,_⟩
  ·rw[e1]at hb;cases hb
  ·rw[e1]at hb;cases hb;simp_all
 |lp _ _ _ _ _ _ _ _=>
  simp only[dI.blk,Option.some.injEq]at hb;subst hb;obtain⟨_,h1,L,h2,_⟩:=h;simp_all
 |dead=>cases hb
 |mp _ _ _=>
  simp only[dI.blk,Option.some.injEq]at hb;subst hb;obtain⟨h1,ms,cl,h2,_⟩:=h;simp_all
theorem Cx.ORel.no_loop {B:Nat} {c:Cx} {id:Nat} {o:dI} (h:c.ORel B id o) (ho: ∀f fr ps jy bd ky n p,o≠ .lp f fr ps jy bd ky n p) {b:Nat} (hb:o.blk (c.mu id)=some b) {L:Loop}:c.w.heap[b]? ≠some (Obj.loop L):=by
 intro hd;cases o with
 |box e cs=>
  simp only[dI.blk,Option.some.injEq]at hb;subst hb;obtain⟨h1,vs,h2,_⟩:=h;simp_all
 |arr t ver xs=>
  simp only[dI.blk]at hb;obtain⟨_,e,zs,h1,_⟩:=h;rcases h1.2 with ⟨e1,_⟩|⟨g,cap,cur,e1,_,e2,_⟩
  ·rw[e1]at hb;cases hb
  ·rw[e1]at hb;cases hb;simp_all
 |lp _ _ _ _ _ _ _ _=>grind
 |dead=>cases hb
 |mp _ _ _=>
  simp only[dI.blk,Option.some.injEq]at hb;subst hb;obtain⟨h1,ms,cl,h2,_⟩:=h;simp_all
theorem Cx.Ok.mark_lt {W0:World} {c:Cx} (h:c.Ok W0) {r:Nat} (hr:r∈c.mks):r<c.w.heap.size:=(Array.getElem?_eq_some_iff.1 (h.mks r hr).2).1
theorem Cx.Ok.mark_own {W0:World} {c:Cx} (h:c.Ok W0) {r:Nat} (hr:r∈c.mks): ¬c.own r:=by
 rintro ⟨id,o,h1,h2⟩;exact(h.obj id o h1).no_mark h2 (h.mks r hr).2
theorem Cx.Ok.own_lt {W0:World} {c:Cx} (h:c.Ok W0) {b:Nat} (hb:c.own b):W0.heap.size<=b/\b<c.w.heap.size:=by
 obtain⟨id,o,h1,h2⟩:=hb;exact(h.obj id o h1).lt h2
theorem Cx.Ok.size {W0:World} {c:Cx} (h:c.Ok W0):W0.heap.size<=c.w.heap.size:=h.bel.size
theorem A8 {w w':World} {B:Nat} {e:TypeId} {size n:Nat} {v:Value} {xs:List Value} (h:w.ownsRow B e size v n xs) (hb: ∀b,v.ownBlock=some b->w'.heap[b]? =w.heap[b]?):w'.ownsRow B e size v n xs:=by
 refine⟨h.1, ?_⟩;rcases h.2 with h2|⟨g,cap,cur,h1,h2,h3,h4⟩
 ·exact .inl h2
 ·refine .inr ⟨g,cap,cur,h1,h2, ?_,h4⟩;rw[hb g (by rw[h1];rfl)];exact h3
theorem Cx.ORel.le {B:Nat} {c c':Cx} {id:Nat} {o:dI} (h:c.ORel B id o) (hl:c.Le c') (hm:c'.mu id=c.mu id) (hb: ∀b,o.blk (c.mu id)=some b->c'.w.heap[b]? =c.w.heap[b]?):c'.ORel B id o:=by
 cases o with
 |box e cs=>
  obtain⟨h1,vs,h2,h3,h4⟩:=h;refine⟨by rw[hm];exact h1,vs,by rw[hm,hb _ rfl];exact h2,bD.le hl _ _ h3,h4⟩
 |arr t ver xs=>
  obtain⟨h0,e,zs,h1,h2,h3⟩:=h;refine⟨h0,e,zs, ?_,gu.mono (eY.mono hl.free t) _ _ h2,h3⟩;rw[hm];exact A8 h1 fun b hb'=>hb b hb'
 |lp f fr ps jy bd ky n p=>
  obtain⟨h0,h1,L,h2,h3,h4⟩:=h;exact⟨h0,by rw[hm];exact h1,L,by rw[hm,hb _ rfl];exact h2,bD.le hl _ _ h3,h4⟩
 |dead=>trivial
 |mp kk vk es=>
  obtain⟨h1,ms,cl,h2,h3⟩:=h;exact⟨by rw[hm];exact h1,ms,cl,by rw[hm,hb _ rfl];exact h2,h3⟩
def Cx.at_ (c:Cx) (w:World):Cx:={c with w:=w}
theorem Cx.Le.ext {c:Cx} {w:World} (h:Below c.w.heap.size c.w w):c.Le (c.at_ w):=
 ⟨fun b hb=>⟨⟨aX hb.1 h.size,hb.2⟩,h.block b hb.1⟩,fun _ h=>h,fun id o _ ho=>⟨o,ho,o.like_refl _⟩,fun _ h=>h,
  fun b L hL=>⟨L,(h.block b (Array.getElem?_eq_some_iff.1 hL).1).trans hL⟩,h.size,rfl⟩
theorem Cx.Ok.ext {W0:World} {c:Cx} {w:World} (hc:c.Ok W0) (h:Below c.w.heap.size c.w w):(c.at_ w).Ok W0:=
 ⟨hc.bel.trans (h.mono hc.size),fun id o ho=>(hc.obj id o ho).le (Cx.Le.ext h) rfl fun b hb=>h.block b ((hc.obj id o ho).lt hb).2,hc.inj,
  fun r hr=>⟨(hc.mks r hr).1,(h.block r (hc.mark_lt hr)).trans (hc.mks r hr).2⟩,fun b hb=>((Cx.Le.ext h).out b (hc.bar b hb)).1,hc.phi⟩
def Cx.push (c:Cx) (id:Nat) (o:dI) (l:Loc) (nxt:Nat) (w:World):Cx:=⟨upd c.mu id l,(id,o)::c.hp,nxt,w,c.mks,c.bar⟩
theorem Cx.Le.push {c:Cx} {id:Nat} {o:dI} {l:Loc} {nxt:Nat} {w:World} (h0: ¬c.known id) (hn:c.nxt<=nxt) (hs:c.w.heap.size<=w.heap.size)
  (hb: ∀b,b<c.w.heap.size->w.heap[b]? =c.w.heap[b]?) (hl: ∀b,o.blk l=some b->c.w.heap.size<=b):c.Le (c.push id o l nxt w):=by
 have hk: ∀j,c.known j->j≠id:=fun j hj e=>h0 (e▸hj);refine⟨fun b hf=>⟨⟨aX hf.1 hs, ?_,hf.2.2⟩,hb b hf.1⟩,fun j hj=> ?_,fun j p hj hp=> ?_,fun _ h=>h,fun b L hL=>⟨L,(hb b (Array.getElem?_eq_some_iff.1 hL).1).trans hL⟩,hs,rfl⟩
 ·rintro ⟨j,p,h1,h2⟩;simp only[Cx.push,dY]at h1 h2;split at h1
  ·rename_i e
   subst e;cases h1;rw[upd_same]at h2;have:=hl b h2;have:=hf.1;omega
  ·rename_i e
   rw[upd_ne _ _ (Ne.symm e)]at h2;exact hf.2.1 ⟨j,p,h1,h2⟩
 ·rcases hj with ⟨p,hp⟩|hj
  ·left;simp only[Cx.push,dY]
   grind
  ·right;exact aX hj hn
 ·have hne:=hk j hj;simp only[Cx.push,dY,if_neg (Ne.symm hne)]at hp ⊢;exact⟨p,hp,by rw[upd_ne _ _ hne];exact p.like_refl _⟩
theorem Cx.Ok.push {W0:World} {c:Cx} {id:Nat} {o:dI} {l:Loc} {nxt:Nat} {w:World} (hc:c.Ok W0) (h0: ¬c.known id) (hn:c.nxt<=nxt) (h:Below c.w.heap.size c.w w)
  (hl: ∀b,o.blk l=some b->c.w.heap.size<=b) (ho:(c.push id o l nxt w).ORel W0.heap.size id o):(c.push id o l nxt w).Ok W0:=by
 have hle:=Cx.Le.push (o:=o) h0 hn h.size h.block hl;have hk: ∀j p,dK c.hp j=some p->j≠id:=fun j p hj e=>h0 (e▸ .inl ⟨p,hj⟩);refine⟨hc.bel.trans (h.mono hc.size),fun j p hp=> ?_,fun i j p q b h1 h2 h3 h4=> ?_,fun r hr=>⟨(hc.mks r hr).1,(h.block r (hc.mark_lt hr)).trans (hc.mks r hr).2⟩,fun b hb=>(hle.out b (hc.bar b hb)).1,hc.phi⟩
 ·by_cases e:j=id
  ·simp_all [Cx.push,dY]
  ·have hp':dK c.hp j=some p:=by simpa [Cx.push,dY,Ne.symm e] using hp
   exact(hc.obj j p hp').le hle (upd_ne _ _ e) fun b hb=>h.block b ((hc.obj j p hp').lt hb).2
 ·by_cases e1:i=id<;>by_cases e2:j=id
  ·rw[e1,e2]
  ·subst e1;have e3:p=o:=by grind [Cx.push,dY]
   have h2':dK c.hp j=some q:=by simpa [Cx.push,dY,Ne.symm e2] using h2
   subst e3;simp only[Cx.push,upd_same,upd_ne _ _ e2]at h3 h4;have:=hl b h3;have:=((hc.obj j q h2').lt h4).2;omega
  ·subst e2;have e3:q=o:=by grind [Cx.push,dY]
   have h1':dK c.hp i=some p:=by simpa [Cx.push,dY,Ne.symm e1] using h1
   subst e3;simp only[Cx.push,upd_same,upd_ne _ _ e1]at h3 h4;have:=hl b h4;have:=((hc.obj i p h1').lt h3).2;omega
  ·have h1':dK c.hp i=some p:=by simpa [Cx.push,dY,Ne.symm e1] using h1
   have h2':dK c.hp j=some q:=by simpa [Cx.push,dY,Ne.symm e2] using h2
   simp only[Cx.push,upd_ne _ _ e1,upd_ne _ _ e2]at h3 h4;exact hc.inj i j p q b h1' h2' h3 h4
def Cx.put (c:Cx) (id:Nat) (o:dI) (l:Loc) (w:World):Cx:=⟨upd c.mu id l,ji c.hp id o,c.nxt,w,c.mks,c.bar⟩
theorem Cx.put_get {c:Cx} {id:Nat} {o p:dI} {l:Loc} {w:World} (hp:dK c.hp id=some p):dK (c.put id o l w).hp id=some o:=TN hp
theorem Cx.Le.put {W0:World} {c:Cx} {id:Nat} {o o':dI} {l:Loc} {w:World} (hc:c.Ok W0) (h0:dK c.hp id=some o) (hk:o.like (c.mu id) o' l) (hs:c.w.heap.size<=w.heap.size)
  (hb: ∀b,b<c.w.heap.size->o.blk (c.mu id)≠some b->w.heap[b]? =c.w.heap[b]?) (hl: ∀b,o'.blk l=some b->o.blk (c.mu id)=some b\/c.w.heap.size<=b)
  (hlp: ∀(b:Nat) (L:Loop),o.blk (c.mu id)=some b->c.w.heap[b]? =some (Obj.loop L)-> ∃L':Loop,w.heap[b]? =some (Obj.loop L')):c.Le (c.put id o' l w):=by
 refine⟨fun b hf=>⟨⟨aX hf.1 hs, ?_,hf.2.2⟩,hb b hf.1 fun e=>hf.2.1 ⟨id,o,h0,e⟩⟩,fun j hj=> ?_,fun j p hj hp=> ?_,fun _ h=>h,fun b L hL=> ?_,hs,rfl⟩
 rotate_left 3
 ·by_cases e:o.blk (c.mu id)=some b
  ·exact hlp b L e hL
  ·exact⟨L,(hb b (Array.getElem?_eq_some_iff.1 hL).1 e).trans hL⟩
 ·rintro ⟨j,p,h1,h2⟩;simp only[Cx.put,jr]at h1 h2;split at h1
  ·rename_i e
   subst e;rw[h0]at h1;cases h1;rw[upd_same]at h2;rcases hl b h2 with h3|h3
   ·exact hf.2.1 ⟨id,o,h0,h3⟩
   ·have:=hf.1;omega
  ·rename_i e
   rw[upd_ne _ _ (Ne.symm e)]at h2;exact hf.2.1 ⟨j,p,h1,h2⟩
 ·rcases hj with ⟨p,hp⟩|hj
  ·left
   grind [Cx.put,jr]
  ·right;exact hj
 ·simp only[Cx.put,jr]at hp ⊢;split at hp
  ·simp_all [upd_same]
  ·rename_i e
   exact⟨p,hp,by rw[upd_ne _ _ (Ne.symm e)];exact p.like_refl _⟩
theorem Cx.Ok.put {W0:World} {c:Cx} {id:Nat} {o o':dI} {l:Loc} {w:World} (hc:c.Ok W0) (h0:dK c.hp id=some o) (hk:o.like (c.mu id) o' l) (hw:Below W0.heap.size W0 w)
  (hs:c.w.heap.size<=w.heap.size) (hb: ∀b,b<c.w.heap.size->o.blk (c.mu id)≠some b->w.heap[b]? =c.w.heap[b]?) (hl: ∀b,o'.blk l=some b->o.blk (c.mu id)=some b\/c.w.heap.size<=b)
  (hlp: ∀(b:Nat) (L:Loop),o.blk (c.mu id)=some b->c.w.heap[b]? =some (Obj.loop L)-> ∃L':Loop,w.heap[b]? =some (Obj.loop L')) (ho:(c.put id o' l w).ORel W0.heap.size id o'):(c.put id o' l w).Ok W0:=by
 have hle:=Cx.Le.put (w:=w) hc h0 hk hs hb hl hlp;refine⟨hw,fun j p hp=> ?_,fun i j p q b h1 h2 h3 h4=> ?_,fun r hr=>⟨(hc.mks r hr).1,(hb r (hc.mark_lt hr) fun e=>(hc.obj id o h0).no_mark e (hc.mks r hr).2).trans (hc.mks r hr).2⟩,fun b hb=>(hle.out b (hc.bar b hb)).1,hc.phi⟩
 ·by_cases e:id=j
  ·grind [Cx.put_get]
  ·have hp':dK c.hp j=some p:=by grind [Cx.put,jr]
   refine(hc.obj j p hp').le hle (upd_ne _ _ (Ne.symm e)) fun b hbj=>hb b ((hc.obj j p hp').lt hbj).2 fun e2=>e (hc.inj id j o p b h0 hp' e2 hbj)
 ·have key: ∀i p,dK (c.put id o' l w).hp i=some p->id≠i->dK c.hp i=some p:=fun i p h e=>by simpa [Cx.put,jr,e] using h
  have key2: ∀p,dK (c.put id o' l w).hp id=some p->p=o':=fun p h=>by grind [Cx.put_get]
  by_cases e1:id=i<;>by_cases e2:id=j
  ·rw[<-e1,<-e2]
  ·subst e1;have e3:=key2 p h1;have h2':=key j q h2 e2;subst e3;simp only[Cx.put,upd_same,upd_ne _ _ (Ne.symm e2)]at h3 h4;rcases hl b h3 with h5|h5
   ·exact hc.inj id j o q b h0 h2' h5 h4
   ·have:=((hc.obj j q h2').lt h4).2;omega
  ·subst e2;have e3:=key2 q h2;have h1':=key i p h1 e1;subst e3;simp only[Cx.put,upd_same,upd_ne _ _ (Ne.symm e1)]at h3 h4;rcases hl b h4 with h5|h5
   ·exact hc.inj i id p o b h1' h0 h3 h5
   ·have:=((hc.obj i p h1').lt h3).2;omega
  ·have h1':=key i p h1 e1;have h2':=key j q h2 e2;simp only[Cx.put,upd_ne _ _ (Ne.symm e1),upd_ne _ _ (Ne.symm e2)]at h3 h4;exact hc.inj i j p q b h1' h2' h3 h4
theorem bD.length {c:Cx}: ∀(l:List bK) (xs:List Value),bD c l xs->l.length=xs.length
 |[],[],_=>rfl
 |v::l,x::xs,h=>by simp only[bD]at h;simp[bD.length l xs h.2]
 |[],_::_,h=>by simp[bD]at h
 |_::_,[],h=>by simp[bD]at h
theorem bD.get {c:Cx}: ∀(l:List bK) (xs:List Value),bD c l xs-> ∀(i:Nat) (h:i<l.length) (h':i<xs.length),bP c l[i] xs[i]
 |v::l,x::xs,h,0,_,_=>by simp_all [bD]
 |v::l,x::xs,h,i+1,h1,h2=>by simp only[bD]at h;exact bD.get l xs h.2 i (by simpa using h1) (by simpa using h2)
 |[],_,_,_,h1,_=>by simp at h1
 |_::_,[],h,_,_,_=>by simp[bD]at h
theorem bD.append {c:Cx}: ∀(l m:List bK) (xs ys:List Value),bD c l xs->bD c m ys->bD c (l++m) (xs++ys)
 |[],m,[],ys,_,h=>h
 |v::l,m,x::xs,ys,h,k=>by simp only[bD,List.cons_append]at h ⊢;exact⟨h.1,bD.append l m xs ys h.2 k⟩
 |[],_,_::_,_,h,_=>by simp[bD]at h
 |_::_,_,[],_,h,_=>by simp[bD]at h
theorem bD.take {c:Cx}: ∀(k:Nat) (l:List bK) (xs:List Value),bD c l xs->bD c (l.take k) (xs.take k)
 |0,_,_,_=>by simp[bD]
 |k+1,[],[],_=>by simp[bD]
 |k+1,v::l,x::xs,h=>by simp only[bD,List.take_succ_cons]at h ⊢;exact⟨h.1,bD.take k l xs h.2⟩
 |_+1,[],_::_,h=>by simp[bD]at h
 |_+1,_::_,[],h=>by simp[bD]at h
theorem bD.drop {c:Cx}: ∀(k:Nat) (l:List bK) (xs:List Value),bD c l xs->bD c (l.drop k) (xs.drop k)
 |0,_,_,h=>by simpa using h
 |k+1,[],[],_=>by simp[bD]
 |k+1,v::l,x::xs,h=>by simp only[bD,List.drop_succ_cons]at h ⊢;exact bD.drop k l xs h.2
 |_+1,[],_::_,h=>by simp[bD]at h
 |_+1,_::_,[],h=>by simp[bD]at h
theorem bD.set {c:Cx} {v:bK} {x:Value} (h0:bP c v x): ∀(i:Nat) (l:List bK) (xs:List Value),bD c l xs->bD c (l.set i v) (xs.set i x)
 |_,[],[],_=>by simp[bD]
 |0,u::l,y::xs,h=>by simp_all [bD]
 |i+1,u::l,y::xs,h=>by simp only[bD,List.set_cons_succ]at h ⊢;exact⟨h.1,bD.set h0 i l xs h.2⟩
 |_,[],_::_,h=>by simp[bD]at h
 |_,_::_,[],h=>by simp[bD]at h
theorem VD.leaf {c:Cx} {t:Ty} {x:t.den} {v:Value} (h:t.isAgg=false):VD c t x v↔eY c.w c.free t x [v]:=⟨fun hv=>hv.2 h,fun hv=>⟨(fun e=>by rw[h]at e;cases e),(fun _=>hv)⟩⟩
theorem VD.agg {c:Cx} {t:Ty} {x:t.den} {v:Value} (h:t.isAgg=true):VD c t x v↔ ∃cs,v=.agg cs/\eY c.w c.free t x cs.toList:=⟨fun hv=>hv.1 h,fun hv=>⟨(fun _=>hv),(fun e=>by rw[h]at e;cases e)⟩⟩
theorem VD.cells {c:Cx} {t:Ty} {x:t.den} {v:Value} (h:VD c t x v):eY c.w c.free t x v.cells.toList:=by
 by_cases e:t.isAgg=true
 ·obtain⟨cs,rfl,h2⟩:=h.1 e;exact h2
 ·have e':t.isAgg=false:=by simpa using e
  have h2:=h.2 e';have h3:=eY.one _ _ _ h2 v (by simp);cases v<;>simp_all [Value.cells,Value.oneCell']
theorem Ec {c:Cx}: ∀(t:Ty) (x:t.den) (cs:List Value),eY c.w c.free t x cs->bD c (flat t x) cs
 |.unit,_,_,h=>by cases h;simp[flat,bD]
 |.bool,x,cs,h=>by simp only[eY]at h;subst h;simp only[flat,bD,bP];exact⟨(VD.leaf rfl).2 rfl,trivial⟩
 |.int k,x,cs,h=>by simp only[eY]at h;subst h;simp only[flat,bD,bP];exact⟨(VD.leaf rfl).2 rfl,trivial⟩
 |.str,x,cs,h=>by simp only[eY]at h;subst h;simp only[flat,bD,bP];exact⟨(VD.leaf rfl).2 rfl,trivial⟩
 |.list t,x,cs,h=>by
  have h':=h;obtain⟨a,n,zs,h1,_⟩:=h;subst h1;simp only[flat,bD,bP];exact⟨(VD.leaf rfl).2 h',trivial⟩
 |.pair a b,x,cs,⟨l1,l2,h1,h2,h3⟩=>by
  subst h1;exact bD.append _ _ _ _ (Ec a x.1 l1 h2) (Ec b x.2 l2 h3)
theorem lT {t' t:Ty} {x:t'.den} {y:t.den} (h:jX t x=some y): ∃e:t'=t,y=cast (congrArg Ty.den e) x:=by
 grind [jX]
theorem gz {t:Ty} (x:t.den):jX t x=some x:=by simp[jX]
theorem iF {t' t:Ty} {x:t'.den} {y:t.den} (h:jX t x=some y):t'=t:=(lT h).1
theorem J3 {c:Cx} {t:Ty} (ht:t.isAgg=false) {v:bK} {x:t.den} (h:leaf t v=some x) {u:Value} (hv:bP c v u):eY c.w c.free t x [u]:=by
 cases v with
 |val t' y=>
  grind [leaf,lT,bP,VD.leaf]
 |nils=>
  cases t<;>simp only[leaf]at h
  case list t=>
   cases h;simp only[bP]at hv;subst hv;exact⟨none,0,[],rfl,by simp,rfl,.inl rfl⟩
  all_goals cases h
 |_=>simp[leaf]at h
theorem ahD {c:Cx}: ∀(t:Ty) (l:List bK) (x:t.den) (rest:List bK) (vs:List Value),mk t l=some (x,rest)->bD c l vs->
  ∃cs vs',vs=cs++vs'/\eY c.w c.free t x cs/\bD c rest vs'
 |.unit,l,x,rest,vs,h,hv=>by
  simp only[mk,Option.some.injEq,Prod.mk.injEq]at h;obtain⟨_,rfl⟩:=h;exact⟨[],vs,rfl,rfl,hv⟩
 |.pair a b,l,x,rest,vs,h,hv=>by
  simp only[mk]at h;split at h
  ·rename_i y l1 h1
   split at h
   ·rename_i z l2 h2
    cases h;obtain⟨c1,v1,e1,e2,e3⟩:=ahD a l y l1 vs h1 hv;obtain⟨c2,v2,e4,e5,e6⟩:=ahD b l1 z rest v1 h2 e3;exact⟨c1++c2,v2,by simp_all,⟨c1,c2,rfl,e2,e5⟩,e6⟩
   ·cases h
  ·cases h
 |.bool,[],_,_,_,h,_=>by simp[mk]at h
 |.int _,[],_,_,_,h,_=>by simp[mk]at h
 |.str,[],_,_,_,h,_=>by simp[mk]at h
 |.list _,[],_,_,_,h,_=>by simp[mk]at h
 |.bool,v::l,x,rest,u::vs,h,hv=>by
  simp only[bD]at hv;simp only[mk]at h;split at h
  ·rename_i y hy;cases h;exact⟨[u],vs,rfl,J3 rfl hy hv.1,hv.2⟩
  ·cases h
 |.int k,v::l,x,rest,u::vs,h,hv=>by
  simp only[bD]at hv;simp only[mk]at h;split at h
  ·rename_i y hy;cases h;exact⟨[u],vs,rfl,J3 rfl hy hv.1,hv.2⟩
  ·cases h
 |.str,v::l,x,rest,u::vs,h,hv=>by
  simp only[bD]at hv;simp only[mk]at h;split at h
  ·rename_i y hy;cases h;exact⟨[u],vs,rfl,J3 rfl hy hv.1,hv.2⟩
  ·cases h
 |.list t,v::l,x,rest,u::vs,h,hv=>by
  simp only[bD]at hv;simp only[mk]at h;split at h
  ·rename_i y hy;cases h;exact⟨[u],vs,rfl,J3 rfl hy hv.1,hv.2⟩
  ·cases h
 |.bool,_::_,_,_,[],_,hv=>by simp[bD]at hv
 |.int _,_::_,_,_,[],_,hv=>by simp[bD]at hv
 |.str,_::_,_,_,[],_,hv=>by simp[bD]at hv
 |.list _,_::_,_,_,[],_,hv=>by simp[bD]at hv
theorem oG {c:Cx} {t:Ty} {l:List bK} {x:t.den} {vs:List Value} (h:H6 t l=some x) (hv:bD c l vs):eY c.w c.free t x vs:=by
 grind [H6,ahD,bD]
theorem Me {c:Cx} {v:bK} {l:List bK} (h:v.cells=some l) {x:Value} (hv:bP c v x):bD c l x.cells.toList/\ ∀u∈x.cells.toList,u.oneCell'=true:=by
 cases v with
 |val t y=>
  simp only[bK.cells,Option.some.injEq]at h;subst h;simp only[bP]at hv;exact⟨Ec t y _ hv.cells,eY.one _ _ _ hv.cells⟩
 |agg l'=>
  simp only[bK.cells,Option.some.injEq]at h;subst h;simp only[bP]at hv;obtain⟨vs,rfl,h2,h3⟩:=hv;exact⟨h2,h3⟩
 |undef=>simp[bK.cells]at h
 |tup _=>simp[bK.cells]at h
 |_=>
  simp only[bK.cells,Option.some.injEq]at h;subst h;have h1:x.oneCell'=true:=by
   simp only[bP]at hv
   first
    |(subst hv;rfl)
    |exact hv.1
    |(obtain⟨_,_,_,rfl,_⟩:=hv;rfl)
    |(obtain⟨_,rfl,_⟩:=hv;rfl)
    |(obtain⟨_,_,_,_,rfl,_⟩:=hv;rfl)
  have h2:x.cells= #[x]:=by cases x<;>simp_all [Value.cells,Value.oneCell']
  rw[h2];simp only[bD];exact⟨⟨hv,trivial⟩,by simpa using h1⟩
end
section
open Bool renaming not_eq_true → aW
open List renaming map_cons → ak
open Go.RowKit
def kH:TypeDesc->Option TK
 |.bool=>some .bool
 |.int k=>some (.int k)
 |.string=>some .str
 |.slice e=>some (.slice e)
 |.struct fs=>some (.struct (fs.toList.map fun f=>(f.offset,f.type)))
 |.func _ _ _=>some .fn
 |.pointer e=>some (.ptr e)
 |.map k e=>some (.map k e)
 |.array _ _=>none
 |_=>some .other
def jH (T:TT):Nat->List (Nat×TypeId)->Option Ty
 |_,[]=>some .unit
 |off,(o,ft)::rest=>if o=off then match(T.at ft).ty with
   |some a=>if a.size=(T.at ft).size/\(T.at ft).known=true then match jH T (off+a.size) rest with
    |some b=>some (.pair a b)
    |none=>none
    else none
   |none=>none
  else none
def lD (T:TT):TK->Option Ty
 |.bool=>some .bool
 |.int k=>some (.int k)
 |.str=>some .str
 |.slice e=>(T.at e).ty.map .list
 |.struct fs=>jH T 0 fs
 |_=>none
def aDB (P:Program) (T:TT) (t:TypeId) (i:TI):Prop:=
 i.known=true->(P.info? t).map (fun f=>(f.size,f.bytes,f.zero.map fun z=>(z.cells.toList.map wZ,z.cells.toList.all Value.oneCell')))=some (i.size,i.bytes,some (i.zero,true))/\
  (P.underlying t).map kH=some (some i.k)/\(i.ty=none\/i.ty=lD T i.k)/\(∀y,i.ty=some y->y.size=i.size)/\(i.isAgg=true\/i.size=1)/\
  (i.eq=true->P.eqGuardType P.depth t=false/\P.stoodInHeld t=false/\(P.underlying t).map (fun d=>match d with|.struct fs=>fs.toList.all fun f=>f.name != "_" |_=>false)=some true)/\
  (P.underlying t).map (fun d=>match d with|.struct fs=>fs.toList.all fun f=>(P.info? f.type).isSome|_=>true)=some true/\i.zero.length=i.size/\(i.ty=some (.int .u8)->t=oU)/\(i.bld=true->t=W9)/\(∀k,i.k=.int k-> ∀j,P.info? t=some j->j.zero=some (.int k 0))
def TOk (P:Program) (T:TT):Prop:= ∀t,aDB P T t (T.at t)
def TT.All (p:Nat->TI->Prop):TT->Prop
 |.nil=>True
 |.node k i l r=>p k i/\l.All p/\r.All p
theorem TT.All.at_ {p:Nat->TI->Prop} (hd: ∀t,p t default): ∀(T:TT),T.All p-> ∀t,p t (T.at t)
 |.nil,_,t=>hd t
 |.node k i l r,⟨h1,h2,h3⟩,t=>by
  simp only[TT.at];by_cases e:Nat.beq k t=true
  ·simp_all
  ·have e':Nat.beq k t=false:=(aW _).mp e;simp only[e',cond_false];by_cases e2:Nat.blt t k=true
   ·simp only[e2,cond_true];exact TT.All.at_ hd l h2 t
   ·have e2':Nat.blt t k=false:=(aW _).mp e2;simp only[e2',cond_false];exact TT.All.at_ hd r h3 t
theorem TOk.of_all {P:Program} {T:TT} (h:T.All (aDB P T)):TOk P T:=TT.All.at_ (fun t h=>by cases h) T h
section types
variable {P:Program} {T:TT} (hT:TOk P T) {t:TypeId} (hk:(T.at t).known=true)
theorem TOk.info (hT:TOk P T) (hk:(T.at t).known=true): ∃i z,P.info? t=some i/\i.size=(T.at t).size/\i.bytes=(T.at t).bytes/\i.zero=some z/\z.cells.toList.map wZ=(T.at t).zero/\z.cells.toList.all Value.oneCell'=true:=by
 have h:=(hT t hk).1;simp_all
theorem TOk.und (hT:TOk P T) (hk:(T.at t).known=true): ∃d,P.underlying t=some d/\kH d=some (T.at t).k:=by
 have h:=(hT t hk).2.1;simp_all
theorem TOk.slice (hT:TOk P T) (hk:(T.at t).known=true) {e:TypeId} (h:(T.at t).k=.slice e):P.underlying t=some (.slice e):=by
 obtain⟨d,h1,h2⟩:=hT.und hk;rw[h]at h2;cases d<;>simp[kH]at h2;subst h2;exact h1
theorem TOk.str (hT:TOk P T) (hk:(T.at t).known=true) (h:(T.at t).k=.str):P.underlying t=some .string:=by
 obtain⟨d,h1,h2⟩:=hT.und hk;rw[h]at h2;cases d<;>simp[kH]at h2;exact h1
theorem TOk.int (hT:TOk P T) (hk:(T.at t).known=true) {k:IntKind} (h:(T.at t).k=.int k):P.underlying t=some (.int k):=by
 obtain⟨d,h1,h2⟩:=hT.und hk;rw[h]at h2;cases d<;>simp[kH]at h2;subst h2;exact h1
theorem TOk.struct (hT:TOk P T) (hk:(T.at t).known=true) {fs:List (Nat×TypeId)} (h:(T.at t).k=.struct fs): ∃fields,P.underlying t=some (.struct fields)/\fields.toList.map (fun f=>(f.offset,f.type))=fs:=by
 obtain⟨d,h1,h2⟩:=hT.und hk;rw[h]at h2;cases d<;>simp[kH]at h2;simp_all
theorem TOk.isAgg (hT:TOk P T) (hk:(T.at t).known=true) (w:World):(Go.isAgg t).run P w=.ok (T.at t).isAgg w:=by
 obtain⟨d,h1,h2⟩:=hT.und hk;have:(Go.isAgg t).run P w=.ok (match d with|.struct _|.array _ _=>true|_=>false) w:=by
  simp only[Go.isAgg,Sem.run_bind,run_underlying h1,Result.andThen_ok];cases d<;>rfl
 rw[this];unfold TI.isAgg;cases d<;>simp only[kH,Option.some.injEq,reduceCtorEq]at h2<;>simp[<-h2]
theorem TOk.sizeOf (hT:TOk P T) (hk:(T.at t).known=true) (w:World):(Go.sizeOf t).run P w=.ok (T.at t).size w:=by
 obtain⟨i,z,h1,h2,_⟩:=hT.info hk;simp[Go.sizeOf,typeInfo,h1,h2]
theorem TOk.ty_agg (hT:TOk P T) (hk:(T.at t).known=true) {y:Ty} (h:(T.at t).ty=some y):y.isAgg=(T.at t).isAgg:=by
 rcases(hT t hk).2.2.1 with h1|h1
 ·simp_all
 ·rw[h]at h1;unfold TI.isAgg;cases hkk:(T.at t).k with
  |struct fs=>
   rw[hkk]at h1;simp only[lD]at h1;cases fs with
   |nil=>simp only[jH,Option.some.injEq]at h1;subst h1;rfl
   |cons f r=>
    obtain⟨o,ft⟩:=f;simp only[jH]at h1
    repeat' split at h1
    all_goals first|cases h1|skip
    rfl
  |bool=>rw[hkk]at h1;simp only[lD,Option.some.injEq]at h1;subst h1;rfl
  |int k=>rw[hkk]at h1;simp only[lD,Option.some.injEq]at h1;subst h1;rfl
  |str=>rw[hkk]at h1;simp only[lD,Option.some.injEq]at h1;subst h1;rfl
  |slice e=>
   rw[hkk]at h1;simp only[lD]at h1;cases he:(T.at e).ty with
   |none=>simp_all
   |some e'=>rw[he]at h1;simp only[Option.map_some,Option.some.injEq]at h1;subst h1;rfl
  |other=>rw[hkk]at h1;cases h1
  |ptr e=>rw[hkk]at h1;cases h1
  |fn=>rw[hkk]at h1;cases h1
  |map a b=>rw[hkk]at h1;cases h1
theorem TOk.ty_size (hT:TOk P T) (hk:(T.at t).known=true) {y:Ty} (h:(T.at t).ty=some y):y.size=(T.at t).size:=(hT t hk).2.2.2.1 y h
theorem TOk.zlen (hT:TOk P T) (hk:(T.at t).known=true):(T.at t).zero.length=(T.at t).size:=(hT t hk).2.2.2.2.2.2.2.1
theorem TOk.byte (hT:TOk P T) (hk:(T.at t).known=true) (h:(T.at t).ty=some (.int .u8)):t=oU:=(hT t hk).2.2.2.2.2.2.2.2.1 h
theorem TOk.bldr (hT:TOk P T) (hk:(T.at t).known=true) (h:(T.at t).bld=true):t=W9:=(hT t hk).2.2.2.2.2.2.2.2.2.1 h
theorem TOk.ptr (hT:TOk P T) (hk:(T.at t).known=true) {e:TypeId} (h:(T.at t).k=.ptr e):P.underlying t=some (.pointer e):=by
 obtain⟨d,h1,h2⟩:=hT.und hk;rw[h]at h2;cases d<;>simp[kH]at h2;subst h2;exact h1
theorem TOk.zero_int (hT:TOk P T) (hk:(T.at t).known=true) {k:IntKind} (h:(T.at t).k=.int k) {i:TypeInfo} (hi:P.info? t=some i):i.zero=some (.int k 0):=(hT t hk).2.2.2.2.2.2.2.2.2.2 k h i hi
theorem TOk.zero_byte (hT:TOk P T) (hk:(T.at t).known=true) (h:(T.at t).k=.int .u8) {i:TypeInfo} (hi:P.info? t=some i):i.zero=some (.int .u8 0):=hT.zero_int hk h hi
theorem TOk.map (hT:TOk P T) (hk:(T.at t).known=true) {a e:TypeId} (h:(T.at t).k=.map a e):P.underlying t=some (.map a e):=by
 obtain⟨d,h1,h2⟩:=hT.und hk;rw[h]at h2;cases d<;>simp[kH]at h2;simp_all
theorem TOk.one (hT:TOk P T) (hk:(T.at t).known=true):(T.at t).isAgg=true\/(T.at t).size=1:=(hT t hk).2.2.2.2.1
end types
theorem SI (c:Cx) (v:Value):bP c (wZ v) v:=by
 unfold wZ;split<;>simp only[bP]
 ·exact(VD.leaf rfl).2 rfl
 ·exact(VD.leaf rfl).2 rfl
 ·refine(VD.leaf rfl).2 ?_;simp[eY]
theorem uq (c:Cx): ∀(l:List Value),bD c (l.map wZ) l
 |[]=>by simp[bD]
 |v::l=>by simp only[ak,bD];exact⟨SI c v,uq c l⟩
theorem bD.setL {c:Cx} {z:bK}: ∀(s:Nat) (fr:List bK) (xs:List Value),bD c fr xs->(∀h:s<xs.length,bP c z xs[s])->bD c (fr.set s z) xs
 |s,[],[],_,_=>by simp[bD]
 |0,v::fr,x::xs,h,hz=>by
  simp_all [bD]
 |s+1,v::fr,x::xs,h,hz=>by
  simp only[bD,List.set_cons_succ]at h ⊢;exact⟨h.1,bD.setL s fr xs h.2 fun hl=>hz (by simpa using hl)⟩
 |s,[],_::_,h,_=>by simp[bD]at h
 |s,_::_,[],h,_=>by simp[bD]at h
theorem bD.getD {c:Cx} {l:List bK} {xs:Array Value} (h:bD c l xs.toList) (t:Nat):bP c (l.getD t .undef) (xs.getD t undef):=by
 have hl:l.length=xs.size:=by grind [bD.length,Array.length_toList]
 by_cases ht:t<l.length
 ·have ht':t<xs.size:=by omega
  have h1:=bD.get _ _ h t ht (by simpa using ht');simp_all
 simp_all [bP]
theorem dJ {c:Cx} {fr:List bK} {a:Act} (h:bD c fr a.tmps.toList) (x:Operand):bP c (gV fr x) (a.eval x):=by
 cases x with
 |tmp t=>exact h.getD t
 |const v=>
  cases v with
  |agg cs=>
   simp only[gV,Act.eval,Y3];cases e:cs.toList.all Value.oneCell'
   ·simp[bP]
   ·simp only[cond_true,bP];exact⟨cs,rfl,uq c _,fun u hu=>List.all_eq_true.1 e u hu⟩
  |tuple _=>simp[gV,Y3,bP]
  |_=>simp only[gV,Act.eval,Y3];exact SI c _
 |global g=>simp[gV,bP]
 |func f=>simp only[gV,Act.eval,bP];exact⟨#[],rfl,by simp[bD]⟩
end
section
open Bool renaming false_eq_true → ag, not_true → ay
open List renaming append_assoc → ah, mem_of_mem_take → aY
open Go.RowKit
theorem dw {R:Type} {b:Bool} {x:Option R} {r:R} (h:(bif b then x else none)=some r):b=true/\x=some r:=by
 grind
theorem gp {R:Type} {b:Bool} {x:Option R} {r:R} (h:mf b x=some r):b=true/\x=some r:=dw h
abbrev He (c:Cx) (w:World):Prop:=Below c.w.heap.size c.w w
def valOf (agg:Bool) (zs:List Value):Value:=if agg then .agg zs.toArray else zs.headD undef
theorem jU (b o n:Nat):(⟨b,o,none⟩:Addr).add n=⟨b,o+n,none⟩:=by
 simp_all [Addr.add]
section
variable {P:Program} {T:TT} {W0:World} {c:Cx} {R:Type} {r:R} {t:TypeId}
theorem Lm (hT:TOk P T) (hk:(T.at t).known=true) {w:World} {b o:Nat} {zs:List Value} (hc:gX w b o zs) (hl:zs.length=(T.at t).size):
  (loadVar t ⟨b,o,none⟩).run P w=.ok (valOf (T.at t).isAgg zs) w:=by
 have h1:=hT.isAgg hk w;have h2:=hT.sizeOf hk w;have hcells: ∀j v,zs[j]? =some v->w.cell? ((⟨b,o,none⟩:Addr).add j)=some v:=fun j v hj=>by
  rw[jU];obtain⟨hj1,hj2⟩:=List.getElem?_eq_some_iff.1 hj;rw[hc j hj1,hj2]
 simp only[loadVar,Sem.run_bind,h1,Result.andThen_ok];cases e:(T.at t).isAgg
 ·have h3:zs.length=1:=by
   rcases hT.one hk with h|h
   all_goals simp_all
  match zs,h3 with
  |[z],_=>
   have h4:=hcells 0 z rfl;simp_all [jU,valOf]
 ·simp only[if_true,Sem.run_bind,h2,Result.andThen_ok,<-hl,run_loadCells_list (P:=P) w ⟨b,o,none⟩ zs hcells,Sem.run_pure,valOf]
theorem sK (hT:TOk P T) (hk:(T.at t).known=true) {w:World} {b o:Nat} {zs:List Value} (hc:gX w b o zs) (hl:zs.length=(T.at t).size):
  (Instr.loadAt t (.pointer (some ⟨b,o,none⟩))).run P w=.ok (valOf (T.at t).isAgg zs) w:=by
 grind [Instr.loadAt,Instr.sureAddr,Lm]
theorem af0 (hT:TOk P T) (hk:(T.at t).known=true) {y:Ty} (hy:(T.at t).ty=some y) {x:y.den} {zs:List Value} (h:eY c.w c.free y x zs):VD c y x (valOf (T.at t).isAgg zs):=by
 have h1:=hT.ty_agg hk hy;cases e:(T.at t).isAgg
 ·rw[e]at h1;refine(VD.leaf h1).2 ?_;have h2:=eY.length _ _ _ h;have h3:zs.length=1:=by
   rw[h2];cases y<;>first|rfl|(simp[Ty.isAgg]at h1)
  match zs,h3 with
  |[z],_=>exact h
 ·rw[e]at h1;exact(VD.agg h1).2 ⟨zs.toArray,rfl,by simpa using h⟩
theorem KL (hT:TOk P T) (hk:(T.at t).known=true) {l:List bK} {zs:List Value} (h:bD c l zs) (h1: ∀u∈zs,u.oneCell'=true):bP c (norm (T.at t) l) (valOf (T.at t).isAgg zs):=by
 unfold norm valOf TI.isAgg;have key:bP c (.agg l) (.agg zs.toArray):=by simp only[bP];simp_all
 cases hkk:(T.at t).k with
 |struct fs=>
  simp only[if_true];split
  ·rename_i y hy
   split
   ·rename_i x hx
    rw[cond_eq_ite];split
    ·exact key
    simp only[bP];have h2:=oG hx h;have h3:=hT.ty_agg hk hy;rw[TI.isAgg,hkk]at h3;exact(VD.agg h3).2 ⟨zs.toArray,rfl,by simpa using h2⟩
   ·exact key
  ·exact key
 |_=>
  simp only[ag,if_false];split
  ·rename_i v
   match zs,h with
   |[z],h=>simp only[bD]at h;exact h.1
   |[],h=>simp[bD]at h
   |_::_::_,h=>simp[bD]at h
  ·simp[bP]
theorem BK {cs l:List bK} {off k:Nat} (h:Jy cs off k=some l):off+k<=cs.length/\l=(cs.drop off).take k:=by
 unfold Jy at h;obtain⟨h1,h2⟩:=dw h;simp_all
theorem gX.sub {w:World} {b o:Nat} {zs:List Value} (h:gX w b o zs) (off k:Nat):gX w b (o+off) ((zs.drop off).take k):=by
 intro j hj;have h1:off+j<zs.length:=by simp at hj;omega
 rw[Nat.add_assoc,h (off+j) h1];simp
theorem gX.of_block_cells {w:World} {b:Nat} {vs:Array Value} {e:TypeId} {f:Nat×Nat} (h:w.heap[b]? =some (.cells vs e f)):gX w b 0 vs.toList:=by
 intro j hj;simp_all [World.cell?]
theorem He.cells {c:Cx} {w:World} (h:He c w) {b o:Nat} {zs:List Value} (hb:b<c.w.heap.size) (hc:gX c.w b o zs):gX w b o zs:=hc.of_block (h.block b hb)
theorem avX (hok:c.Ok W0) {id ver:Nat} {y:Ty} {xs:List y.den} (h:dK c.hp id=some (.arr y ver xs)) {i:Nat} (hi:i<xs.length):
  ∃g n cp zs,(c.mu id).v=.slice (some ⟨g,0,none⟩) n cp/\c.own g/\eY c.w c.free y xs[i] zs/\gX c.w g (i*y.size) zs:=by
 obtain⟨h0,e,zs,h1,h2,hty⟩:=hok.obj id _ h;obtain⟨d,d1,d2,l1,l2,d3,d4⟩:=gu.at_ i xs zs hi h2;rcases h1.2 with ⟨h3,h4⟩|⟨g,cap,cur,h3,h4,h5,h6,h7,h8,h9⟩
 ·omega
 ·refine⟨g,_,_,d,h3,⟨id,_,h,by simp[dI.blk,h3,Value.ownBlock]⟩,d2, ?_⟩;have hc:=gX.of_block_cells h5;intro j hj;have e1:zs[i*y.size+j]? =some d[j]:=by
   rw[d3,ah,List.getElem?_append_right (by omega),d4,Nat.add_sub_cancel_left,List.getElem?_append_left hj];simp
  have hlt:i*y.size+j<zs.length:=(List.getElem?_eq_some_iff.1 e1).1;rw[<-h9]at e1 hlt;have hlt2:i*y.size+j<cur.toList.length:=by grind
  have:=hc (i*y.size+j) hlt2
  grind
theorem avR (hT:TOk P T) (hok:c.Ok W0) {av:bK} {v:Value} {K:bK->Option R} (h:MJ T c.hp t av K=some r) (hv:bP c av v):
  ∃z u,K z=some r/\bP c z u/\ ∀w',He c w'->(Instr.loadAt t v).run P w'=.ok u w':=by
 unfold MJ at h;cases hk:(T.at t).known
 ·simp_all
 rw[hk]at h;simp only[ay,cond_false]at h;cases av with
 |cellp y x=>
  simp only at h;split at h
  ·rename_i y' hy
   split at h
   ·rename_i x' hx
    obtain⟨e,h2⟩:=lT hx;subst e;subst h2;simp only[bP]at hv;obtain⟨b,o,zs,rfl,hb,hc,hd⟩:=hv;refine⟨_,_,h, ?_,fun w' hw=>sK hT hk (hw.cells hb.1 hc) ?_⟩
    ·grind [bP,af0]
    ·rw[eY.length _ _ _ hd,hT.ty_size hk hy]
   ·cases h
  ·cases h
 |ptr id off=>
  simp only at h;split at h
  ·rename_i bt cs hcs
   split at h
   ·rename_i l hl
    obtain⟨h1,rfl⟩:=BK hl;simp only[bP]at hv;have hv':=hv.2.2 _ _ hcs;subst hv';obtain⟨hB,vs,h3,h4,h5⟩:=hok.obj id _ hcs;have hlen:=bD.length _ _ h4;have hc:=(gX.of_block_cells h3).sub off (T.at t).size;rw[Nat.zero_add]at hc;refine⟨_,_,h,KL hT hk (bD.take _ _ _ (bD.drop off _ _ h4)) (fun u hu=>h5 u (List.mem_of_mem_drop (aY hu))),fun w' hw=>sK hT hk (hw.cells (Array.getElem?_eq_some_iff.1 h3).1 hc) ?_⟩
    grind
   ·cases h
  ·cases h
 |ep id ver i off=>
  simp only at h;split at h
  ·rename_i y u xs harr
   replace h:=dw h;obtain⟨h1,h⟩:=h;replace h:=dw h;obtain⟨h2,h⟩:=h;have h1:u=ver:=by simpa using h1
   subst h1;have hi:i<xs.length:=by simpa [Qa] using h2
   split at h
   ·rename_i l hl
    obtain⟨h3,rfl⟩:=BK hl;simp only[bP]at hv;obtain⟨g',n',cp',e1,e2⟩:=(hv.2.2 _ _ _ harr).2 rfl;obtain⟨g,n,cp,zs,e3,hown,hd,hc⟩:=avX hok harr hi;rw[e1]at e3;cases e3;subst e2;have hx:xs.getD i y.dflt=xs[i]:=by simp[List.getD,hi]
    rw[hx]at h h3;have hf:=Ec y _ _ hd;have hlen:=bD.length _ _ hf;have hc2:=hc.sub off (T.at t).size;refine⟨_,_,h,KL hT hk (bD.take _ _ _ (bD.drop off _ _ hf)) (fun u hu=>eY.one _ _ _ hd u (List.mem_of_mem_drop (aY hu))),fun w' hw=>sK hT hk (hw.cells (hok.own_lt hown).2 hc2) ?_⟩;simp;omega
   ·cases h
  ·cases h
 |_=>cases h
end
end
section
open Bool renaming and_eq_true → af, false_eq_true → ag, not_true → ay, true_and → aJ
open List renaming map_cons → ak, drop_eq_getElem_cons → aA, all_cons → aV
open Go.RowKit
section
variable {P:Program} {T:TT} {W0:World} {c:Cx} {R:Type} {r:R} {t:TypeId}
theorem VD.int_inv {k:IntKind} {n:Int} {v:Value} (h:VD c (.int k) n v):v=.int k n:=by
 have:=h.2 rfl;simp_all [eY]
theorem VD.bool_inv {b:Bool} {v:Value} (h:VD c .bool b v):v=.bool b:=by
 have:=h.2 rfl;simp_all [eY]
theorem VD.str_inv {s:List UInt8} {v:Value} (h:VD c .str s v):v=.string ⟨s.toArray⟩:=by
 have:=h.2 rfl;simp_all [eY]
theorem VD.int_mk {k:IntKind} {n:Int}:VD c (.int k) n (.int k n):=(VD.leaf rfl).2 rfl
theorem VD.bool_mk {b:Bool}:VD c .bool b (.bool b):=(VD.leaf rfl).2 rfl
theorem VD.str_mk {s:List UInt8}:VD c .str s (.string ⟨s.toArray⟩):=(VD.leaf rfl).2 rfl
theorem F8 (hT:TOk P T) (h:T.isStr t=true):P.underlying t=some .string:=by
 unfold TT.isStr at h;split at h
 ·rename_i e;exact hT.str h e
 ·cases h
theorem lM (hT:TOk P T) {n:Nat} (h:T.rowOf t n=true): ∃e,P.underlying t=some (.slice e)/\(T.at e).known=true/\(T.at e).size=n/\0<n/\(T.at t).k=.slice e/\0<(T.at e).bytes:=by
 unfold TT.rowOf at h;split at h
 ·rename_i e he
  simp only[af,beq_iff_eq,Qa,decide_eq_true_eq]at h;exact⟨e,hT.slice h.1 he,h.2.1,h.2.2.1,h.2.2.2.1,he,h.2.2.2.2⟩
 ·cases h
theorem _root_.Go.Proofs.YtldbkoijjlaaeaaGreatDoor.TOk.isPtr (hT:TOk P T) (h:T.isPtr t=true): ∃e,P.underlying t=some (.pointer e):=by
 unfold TT.isPtr at h;split at h
 ·rename_i e hk;exact⟨e,hT.ptr h hk⟩
 ·cases h
theorem _root_.Go.Proofs.YtldbkoijjlaaeaaGreatDoor.TOk.isBytes (hT:TOk P T) (h:T.isBytes t=true):P.underlying t=some (.pointer oU)/\P.cellsOf oU=1:=by
 unfold TT.isBytes at h;split at h
 ·rename_i e hk
  simp only[af]at h;obtain⟨h1,h2,h3⟩:=h;split at h3
  ·rename_i he
   have:=hT.byte h2 he;subst this;refine⟨hT.ptr h1 hk, ?_⟩;obtain⟨i,z,e1,e2,_⟩:=hT.info h2;simp_all [Program.cellsOf]
  ·cases h3
 ·cases h
theorem KX (hT:TOk P T) (hk:(T.at t).known=true) (w:World) (cs:Array Value) (off:Nat) (h:off+(T.at t).size<=cs.size):
  (part t cs off).run P w=.ok (valOf (T.at t).isAgg ((cs.toList.drop off).take (T.at t).size)) w:=by
 have h1:=hT.isAgg hk w;have h2:=hT.sizeOf hk w;simp only[part,Sem.run_bind,h1,Result.andThen_ok];cases e:(T.at t).isAgg
 ·have h3:(T.at t).size=1:=by
   rcases hT.one hk with h|h
   all_goals simp_all
  have h4:off<cs.size:=by omega
  simp_all [aA,valOf]
 ·simp only[if_true,Sem.run_bind,h2,Result.andThen_ok,Sem.run_pure,valOf];congr 2
  grind
theorem BO (hT:TOk P T): ∀(n:Nat) (t:TypeId),T.eqOk n t=true-> ∀(y:Ty),(T.at t).ty=some y-> ∀(x x':y.den) (zs zs':List Value),eY c.w c.free y x zs->eY c.w c.free y x' zs'->
  ∀(w:World) (d:Nat),n<=d->(Op.equalIn d t (valOf (T.at t).isAgg zs) (valOf (T.at t).isAgg zs')).run P w=.ok (y.same x x') w
 |0,_,h,_,_,_,_,_,_,_,_,_,_,_=>by simp[TT.eqOk]at h
 |n+1,t,h,y,hy,x,x',zs,zs',hx,hx',w,d,hd=>by
  obtain⟨d,rfl⟩: ∃e,d=e+1:=⟨d-1,by omega⟩;simp only[TT.eqOk,af]at h;obtain⟨hk,h⟩:=h;have hty:(T.at t).ty=lD T (T.at t).k:=by
   rcases(hT t hk).2.2.1 with h1|h1
   all_goals simp_all
  cases hkk:(T.at t).k with
  |bool=>
   rw[hy,hkk]at hty;simp only[lD,Option.some.injEq]at hty;subst hty;obtain⟨dd,e1,e2⟩:=hT.und hk;rw[hkk]at e2;cases dd<;>simp[kH]at e2;simp_all [eY,TI.isAgg,valOf,run_equalIn_bool,Ty.same]
  |int k=>
   rw[hy,hkk]at hty;simp only[lD,Option.some.injEq]at hty;subst hty;have e1:=hT.int hk hkk;simp_all [eY,TI.isAgg,valOf,run_equalIn_int,Ty.same]
  |str=>
   rw[hy,hkk]at hty;simp only[lD,Option.some.injEq]at hty;subst hty;have e1:=hT.str hk hkk;simp_all [eY,TI.isAgg,valOf,run_equalIn_string,Ty.same]
  |struct fs=>
   rw[hkk]at h;simp only[af]at h;obtain⟨heq,hall⟩:=h;have hagg:(T.at t).isAgg=true:=by simp[TI.isAgg,hkk]
   rw[hy,hkk]at hty;simp only[lD]at hty;obtain⟨fields,e1,e2⟩:=hT.struct hk hkk;obtain⟨_,hst,hnm⟩:=(hT t hk).2.2.2.2.2.1 heq;rw[e1]at hnm;simp only[Option.map_some,Option.some.injEq]at hnm;have hf:P.fieldsOf t=fields:=by simp[Program.fieldsOf,e1]
   simp only[valOf,hagg,if_true];rw[run_equalIn_struct w d t _ _ (by rw[hf];exact e1) hst,hf];clear hf hst e1 hy;rw[<-e2]at hty hall;generalize fields.toList=fl at*;clear e2 fields hkk heq hagg hk;have key: ∀(fl:List Field) (off:Nat) (y:Ty) (x x':y.den) (zs zs' pre pre':List Value),jH T off (fl.map fun f=>(f.offset,f.type))=some y->(fl.map fun f=>(f.offset,f.type)).all (fun f=>T.eqOk n f.2)=true->
     (fl.all fun f=>f.name != "_")=true->eY c.w c.free y x zs->eY c.w c.free y x' zs'->pre.length=off->pre'.length=off->
     (Op.eqFields d (pre++zs).toArray (pre'++zs').toArray fl).run P w=.ok (y.same x x') w:=by
    intro fl
    induction fl with
    |nil=>
     intro off y x x' zs zs' pre pre' h1 _ _ h2 h3 _ _;simp only[List.map_nil,jH,Option.some.injEq]at h1;subst h1;rfl
    |cons f fl ih=>
     intro off y x x' zs zs' pre pre' h1 h2 h3 h4 h5 h6 h7;simp only[ak,jH]at h1;split at h1
     ·rename_i hoff
      split at h1
      ·rename_i a ha
       split at h1
       ·rename_i hs
        split at h1
        ·rename_i b hb
         cases h1;simp only[ak,aV,af]at h2 h3;obtain⟨l1,l2,e1,e2,e3⟩:=h4;obtain⟨m1,m2,e4,e5,e6⟩:=h5;subst e1;subst e4;have hl1:=eY.length _ _ _ e2;have hm1:=eY.length _ _ _ e5;have n1:(f.name≠ "_"):=by simpa using h3.1
         have p1:(part f.type (pre++(l1++l2)).toArray f.offset).run P w=.ok (valOf (T.at f.type).isAgg l1) w:=by
          rw[KX hT hs.2 w _ _ (by simp;omega)];simp_all
         have p2:(part f.type (pre'++(m1++m2)).toArray f.offset).run P w=.ok (valOf (T.at f.type).isAgg m1) w:=by
          rw[KX hT hs.2 w _ _ (by simp;omega)];simp_all
         have p3:=BO hT n f.type h2.1 a ha x.1 x'.1 l1 m1 e2 e5 w d (by omega);simp only[Op.eqFields,if_pos n1,Sem.run_bind,p1,p2,p3,Result.andThen_ok,Ty.same];cases a.same x.1 x'.1
         ·simp
         ·simp only[ay,ag,if_false,aJ];have:=ih (off+a.size) b x.2 x'.2 l2 m2 (pre++l1) (pre'++m1) hb h2.2 h3.2 e3 e6 (by simp;omega) (by simp;omega);simpa using this
        ·cases h1
       ·cases h1
      ·cases h1
     ·cases h1
   have:=key fl 0 y x x' zs zs' [] [] hty.symm hall hnm hx hx' rfl rfl;simpa using this
  |_=>simp_all
theorem acX (w:World) (op:BinOp) (a b:List UInt8) (h:op=.eql\/op=.neq\/op=.lss\/op=.leq\/op=.gtr\/op=.geq):
  ∃u,bP c (YR op a b) u/\ ∀w,(Op.stringOp op ⟨a.toArray⟩ ⟨b.toArray⟩).run P w=.ok u w:=by
 rcases h with rfl|rfl|rfl|rfl|rfl|rfl<;>
  exact⟨_,by simp only[YR,bP];exact VD.bool_mk,fun w=>by simp[Op.stringOp,fG,ltS]⟩
theorem lW (op:BinOp) (t:TypeId) (ox oy:Operand) (x y:Value) (w:World) (h:x.oneCell'=true) (h2:x≠ .nilIface):(eqGuard op t ox oy x y).run P w=.ok () w:=by
 unfold eqGuard;cases x<;>first
  |(simp[Value.oneCell']at h;done)
  |exact absurd rfl h2
  |(cases op<;>simp)
theorem FM {y:Ty} {v:bK} {x:y.den} (h:v.as [] y=some x) (hy:y.isAgg=true) {u:Value} (hv:bP c v u): ∃cs,u=.agg cs/\eY c.w c.free y x cs.toList:=by
 cases v with
 |val t' z=>
  grind [bK.as,lT,bP,VD.agg]
 |nils=>cases y<;>simp_all [bK.as,Ty.isAgg]
 |emp=>cases y<;>simp_all [bK.as,Ty.isAgg]
 |lst t' z b=>
  simp only[bK.as]at h;obtain⟨e,_⟩:=lT h;subst e;cases hy
 |slc id ver vw=>cases y<;>simp_all [bK.as,Ty.isAgg]
 |agg l=>
  simp only[bK.as,hy,cond_true]at h;simp only[bP]at hv;obtain⟨vs,rfl,h2,_⟩:=hv;exact⟨vs,rfl,oG h h2⟩
 |_=>simp[bK.as]at h
theorem aI0 (hT:TOk P T) {op:BinOp} {ox oy:Operand} {x y:bK} {vx vy:Value} {K:bK->Option R} (h:adI T op t x y K=some r) (hx:bP c x vx) (hy:bP c y vy):
  ∃z u,K z=some r/\bP c z u/\ ∀w,(do eqGuard op t ox oy vx vy;binOp op t vx vy:Sem Value).run P w=.ok u w:=by
 unfold adI at h;split at h
 ·
  rename_i k a k' b
  simp only[bP]at hx hy;obtain rfl:=hx.int_inv;obtain rfl:=hy.int_inv;split at h
  ·rename_i hk
   subst hk;have hg: ∀w,(eqGuard op t ox oy (.int k a) (.int k b)).run P w=.ok () w:=fun w=>lW op t ox oy _ _ w rfl (by simp);cases op<;>simp only[reduceCtorEq]at h
   case quo=>
    replace h:=gp h;obtain⟨h1,h⟩:=h;have h1:b≠0:=by simpa [bJ] using h1
    exact⟨_,_,h,by simp only[bP];exact VD.int_mk,fun w=>by simp_all [binOp,Op.intDiv,aH1]⟩
   case rem=>
    replace h:=gp h;obtain⟨h1,h⟩:=h;have h1:b≠0:=by simpa [bJ] using h1
    exact⟨_,_,h,by simp only[bP];exact VD.int_mk,fun w=>by simp_all [binOp,Op.intDiv]⟩
   case add=>exact⟨_,_,h,by simp only[zi,bP];exact VD.int_mk,fun w=>by simp_all [binOp,Op.intArith,bU]⟩
   case sub=>exact⟨_,_,h,by simp only[zi,bP];exact VD.int_mk,fun w=>by simp_all [binOp,Op.intArith,dR]⟩
   case mul=>exact⟨_,_,h,by simp only[zi,bP];exact VD.int_mk,fun w=>by simp_all [binOp,Op.intArith,aoV]⟩
   case eql=>exact⟨_,_,h,by simp only[zi,bP];exact VD.bool_mk,fun w=>by simp_all [binOp,Op.intCmp,bJ]⟩
   case neq=>exact⟨_,_,h,by simp only[zi,bP];exact VD.bool_mk,fun w=>by simp_all [binOp,Op.intCmp,bJ,bne]⟩
   case lss=>exact⟨_,_,h,by simp only[zi,bP];exact VD.bool_mk,fun w=>by simp_all [binOp,Op.intCmp,gU]⟩
   case leq=>exact⟨_,_,h,by simp only[zi,bP];exact VD.bool_mk,fun w=>by simp_all [binOp,Op.intCmp,leI]⟩
   case gtr=>exact⟨_,_,h,by simp only[zi,bP];exact VD.bool_mk,fun w=>by simp_all [binOp,Op.intCmp,gU]⟩
   case geq=>exact⟨_,_,h,by simp only[zi,bP];exact VD.bool_mk,fun w=>by simp_all [binOp,Op.intCmp,leI]⟩
   case and=>exact⟨_,_,h,by simp only[bP];exact VD.int_mk,fun w=>by simp_all [binOp,Op.intBits,aqH]⟩
   case or=>exact⟨_,_,h,by simp only[bP];exact VD.int_mk,fun w=>by simp_all [binOp,Op.intBits,aqH]⟩
   case xor=>exact⟨_,_,h,by simp only[bP];exact VD.int_mk,fun w=>by simp_all [binOp,Op.intBits,aqH]⟩
   case andNot=>exact⟨_,_,h,by simp only[bP];exact VD.int_mk,fun w=>by simp_all [binOp,Op.intBits,aqH]⟩
   case shl=>
    obtain⟨h1,h⟩:=gp h;have h1: ¬b<0:=by simpa [leI] using h1
    exact⟨_,_,h,by simp only[bP];exact VD.int_mk,fun w=>by simp[Sem.run_bind,hg,binOp,Op.shift,h1,aBf]⟩
   case shr=>
    obtain⟨h1,h⟩:=gp h;have h1: ¬b<0:=by simpa [leI] using h1
    exact⟨_,_,h,by simp only[bP];exact VD.int_mk,fun w=>by simp[Sem.run_bind,hg,binOp,Op.shift,h1,WN]⟩
  ·have hg: ∀w,(eqGuard op t ox oy (.int k a) (.int k' b)).run P w=.ok () w:=fun w=>lW op t ox oy _ _ w rfl (by simp);split at h
   ·obtain⟨h1,h⟩:=gp h;have h1: ¬b<0:=by simpa [leI] using h1
    exact⟨_,_,h,by simp only[bP];exact VD.int_mk,fun w=>by simp[Sem.run_bind,hg,binOp,Op.shift,h1,aBf]⟩
   ·obtain⟨h1,h⟩:=gp h;have h1: ¬b<0:=by simpa [leI] using h1
    exact⟨_,_,h,by simp only[bP];exact VD.int_mk,fun w=>by simp[Sem.run_bind,hg,binOp,Op.shift,h1,WN]⟩
   ·cases h
 ·
  rename_i a b
  simp only[bP]at hx hy;obtain rfl:=hx.bool_inv;obtain rfl:=hy.bool_inv;replace h:=dw h;obtain⟨hk,h⟩:=h;have hg: ∀w,(eqGuard op t ox oy (.bool a) (.bool b)).run P w=.ok () w:=fun w=>lW op t ox oy _ _ w rfl (by simp);have key:(T.at t).k=.bool->P.underlying t=some .bool:=fun e=>by
   obtain⟨d,e1,e2⟩:=hT.und hk;rw[e]at e2;cases d<;>simp[kH]at e2;exact e1
  split at h
  ·rename_i e
   have e1:=key e;exact⟨_,_,h,by simp only[bP];exact VD.bool_mk,fun w=>by simp_all [binOp,Op.equal,Op.maxDepth,run_equalIn_bool]⟩
  ·rename_i e
   have e1:=key e;exact⟨_,_,h,by simp only[bP];exact VD.bool_mk,fun w=>by simp_all [binOp,Op.equal,Op.maxDepth,run_equalIn_bool]⟩
  ·cases h
 ·
  rename_i a b
  simp only[bP]at hx hy;obtain rfl:=hx.str_inv;obtain rfl:=hy.str_inv;have hg: ∀w,(eqGuard op t ox oy (.string ⟨a.toArray⟩) (.string ⟨b.toArray⟩)).run P w=.ok () w:=fun w=>lW op t ox oy _ _ w rfl (by simp);have hb:binOp op t (.string ⟨a.toArray⟩) (.string ⟨b.toArray⟩)=Op.stringOp op ⟨a.toArray⟩ ⟨b.toArray⟩:=by cases op<;>rfl
  have fin:(op=.eql\/op=.neq\/op=.lss\/op=.leq\/op=.gtr\/op=.geq)->K (YR op a b)=some r->
    ∃z u,K z=some r/\bP c z u/\ ∀w,(do eqGuard op t ox oy (.string ⟨a.toArray⟩) (.string ⟨b.toArray⟩);binOp op t (.string ⟨a.toArray⟩) (.string ⟨b.toArray⟩):Sem Value).run P w=.ok u w:=fun ho hh=>by
   obtain⟨u,h1,h2⟩:=acX (P:=P) (c:=c) default op a b ho
   grind [Sem.run_bind,Result.andThen_ok]
  cases op<;>simp only[reduceCtorEq]at h
  case add=>
   replace h:=gp h;obtain⟨h1,h⟩:=h;refine⟨_,_,h,by simp only[bP];exact VD.str_mk,fun w=> ?_⟩;have h1:a.length+b.length<=lC:=by simpa using h1
   have h2: ¬((a.length:Int)+(b.length:Int)>IntKind.i64.max):=by
    grind [IntKind.max,IntKind.bits,lC]
   have e1:(⟨a.toArray⟩:ByteArray)++⟨b.toArray⟩=⟨(a++b).toArray⟩:=by
    rfl
   simp_all [ByteArray.size,Op.stringOp]
  all_goals simp_all
 ·
  rename_i e xs b
  simp only[bP]at hx hy;obtain⟨hx1,av,n,m,rfl,rfl⟩:=hx;subst hy;replace h:=dw h;obtain⟨hk,h⟩:=h;have hg: ∀w,(eqGuard op t ox oy (.slice av n m) (.slice none 0 0)).run P w=.ok () w:=fun w=>lW op t ox oy _ _ w rfl (by simp);have key: ∀el,(T.at t).k=.slice el->P.underlying t=some (.slice el):=fun el e=>by
   obtain⟨d,e1,e2⟩:=hT.und hk;rw[e]at e2;cases d<;>simp[kH]at e2;rw[e1,e2]
  have heq: ∀el,(T.at t).k=.slice el-> ∀w,(Op.equal t (.slice av n m) (.slice none 0 0)).run P w=.ok av.isNone w:=fun el e w=>by
   have e1:=key el e;show(Op.equalIn (9999+1) t (.slice av n m) (.slice none 0 0)).run P w=_;unfold Op.equalIn;rw[Sem.run_bind,run_underlying e1,Result.andThen_ok];cases av<;>rfl
  split at h
  ·rename_i el e
   exact⟨_,_,h,by simp only[bP];exact VD.bool_mk,fun w=>by simp_all [binOp]⟩
  ·rename_i el e
   exact⟨_,_,h,by simp only[bP];exact VD.bool_mk,fun w=>by simp_all [binOp]⟩
  ·cases h
 ·
  rename_i h0 h1 h2 h3
  cases heq:T.eqOk 6 t
  ·simp_all
  rw[heq]at h;simp only[ay,cond_false]at h;split at h
  ·rename_i fs ty hkk hty
   have hagg0:(T.at t).isAgg=true:=by simp[TI.isAgg,hkk]
   have hk:(T.at t).known=true:=by simp_all [TT.eqOk]
   have hagg:ty.isAgg=true:=by rw[hT.ty_agg hk hty,hagg0]
   have hge:P.eqGuardType P.depth t=false:=by
    simp only[TT.eqOk,af,hkk]at heq;exact((hT t hk).2.2.2.2.2.1 heq.2.1).1
   split at h
   ·rename_i a b ha hb
    obtain⟨cs,rfl,d1⟩:=FM ha hagg hx;obtain⟨cs',rfl,d2⟩:=FM hb hagg hy;refine⟨_,_,h,by simp only[bP];exact VD.bool_mk,fun w=> ?_⟩;have h3:=BO (P:=P) hT 6 t heq ty hty a b _ _ d1 d2 w 10000 (by omega);simp_all [valOf,run_eqGuard_agg,run_eql_struct]
   ·rename_i a b ha hb
    obtain⟨cs,rfl,d1⟩:=FM ha hagg hx;obtain⟨cs',rfl,d2⟩:=FM hb hagg hy;refine⟨_,_,h,by simp only[bP];exact VD.bool_mk,fun w=> ?_⟩;have h3:=BO (P:=P) hT 6 t heq ty hty a b _ _ d1 d2 w 10000 (by omega);simp_all [valOf,run_eqGuard_agg,run_neq_struct]
   ·cases h
  ·cases h
theorem avQ {W0:World} (hT:TOk P T) (hok:c.Ok W0) {op:BinOp} {ox oy:Operand} {x y:bK} {vx vy:Value} {K:bK->Option R} (h:Td T c.hp op t x y K=some r) (hx:bP c x vx) (hy:bP c y vy):
  ∃z u,K z=some r/\bP c z u/\ ∀w,(do eqGuard op t ox oy vx vy;binOp op t vx vy:Sem Value).run P w=.ok u w:=by
 unfold Td at h;rw[cond_eq_ite]at h;split at h
 ·rename_i hs
  unfold awP at hs;split at hs
  ·split at hs
   ·split at hs
    ·rename_i id ver vw q1 q2 e v ys harr
     simp only[af,beq_iff_eq,Qa,decide_eq_true_eq]at hs;obtain⟨rfl,hpos⟩:=hs;simp only[bP]at hx hy;subst hy;have hview:=(hx.2.2 _ _ _ harr).2 rfl;obtain⟨_,e',zs,hrow,_,_⟩:=hok.obj id _ harr;obtain⟨av,n,m,rfl⟩: ∃a n m,vx=.slice (some a) n m:=by
      rcases hrow.2 with ⟨_,h0⟩|⟨g,cap,cur,hv,_⟩
      ·omega
      ·cases vw with
       |none=>simp_all [iZ]
       |some lh=>
        obtain⟨lo,hi⟩:=lh;simp only[iZ]at hview
        grind
     obtain⟨hk,h⟩:=dw h;have hg: ∀w,(eqGuard op t ox oy (.slice (some av) n m) (.slice none 0 0)).run P w=.ok () w:=fun w=>lW op t ox oy _ _ w rfl (by simp);have heq: ∀el,(T.at t).k=.slice el-> ∀w,(Op.equal t (.slice (some av) n m) (.slice none 0 0)).run P w=.ok false w:=fun el e w=>by
      have e1:P.underlying t=some (.slice el):=by
       obtain⟨d,e1,e2⟩:=hT.und hk;rw[e]at e2;cases d<;>simp[kH]at e2;rw[e1,e2]
      show(Op.equalIn (9999+1) t (.slice (some av) n m) (.slice none 0 0)).run P w=_;unfold Op.equalIn;rw[Sem.run_bind,run_underlying e1,Result.andThen_ok];rfl
     split at h
     ·exact⟨_,_,h,by simp only[bP];exact VD.bool_mk,fun w=>by simp_all [binOp]⟩
     ·exact⟨_,_,h,by simp only[bP];exact VD.bool_mk,fun w=>by simp_all [binOp]⟩
     ·cases h
    ·cases hs
   ·cases hs
  ·cases hs
 ·rw[cond_eq_ite]at h;split at h
  ·rename_i hs
   unfold avO at hs;split at hs
   ·split at hs
    ·split at hs
     ·rename_i id off y0 q1 q2 bt cs hbx
      simp only[bP]at hx hy;subst hy;have hv:=hx.2.2 _ _ hbx;subst hv;obtain⟨hk,h⟩:=dw h;have hg: ∀w,(eqGuard op t ox oy (.pointer (some ⟨(c.mu id).blk,off,none⟩)) (.pointer none)).run P w=.ok () w:=fun w=>lW op t ox oy _ _ w rfl (by simp);have heq: ∀el,(T.at t).k=.ptr el-> ∀w,(Op.equal t (.pointer (some ⟨(c.mu id).blk,off,none⟩)) (.pointer none)).run P w=.ok false w:=fun el e w=>by
       have e1:=hT.ptr hk e;show(Op.equalIn (9999+1) t (.pointer (some ⟨(c.mu id).blk,off,none⟩)) (.pointer none)).run P w=_;unfold Op.equalIn;simp_all [run_underlying]
      split at h
      ·exact⟨_,_,h,by simp only[bP];exact VD.bool_mk,fun w=>by simp_all [binOp]⟩
      ·exact⟨_,_,h,by simp only[bP];exact VD.bool_mk,fun w=>by simp_all [binOp]⟩
      ·cases h
     ·cases hs
    ·cases hs
   ·cases hs
  ·exact aI0 hT h hx hy
theorem aI1 {op:UnOp} {x:bK} {v:Value} {K:bK->Option R} (h:asH op x K=some r) (hx:bP c x v):
  ∃z u,K z=some r/\bP c z u/\ ∀w,(Op.unary op v).run P w=.ok u w:=by
 unfold asH at h;split at h
 ·simp only[bP]at hx;obtain rfl:=hx.bool_inv;exact⟨_,_,h,by simp only[bP];exact VD.bool_mk,fun w=>rfl⟩
 ·simp only[bP]at hx;obtain rfl:=hx.int_inv;exact⟨_,_,h,by simp only[bP];exact VD.int_mk,fun w=>by rfl⟩
 ·cases h
end
end
section
open Bool renaming and_eq_true → af, false_eq_true → ag
open Nat renaming le_refl → ae
open Go.RowKit
section
variable {P:Program} {T:TT} {W0:World} {c:Cx} {R:Type} {r:R} {t:TypeId}
theorem rX {v:bK} {n:Int} (h:intOf v=some n) {u:Value} (hv:bP c v u): ∃k,u=.int k n:=by
 cases v with
 |val t x=>
  cases t<;>simp only[intOf,reduceCtorEq]at h;cases h;simp only[bP]at hv;exact⟨_,hv.int_inv⟩
 |_=>simp[intOf]at h
def lK (c:Cx):Option bK->Option Value->Prop
 |none,none=>True
 |some v,some u=>bP c v u
 |_,_=>False
theorem lK.map {fr:List bK} {a:Act} (h:bD c fr a.tmps.toList) (x:Option Operand):lK c (x.map (gV fr)) (x.map a.eval):=by
 cases x with
 |none=>trivial
 |some x=>exact dJ h x
theorem lK.none_inv {u:Option Value} (h:lK c none u):u=none:=by
 cases u with
 |none=>rfl
 |some _=>exact h.elim
theorem og {d l:Int} {x:Option bK} {u:Option Value} (h:bound d x=some l) (hr:lK c x u):(u=none/\l=d)\/ ∃k,u=some (.int k l):=by
 cases x with
 |none=>
  cases u with
  |none=>simp only[bound,Option.some.injEq]at h;simp_all
  |some _=>exact hr.elim
 |some x=>
  cases u with
  |none=>exact hr.elim
  |some u=>
   obtain⟨k,rfl⟩:=rX h hr;simp
theorem qf {w:World} {isS:Bool} {n cap:Nat} {l h:Int} {lo hi:Option Value} (hl:(lo=none/\l=0)\/ ∃k,lo=some (.int k l)) (hh:(hi=none/\h=(n:Int))\/ ∃k,hi=some (.int k h))
  (h0:0<=l) (h1:l<=h) (h2:h<=(n:Int)) (h3:n<=cap):(Instr.sliceBounds isS n cap lo hi none).run P w=.ok (l.toNat,h.toNat,cap) w:=by
 have b1: ∀k code,(Instr.sliceBound (.int k h) cap code).run P w=.ok h.toNat w:=fun k code=>by
  simp only[Instr.sliceBound,asIntOf,Sem.run_bind,Sem.run_pure,Result.andThen_ok];rw[if_pos ⟨by omega,by omega⟩];rfl
 have b2: ∀k code,(Instr.sliceBound (.int k l) h.toNat code).run P w=.ok l.toNat w:=fun k code=>by
  simp only[Instr.sliceBound,asIntOf,Sem.run_bind,Sem.run_pure,Result.andThen_ok];rw[if_pos ⟨by omega,by omega⟩];rfl
 rcases hl with ⟨rfl,rfl⟩|⟨k,rfl⟩<;>rcases hh with ⟨rfl,rfl⟩|⟨k',rfl⟩<;>simp[Instr.sliceBounds,Sem.run_bind,b1,b2]
 simp_all
theorem NV {w:World} {n cap:Nat} {lo:Option Value} {q k:IntKind} (hl:(lo=none/\(0:Int)=0)\/ ∃k,lo=some (.int k 0)):
  (Instr.sliceBounds true n cap lo (some (.int q 0)) (some (.int k 0))).run P w=.ok (0,0,0) w:=by
 have b1: ∀k c code,(Instr.sliceBound (.int k 0) c code).run P w=.ok 0 w:=fun k c code=>by
  rfl
 rcases hl with ⟨rfl,_⟩|⟨k',rfl⟩<;>simp[Instr.sliceBounds,Sem.run_bind,b1]
theorem I9 {n lo hi:Int} (h:eU n lo hi=true):0<=lo/\lo<=hi/\hi<=n:=by
 simp_all [eU]
theorem Ji {α:Type} (l:List α) {lo hi:Int} (h1:0<=lo) (h2:lo<=hi) (h3:hi<=(l.length:Int)):(sub l lo hi).length=hi.toNat-lo.toNat:=by
 grind [sub]
theorem qU {e:Ty} {xs:List e.den} {v:Value} (h:VD c (.list e) xs v): ∃a n zs,v=.slice a xs.length n/\xs.length<=n/\gu (eY c.w c.free e) e.size xs zs/\(zs=[]\/ ∃b off,a=some ⟨b,off,none⟩/\c.free b/\gX c.w b off zs):=by
 obtain⟨a,n,zs,h1,h2,h3,h4⟩:=h.2 rfl
 grind
theorem VD.sub_list {e:Ty} {xs:List e.den} {a:Option Addr} {n:Nat} {zs:List Value} (h2:xs.length<=n) (h3:gu (eY c.w c.free e) e.size xs zs) (h4:zs=[]\/ ∃b off,a=some ⟨b,off,none⟩/\c.free b/\gX c.w b off zs)
  {l h:Int} (p1:0<=l) (p2:l<=h) (p3:h<=(xs.length:Int)):
  VD c (.list e) (sub xs l h) (.slice (if n=l.toNat then a else a.map (·.add (l.toNat*e.size))) (h.toNat-l.toNat) (n-l.toNat)):=by
 refine(VD.leaf rfl).2 ⟨_,_,(zs.take (h.toNat*e.size)).drop (l.toNat*e.size),by rw[Ji xs p1 p2 p3],by grind [Ji],gu.drop _ _ _ (gu.take _ _ _ h3), ?_⟩;by_cases hn:n=l.toNat
 ·grind
 ·rw[if_neg hn];rcases h4 with h4|⟨b,off,h5,h6,h7⟩
  ·left;rw[h4];simp
  ·right;refine⟨b,off+l.toNat*e.size,by rw[h5];simp[jU],h6, ?_⟩;have:=h7.sub (l.toNat*e.size) (h.toNat*e.size-l.toNat*e.size)
   grind [List.drop_take]
theorem al0 (hT:TOk P T) (hok:c.Ok W0) {x:bK} {v:Value} {lo hi mx:Option bK} {lo' hi' mx':Option Value} {K:bK->Option R} (h:JL T c.hp t x lo hi mx K=some r) (hx:bP c x v)
  (hlo:lK c lo lo') (hhi:lK c hi hi') (hmx:lK c mx mx'): ∃z u,K z=some r/\bP c z u/\ ∀w,(Instr.sliceAt t v lo' hi' mx').run P w=.ok u w:=by
 unfold JL at h;split at h
 ·rename_i s
  split at h
  ·rename_i l hh hl hhh
   replace h:=gp h;obtain⟨h1,h⟩:=h;simp only[af]at h1;obtain⟨p1,p2,p3⟩:=I9 h1.2;simp only[bP]at hx;obtain rfl:=hx.str_inv;have hm:mx'=none:=lK.none_inv hmx;subst hm;have hu:=F8 hT h1.1;refine⟨_,.string ⟨(sub s l hh).toArray⟩,h,by simp only[bP];exact VD.str_mk,fun w=> ?_⟩;have hs:(⟨s.toArray⟩:ByteArray).size=s.length:=by rfl
   have hb:=qf (P:=P) (w:=w) (isS:=false) (cap:=s.length) (og hl hlo) (og hhh hhi) p1 p2 p3 (ae _);have he:(⟨s.toArray⟩:ByteArray).extract l.toNat hh.toNat=⟨(sub s l hh).toArray⟩:=by
    apply ByteArray.ext;simp_all [sub,List.drop_take]
   simp only[Instr.sliceAt,Instr.slice,Sem.run_bind,run_underlying hu,Result.andThen_ok,Option.isSome_none,ag,if_false,hs,hb,Sem.run_pure,he]
  ·cases h
 ·rename_i e xs
  split at h
  ·rename_i l hh hl hhh
   replace h:=gp h;obtain⟨h1,h⟩:=h;simp only[af]at h1;obtain⟨p1,p2,p3⟩:=I9 h1.2;simp only[bC]at p3;simp only[bP]at hx;obtain⟨a,n,zs,rfl,h2,h3,h4⟩:=qU hx;have hm:mx'=none:=lK.none_inv hmx;subst hm;obtain⟨et,hu,hk,hsz,_,_⟩:=lM hT h1.1;refine⟨_,_,h,by simp only[bP];exact VD.sub_list h2 h3 h4 p1 p2 p3,fun w=> ?_⟩;have hb:=qf (P:=P) (w:=w) (isS:=true) (n:=xs.length) (cap:=n) (og hl hlo) (og hhh hhi) p1 p2 p3 h2;simp only[Instr.sliceAt,Instr.slice,Sem.run_bind,run_underlying hu,Result.andThen_ok,hb,hT.sizeOf hk w,Sem.run_pure,hsz]
  ·cases h
 ·rename_i e xs mv
  split at h
  ·rename_i l hh k hl hhh hk3
   replace h:=gp h;obtain⟨h1,h⟩:=h;simp only[af,beq_iff_eq]at h1;obtain⟨h1,rfl,rfl,rfl⟩:=h1;simp only[bP]at hx;obtain⟨a,n,zs,rfl,h2,h3,h4⟩:=qU hx;obtain⟨et,hu,hk,hsz,_,_⟩:=lM hT h1;obtain⟨hv,rfl,hhv⟩:=Option.bind_eq_some_iff.1 hhh;cases hmx':mx' with
   |none=>simp_all [lK]
   |some m2=>
    rw[hmx']at hmx;cases hhi':hi' with
    |none=>simp_all [lK]
    |some h2'=>
     rw[hhi']at hhi;obtain⟨q,rfl⟩:=rX hhv (show bP c hv h2' from hhi);obtain⟨k',rfl⟩:=rX hk3 (show bP c mv m2 from hmx);refine⟨_,.slice a 0 0,h,by simp only[bP];exact⟨a,rfl⟩,fun w=> ?_⟩;have hb:=NV (P:=P) (w:=w) (n:=xs.length) (cap:=n) (q:=q) (k:=k') (og hl hlo);simp only[Instr.sliceAt,Instr.slice,Sem.run_bind,run_underlying hu,Result.andThen_ok,hb,hT.sizeOf hk w,Sem.run_pure];simp
  ·cases h
 ·split at h
  ·rename_i l hh hl hhh
   replace h:=gp h;obtain⟨h1,h⟩:=h;simp only[af,bJ,beq_iff_eq]at h1;obtain⟨h1,rfl,rfl⟩:=h1;simp only[bP]at hx;subst hx;have hm:mx'=none:=lK.none_inv hmx;subst hm;obtain⟨et,hu,hk,hsz,_,_⟩:=lM hT h1;refine⟨_,.slice none 0 0,h,by simp only[bP],fun w=> ?_⟩;have hb:=qf (P:=P) (w:=w) (isS:=true) (n:=0) (cap:=0) (og hl hlo) (og hhh hhi) (Int.le_refl _) (Int.le_refl _) (Int.le_refl _) (ae _);simp only[Instr.sliceAt,Instr.slice,Sem.run_bind,run_underlying hu,Result.andThen_ok,hb,hT.sizeOf hk w,Sem.run_pure];simp
  ·cases h
 ·rename_i id ver
  split at h
  ·rename_i e u xs harr
   replace h:=dw h;obtain⟨h0,h⟩:=h;have h0:u=ver:=by simpa using h0
   subst h0;split at h
   ·rename_i l hh hl hhh
    replace h:=gp h;obtain⟨h1,h⟩:=h;simp only[af]at h1;obtain⟨p1,p2,p3⟩:=I9 h1.2;simp only[bC]at p3;simp only[bP]at hx;have hx1:=(hx.2.2 _ _ _ harr).2 rfl;simp only[iZ]at hx1;have hm:mx'=none:=lK.none_inv hmx;subst hm;obtain⟨et,hu,hk,hsz,_,_⟩:=lM hT h1.1;obtain⟨_,e',zs,hown,hL,hty⟩:=hok.obj id _ harr;obtain⟨a,n,hv,hn⟩: ∃a n,(c.mu id).v=.slice a xs.length n/\xs.length<=n:=by
     rcases hown.2 with ⟨e1,e2⟩|⟨g,cap,cur,e1,_,_,e2,_⟩
     all_goals grind
    rw[hv]at hx1;subst hx1;refine⟨_,.slice (if n=l.toNat then a else a.map (·.add (l.toNat*e.size))) (hh.toNat-l.toNat) (n-l.toNat),h, ?_,fun w=> ?_⟩
    ·simp only[bP];refine⟨rfl,hx.2.1,fun t' u' xs' h'=> ?_⟩;rw[harr]at h';cases h';exact⟨ae _,fun _=>⟨a,xs.length,n,hv,p1,p2,p3,rfl⟩⟩
    ·have hb:=qf (P:=P) (w:=w) (isS:=true) (n:=xs.length) (cap:=n) (og hl hlo) (og hhh hhi) p1 p2 p3 hn;simp only[Instr.sliceAt,Instr.slice,Sem.run_bind,run_underlying hu,Result.andThen_ok,hb,hT.sizeOf hk w,Sem.run_pure,hsz]
   ·cases h
  ·cases h
 ·cases h
end
end
section
open Bool renaming and_eq_true → af
open List renaming append_assoc → ah, map_cons → ak, drop_of_length_le → az, length_cons → aF, nil_append → aO, mem_of_mem_take → aY
open Go.RowKit
section
variable {P:Program} {T:TT} {W0:World} {c:Cx} {R:Type} {r:R} {t:TypeId}
theorem TP {α:Type} {l:List α} {i:Int} (h:fB l i=true):0<=i/\i<(l.length:Int)/\i.toNat<l.length:=by
 simp_all [fB]
theorem azt {α:Type} {l:List α} {d:α} {i:Int} (h:i.toNat<l.length):dQ l d i=l[i.toNat]:=by grind [dQ]
theorem Dj (hT:TOk P T) {e:TypeId} (hu:P.underlying t=some (.slice e)) (hk:(T.at e).known=true) (w:World) (a:Addr) (n cp:Nat) (k:IntKind) (i:Int) (h0:0<=i) (h1:i<(n:Int)):
  (Instr.indexAt t (.slice (some a) n cp) (.int k i)).run P w=.ok (.pointer (some (a.add (i.toNat*(T.at e).size)))) w:=by
 simp only[Instr.indexAt,asIntOf,Sem.run_bind,Sem.run_pure,Result.andThen_ok,run_underlying hu];rw[if_pos ⟨h0,h1⟩];simp[Sem.run_bind,hT.sizeOf hk w]
theorem Pz (hT:TOk P T) (hok:c.Ok W0) {x i:bK} {v vi:Value} {K:bK->Option R} (h:uy T c.hp t x i K=some r) (hx:bP c x v) (hi:bP c i vi):
  ∃z u,K z=some r/\bP c z u/\ ∀w,(Instr.indexAt t v vi).run P w=.ok u w:=by
 unfold uy at h;split at h
 ·cases h
 rename_i n hn
 obtain⟨k,rfl⟩:=rX hn hi;split at h
 ·rename_i e xs
  replace h:=gp h;obtain⟨h1,h⟩:=h;simp only[af]at h1;obtain⟨i0,i1,i2⟩:=TP h1.2;simp only[bP]at hx;obtain⟨a,cp,zs,rfl,h2,h3,h4⟩:=qU hx;obtain⟨et,hu,hk,hsz,hpos,_⟩:=lM hT h1.1;obtain⟨d,d1,d2,l1,l2,d3,d4⟩:=gu.at_ n.toNat xs zs i2 h3;have hne:zs≠[]:=by
   intro e0;simp_all
  rcases h4 with h4|⟨b,off,h5,h6,h7⟩
  ·exact absurd h4 hne
  ·refine⟨_,.pointer (some ⟨b,off+n.toNat*e.size,none⟩),h, ?_,fun w=> ?_⟩
   ·simp only[bP];refine⟨b,_,d,rfl,h6, ?_,by rw[azt i2];exact d2⟩;simp_all [gX.append]
   ·rw[h5,Dj hT hu hk w _ _ _ _ _ i0 i1,hsz,jU]
 ·rename_i id ver vw
  split at h
  ·rename_i e u xs harr
   replace h:=dw h;obtain⟨h0,h⟩:=h;have h0:u=ver:=by simpa using h0
   subst h0;simp only[bP]at hx;have hx1:=(hx.2.2 _ _ _ harr).2 rfl;obtain⟨_,e',zs,hown,hL,hty⟩:=hok.obj id _ harr;split at h
   ·replace h:=gp h;obtain⟨h1,h⟩:=h;simp only[af]at h1;obtain⟨i0,i1,i2⟩:=TP h1.2;obtain⟨et,hu,hk,hsz,hpos,_⟩:=lM hT h1.1;simp only[iZ]at hx1;rcases hown.2 with ⟨e1,e2⟩|⟨g,cap,cur,e1,_,_,e2,_⟩
    ·omega
    ·rw[e1]at hx1;subst hx1;refine⟨_,.pointer (some ⟨g,n.toNat*e.size,none⟩),h, ?_,fun w=> ?_⟩
     ·simp only[bP];refine⟨rfl,hx.2.1,fun t' u' xs' h'=> ?_⟩;simp_all
     ·rw[Dj hT hu hk w _ _ _ _ _ i0 i1,hsz,jU,Nat.zero_add]
   ·rename_i lo hi'
    replace h:=gp h;obtain⟨h1,h⟩:=h;simp only[af,decide_eq_true_eq,gU]at h1;obtain⟨et,hu,hk,hsz,hpos,_⟩:=lM hT h1.1;simp only[iZ]at hx1;obtain⟨a,m,cp,hv,q1,q2,q3,hx1⟩:=hx1;rcases hown.2 with ⟨e1,e2⟩|⟨g,cap,cur,e1,_,_,e2,_⟩
    ·grind
    ·rw[e1]at hv;cases hv;rw[if_neg (by omega)]at hx1;subst hx1;refine⟨_,.pointer (some ⟨g,(lo+n).toNat*e.size,none⟩),h, ?_,fun w=> ?_⟩
     ·simp only[bP];refine⟨rfl,hx.2.1,fun t' u' xs' h'=> ?_⟩;simp_all
     ·simp only[Option.map_some];rw[Dj hT hu hk w _ _ _ _ _ h1.2.1 (by omega),hsz,jU,jU,Nat.zero_add,<-Nat.add_mul]
      grind
  ·cases h
 ·cases h
theorem alZ (hT:TOk P T) {i:bK} {s:List UInt8} {n:Int} {v vi:Value} (hx:bP c (.val .str s) v) (hi:bP c i vi) (hn:intOf i=some n) (h:(T.isStr t&&fB s n)=true):
  bP c (.val (.int .u8) (bT s n)) (.int .u8 (bT s n))/\ ∀w,(Instr.index t v vi).run P w=.ok (.int .u8 (bT s n)) w:=by
 simp only[af]at h;obtain⟨i0,i1,i2⟩:=TP h.2;simp only[bP]at hx;obtain rfl:=hx.str_inv;obtain⟨k,rfl⟩:=rX hn hi;have hu:=F8 hT h.1;refine⟨by simp only[bP];exact VD.int_mk,fun w=> ?_⟩;have hb:(⟨s.toArray⟩:ByteArray)[n.toNat]? =some s[n.toNat]:=by
  have:n.toNat<(⟨s.toArray⟩:ByteArray).size:=by assumption
  rw[getElem?_pos (⟨s.toArray⟩:ByteArray) n.toNat this];rfl
 simp only[Instr.index,asIntOf,Sem.run_bind,Sem.run_pure,Result.andThen_ok,run_underlying hu,if_pos i0,hb]
 grind [bT]
theorem BP (hT:TOk P T) {f off:Nat} {ft:TypeId} (h:T.fieldAt t f=some (off,ft)): ∃fs fields fl,(T.at t).k=.struct fs/\fs[f]? =some (off,ft)/\(T.at t).known=true/\(T.at ft).known=true/\0<(T.at ft).size/\
  P.underlying t=some (.struct fields)/\fields[f]? =some fl/\fl.offset=off/\fl.type=ft:=by
 unfold TT.fieldAt at h;split at h
 ·rename_i fs hkk
  replace h:=dw h;obtain⟨hk,h⟩:=h;split at h
  ·rename_i o ft' hf
   replace h:=dw h;obtain⟨h1,h2⟩:=h;cases h2;simp only[af,Qa,decide_eq_true_eq]at h1;obtain⟨fields,e1,e2⟩:=hT.struct hk hkk
   grind
  ·cases h
 ·cases h
theorem MK (hT:TOk P T): ∀(fs:List (Nat×TypeId)) (o:Nat) (y:Ty),jH T o fs=some y-> ∀(f off:Nat) (ft:TypeId),fs[f]? =some (off,ft)-> ∀(x:y.den) (cs:List Value),eY c.w c.free y x cs->
  ∃(a:Ty) (z:a.den) (l1 l2 l3:List Value),Ze y x f=.val a z/\Tm y x f=.cellp a z/\(T.at ft).ty=some a/\a.size=(T.at ft).size/\cs=l1++l2++l3/\o+l1.length=off/\eY c.w c.free a z l2
 |[],_,_,_,f,_,_,h,_,_,_=>by simp at h
 |(o',ft')::fs,o,y,hy,f,off,ft,hf,x,cs,hd=>by
  simp only[jH]at hy;split at hy
  ·rename_i ho
   split at hy
   ·rename_i a ha
    split at hy
    ·rename_i hs
     split at hy
     ·rename_i b hb
      cases hy;obtain⟨l1,l2,h1,h2,h3⟩:=hd;cases f with
      |zero=>
       simp only[List.getElem?_cons_zero,Option.some.injEq,Prod.mk.injEq]at hf;obtain⟨rfl,rfl⟩:=hf;exact⟨a,x.1,[],l1,l2,rfl,rfl,ha,hs.1,by simpa using h1,by simp;omega,h2⟩
      |succ f=>
       simp only[List.getElem?_cons_succ]at hf;obtain⟨a',z,m1,m2,m3,e1,e2,e3,e4,e5,e6,e7⟩:=MK hT fs (o+a.size) b hb f off ft hf x.2 l2 h3;refine⟨a',z,l1++m1,m2,m3,e1,e2,e3,e4,by rw[h1,e5];simp, ?_,e7⟩
       grind [eY.length]
     ·cases hy
    ·cases hy
   ·cases hy
  ·cases hy
theorem Di (hT:TOk P T) {f off:Nat} {ft:TypeId} (h:T.fieldAt t f=some (off,ft)) (w:World) (b o:Nat):
  (Instr.fieldAt t (.pointer (some ⟨b,o,none⟩)) f).run P w=.ok (.pointer (some ⟨b,o+off,none⟩)) w:=by
 obtain⟨fs,fields,fl,hkk,hf,hk,hk2,hpos,hu,hfl,e1,e2⟩:=BP hT h;have hs:=hT.sizeOf (t:=fl.type) (by rw[e2];exact hk2) w;simp only[Instr.fieldAt,Sem.run_bind,run_underlying hu,Result.andThen_ok,hfl,Instr.sureAddr,Sem.run_pure,fieldPlace,hs,Sem.run_ite];rw[if_neg (by rw[e2];omega)];simp[jU,e1]
theorem YF (hT:TOk P T) (hk:(T.at t).known=true) {fs:List (Nat×TypeId)} (hkk:(T.at t).k=.struct fs) {y:Ty} (hy:(T.at t).ty=some y):jH T 0 fs=some y:=by
 rcases(hT t hk).2.2.1 with h1|h1
 ·simp_all
 ·rw[hy,hkk]at h1;exact h1.symm
theorem Py (hT:TOk P T) {x:bK} {f:Nat} {v:Value} {K:bK->Option R} (h:uw T c.hp t x f K=some r) (hx:bP c x v):
  ∃z u,K z=some r/\bP c z u/\ ∀w,(Instr.fieldAt t v f).run P w=.ok u w:=by
 unfold uw at h;split at h
 ·rename_i off ft hfa
  obtain⟨fs,fields,fl,hkk,hf,hk,hk2,hpos,hu,hfl,e1,e2⟩:=BP hT hfa;split at h
  ·rename_i u y
   split at h
   ·rename_i u' hty
    split at h
    ·rename_i z hz
     have e:=iF hz;subst e;rw[gz]at hz;cases hz;simp only[bP]at hx;obtain⟨b,o,zs,rfl,hb,hc,hd⟩:=hx;obtain⟨a,z,l1,l2,l3,g1,g2,g3,g4,g5,g6,g7⟩:=MK hT fs 0 u (YF hT hk hkk hty) f off ft hf _ _ hd;refine⟨_,.pointer (some ⟨b,o+off,none⟩),h, ?_,fun w=>Di hT hfa w b o⟩;rw[g2];simp only[bP];rw[g5,ah]at hc;have:=(gX.append.1 (gX.append.1 hc).2).1
     grind
    ·cases h
   ·cases h
  ·rename_i id o
   split at h
   ·rename_i bt cs hcs
    simp only[bP]at hx;have hv:=hx.2.2 _ _ hcs;subst hv;refine⟨_,.pointer (some ⟨(c.mu id).blk,o+off,none⟩),h, ?_,fun w=>Di hT hfa w _ o⟩;simp only[bP];exact⟨rfl,hx.2.1,fun _ _ _=>trivial⟩
   ·cases h
  ·rename_i id ver i o
   split at h
   ·rename_i e u xs harr
    replace h:=dw h;obtain⟨h0,h⟩:=h;have h0:u=ver:=by simpa using h0
    subst h0;simp only[bP]at hx;obtain⟨g,n,cp,hv,hx1⟩:=(hx.2.2 _ _ _ harr).2 rfl;subst hx1;refine⟨_,.pointer (some ⟨g,i*e.size+o+off,none⟩),h, ?_,fun w=>Di hT hfa w _ _⟩;simp only[bP];refine⟨rfl,hx.2.1,fun t' u' xs' h'=> ?_⟩
    grind
   ·cases h
  ·cases h
 ·cases h
theorem alY (hT:TOk P T) {x:bK} {f:Nat} {v:Value} {K:bK->Option R} (h:JJ T t x f K=some r) (hx:bP c x v):
  ∃z u,K z=some r/\bP c z u/\ ∀w,(Instr.field t v f).run P w=.ok u w:=by
 unfold JJ at h;split at h
 ·rename_i off ft hfa
  obtain⟨fs,fields,fl,hkk,hf,hk,hk2,hpos,hu,hfl,e1,e2⟩:=BP hT hfa;have hagg:(T.at t).isAgg=true:=by simp[TI.isAgg,hkk]
  split at h
  ·rename_i u y
   split at h
   ·rename_i u' hty
    split at h
    ·rename_i z hz
     have e:=iF hz;subst e;rw[gz]at hz;cases hz;simp only[bP]at hx;have hag:=hT.ty_agg hk hty;rw[hagg]at hag;obtain⟨cs,rfl,hd⟩:=(VD.agg hag).1 hx;obtain⟨a,z,l1,l2,l3,g1,g2,g3,g4,g5,g6,g7⟩:=MK hT fs 0 u (YF hT hk hkk hty) f off ft hf _ _ hd;refine⟨_,valOf (T.at ft).isAgg l2,h, ?_,fun w=> ?_⟩
     ·grind [bP,af0]
     ·have hl2:=eY.length _ _ _ g7;have hlen:off+(T.at ft).size<=cs.size:=by
       have:=congrArg List.length g5;simp at this;omega
      have hp:=KX (P:=P) hT (t:=fl.type) (by rw[e2];exact hk2) w cs fl.offset (by simp_all);simp only[Instr.field,Sem.run_bind,run_underlying hu,Result.andThen_ok,hfl,asAgg,Sem.run_pure,hp];simp_all
    ·cases h
   ·cases h
  ·rename_i l
   split at h
   ·rename_i cs' hcs
    obtain⟨q1,rfl⟩:=BK hcs;simp only[bP]at hx;obtain⟨vs,rfl,hv,h1⟩:=hx;have hlen:=bD.length _ _ hv;simp at hlen;refine⟨_,valOf (T.at ft).isAgg ((vs.toList.drop off).take (T.at ft).size),h,KL hT hk2 (bD.take _ _ _ (bD.drop _ _ _ hv)) (fun u hu=>h1 u (List.mem_of_mem_drop (aY hu))),fun w=> ?_⟩;have hp:=KX (P:=P) hT hk2 w vs off (by omega);simp_all [Instr.field,run_underlying,asAgg]
   ·cases h
  ·cases h
 ·cases h
theorem q_len (hT:TOk P T) (hok:c.Ok W0) {x:bK} {v:Value} {K:bK->Option R} (h:adK T c.hp t x K=some r) (hx:bP c x v) {ty:TypeId}:
  ∃z u,K z=some r/\bP c z u/\ ∀w,(Builtin.len_ #[t] ty #[v]).run P w=.ok u w:=by
 unfold adK at h;split at h
 ·rename_i s
  replace h:=gp h;obtain⟨h1,h⟩:=h;simp only[bP]at hx;obtain rfl:=hx.str_inv;have hu:=F8 hT h1;refine⟨_,_,h,by simp only[bP];exact VD.int_mk,fun w=> ?_⟩;simp only[Builtin.len_,List.getElem?_toArray,List.getElem?_cons_zero,Sem.run_bind,run_underlying hu,Result.andThen_ok,Sem.run_pure,goInt];congr 2
 ·rename_i e xs
  replace h:=gp h;obtain⟨h1,h⟩:=h;simp only[bP]at hx;obtain⟨a,cp,zs,rfl,h2,h3,h4⟩:=qU hx;obtain⟨et,hu,hk,hsz,hpos,_⟩:=lM hT h1;exact⟨_,_,h,by simp only[bP];exact VD.int_mk,fun w=>by simp[Builtin.len_,run_underlying hu,goInt,bC]⟩
 ·replace h:=gp h;obtain⟨h1,h⟩:=h;simp only[bP]at hx;subst hx;obtain⟨et,hu,hk,hsz,hpos,_⟩:=lM hT h1;exact⟨_,_,h,by simp only[bP];exact VD.int_mk,fun w=>by simp[Builtin.len_,run_underlying hu,goInt]⟩
 ·rename_i id ver vw
  split at h
  ·rename_i e u xs harr
   replace h:=dw h;obtain⟨h0,h⟩:=h;have h0:u=ver:=by simpa using h0
   subst h0;replace h:=gp h;obtain⟨h1,h⟩:=h;obtain⟨et,hu,hk,hsz,hpos,_⟩:=lM hT h1;simp only[bP]at hx;have hx1:=(hx.2.2 _ _ _ harr).2 rfl;obtain⟨_,e',zs,hown,hL,hty⟩:=hok.obj id _ harr;obtain⟨a,n,hv,hn⟩: ∃a n,(c.mu id).v=.slice a xs.length n/\xs.length<=n:=by
    rcases hown.2 with ⟨e1,e2⟩|⟨g,cap,cur,e1,_,_,e2,_⟩
    all_goals grind
   split at h
   ·simp only[iZ]at hx1;rw[hv]at hx1;subst hx1;exact⟨_,_,h,by simp only[bP];exact VD.int_mk,fun w=>by simp[Builtin.len_,run_underlying hu,goInt,bC]⟩
   ·rename_i lo hi
    simp only[iZ]at hx1;obtain⟨a',m,cp,hv',q1,q2,q3,hx1⟩:=hx1;subst hx1;refine⟨_,_,h,by simp only[bP];exact VD.int_mk,fun w=> ?_⟩;simp only[Builtin.len_,List.getElem?_toArray,List.getElem?_cons_zero,Sem.run_bind,run_underlying hu,Result.andThen_ok,Sem.run_pure,goInt]
    grind
  ·cases h
 ·cases h
theorem uk {k:IntKind}: ∀(l:List bK) (ns:List Int) (us:List Value),BG k l=some ns->bD c l us->us=ns.map (.int k)
 |[],ns,us,h,hv=>by
  grind [BG,bD]
 |v::l,ns,us,h,hv=>by
  cases us with
  |nil=>simp[bD]at hv
  |cons u us=>
   simp only[bD]at hv;cases v with
   |val t x=>
    cases t<;>simp only[BG,reduceCtorEq]at h
    rename_i k'
    split at h
    ·rename_i hk
     subst hk;split at h
     ·rename_i m hm
      cases h;have h1:=hv.1;simp only[bP]at h1;rw[h1.int_inv,uk l m us hm hv.2];rfl
     ·cases h
    ·cases h
   |_=>simp[BG]at h
theorem Va (w:World) (k:IntKind): ∀(ns:List Int) (a:Int),((ns.map (Value.int k)).foldlM Builtin.min2 (.int k a)).run P w=.ok (.int k (ns.foldl I5 a)) w
 |[],a=>rfl
 |n::ns,a=>by
  simp only[ak,List.foldlM_cons,List.foldl_cons,Sem.run_bind,Builtin.min2,Sem.run_pure,Result.andThen_ok];exact Va w k ns (I5 a n)
theorem U9 (w:World) (k:IntKind): ∀(ns:List Int) (a:Int),((ns.map (Value.int k)).foldlM Builtin.max2 (.int k a)).run P w=.ok (.int k (ns.foldl CJ a)) w
 |[],a=>rfl
 |n::ns,a=>by
  simp only[ak,List.foldlM_cons,List.foldl_cons,Sem.run_bind,Builtin.max2,Sem.run_pure,Result.andThen_ok];exact U9 w k ns (CJ a n)
theorem ad6 (off:Nat): ∀(us:List Value) (k:Nat) (zs:List Value),off+k+us.length<=zs.length->
  (us.zipIdx k).foldl (fun cs p=>Array.setIfInBounds cs (off+p.2) p.1) zs.toArray=(zs.take (off+k)++us++zs.drop (off+k+us.length)).toArray
 |[],k,zs,h=>by simp
 |u::us,k,zs,h=>by
  simp only[aF]at h;have ih:=ad6 off us (k+1) (zs.set (off+k) u) (by simp;omega);simp only[List.zipIdx_cons,List.foldl_cons];rw[show Array.setIfInBounds zs.toArray (off+k) u=(zs.set (off+k) u).toArray by simp,ih];congr 1;have h1:off+k<zs.length:=by omega
  rw[List.set_eq_take_append_cons_drop,if_pos h1];have t1: ∀(A B:List Value) (n m:Nat),A.length=n->(A++u::B).take (n+1)=A++[u]/\(A++u::B).drop (n+1+m)=B.drop m:=by
   intro A B n m hA;constructor
   ·grind
   ·rw[List.drop_append,az (by omega),hA,aO,show n+1+m-n=m+1 by omega];rfl
  obtain⟨a1,a2⟩:=t1 (zs.take (off+k)) (zs.drop (off+k+1)) (off+k) us.length (by simp;omega);rw[show off+(k+1)=off+k+1 by omega,a1,a2];simp;congr 1;omega
theorem JW (off:Nat) (us:Array Value) (zs:List Value) (h:off+us.size<=zs.length):
  us.zipIdx.foldl (fun cs p=>Array.setIfInBounds cs (off+p.2) p.1) zs.toArray=(zs.take off++us.toList++zs.drop (off+us.size)).toArray:=by
 rw[<-Array.foldl_toList,Array.toList_zipIdx];simp_all [ad6]
theorem adM (hT:TOk P T) {fs:List (Nat×TypeId)} {place:Nat->Option (Nat×Nat)} (hp: ∀i off ft,fs[i]? =some (off,ft)->(T.at ft).known=true->place i=some (off,(T.at ft).size)):
  ∀(parts:List (Nat×bK)) (us:List (Nat×Value)) (cs cs':List bK) (zs:List Value),JI T fs cs parts=some cs'->bD c cs zs->(∀u∈zs,u.oneCell'=true)->
   us.map (·.1)=parts.map (·.1)->bD c (parts.map (·.2)) (us.map (·.2))-> ∃zs',Instr.fill place zs.toArray us=some zs'.toArray/\bD c cs' zs'/\ ∀u∈zs',u.oneCell'=true
 |[],us,cs,cs',zs,h,hv,h1,hu,_=>by
  simp only[JI,Option.some.injEq]at h;subst h;cases us with
  |nil=>exact⟨zs,rfl,hv,h1⟩
  |cons=>simp at hu
 |(i,v)::parts,us,cs,cs',zs,h,hv,h1,hu,hvs=>by
  cases us with
  |nil=>simp at hu
  |cons u us=>
   obtain⟨i',u⟩:=u;simp only[ak,List.cons.injEq]at hu;obtain⟨rfl,hu⟩:=hu;simp only[ak,bD]at hvs;simp only[JI]at h;split at h
   ·rename_i off ft vs hf hcells
    replace h:=dw h;obtain⟨hk,h⟩:=h;simp only[af,beq_iff_eq]at hk;split at h
    ·rename_i cs2 hput
     have hpl:=hp _ _ _ hf hk.1;obtain⟨r1,r2⟩:=Me hcells hvs.1;have hl:=bD.length _ _ r1;have hlz:=bD.length _ _ hv;unfold putCells at hput;replace hput:=dw hput;obtain⟨hle,hput⟩:=hput;have hle:off+vs.length<=cs.length:=by simpa using hle
     cases hput;have hus:u.cells.size=vs.length:=by simpa using hl.symm
     have hz2:bD c (cs.take off++vs++cs.drop (off+vs.length)) (zs.take off++u.cells.toList++zs.drop (off+vs.length)):=
      bD.append _ _ _ _ (bD.append _ _ _ _ (bD.take _ _ _ hv) r1) (bD.drop _ _ _ hv)
     have ho: ∀x∈zs.take off++u.cells.toList++zs.drop (off+vs.length),x.oneCell'=true:=by
      grind
     obtain⟨zs',g1,g2,g3⟩:=adM hT hp parts us _ cs' _ h hz2 ho hu hvs.2;refine⟨zs', ?_,g2,g3⟩;rw[<-g1];simp only[Instr.fill,hpl];rw[if_neg (by grind)]
     grind [JW]
    ·cases h
   ·cases h
end
end
section
open Bool renaming and_eq_true → af, false_eq_true → ag, not_true → ay
open List renaming map_cons → ak, nil_append → aO
open Go.RowKit
section
variable {P:Program} {T:TT} {W0:World} {c:Cx} {R:Type} {r:R} {t:TypeId}
theorem bD.map_eval {fr:List bK} {a:Act} (h:bD c fr a.tmps.toList): ∀(xs:List Operand),bD c (xs.map (gV fr)) (xs.map a.eval)
 |[]=>by simp[bD]
 |x::xs=>by simp only[ak,bD];exact⟨dJ h x,bD.map_eval h xs⟩
theorem NT {w:World} {B:Nat} {e:TypeId} {size n:Nat} {v:Value} {zs:List Value} (h:w.ownsRow B e size v n zs): ∃a cp,v=.slice a n cp/\n<=cp/\(zs=[]\/ ∃g,a=some ⟨g,0,none⟩/\g<w.heap.size/\B<=g/\gX w g 0 zs):=by
 rcases h.2 with ⟨e1,e2⟩|⟨g,cap,cur,e1,e2,e3,e4,e5,e6,e7⟩
 ·refine⟨none,0,by rw[e1,e2],by omega,.inl ?_⟩;have:=h.1;simp_all
 ·refine⟨_,cap,e1,e4,.inr ⟨g,rfl,(Array.getElem?_eq_some_iff.1 e3).1,e2, ?_⟩⟩;have:=(gX.of_block_cells e3).sub 0 (n*size);simp_all
theorem rD {w:World} {B:Nat} {e:TypeId} {size n:Nat} {v:Value} {zs:List Value} (h:w.ownsRow B e size v n zs): ∃a cp,v=.slice a n cp/\n<=cp/\(zs=[]\/ ∃g,a=some ⟨g,0,none⟩/\g<w.heap.size/\gX w g 0 zs):=by
 grind [NT]
theorem Vj (hok:c.Ok W0) {x:bK} {e:Ty} {ys:List e.den} {u:Value} (h:x.as c.hp (.list e)=some ys) (hx:bP c x u):
  ∃a cp zs,u=.slice a ys.length cp/\gu (eY c.w c.free e) e.size ys zs/\(zs=[]\/ ∃b off,a=some ⟨b,off,none⟩/\b<c.w.heap.size/\ ¬c.bar b/\gX c.w b off zs):=by
 cases x with
 |val t' z=>
  simp only[bK.as]at h;have e:=iF h;subst e;rw[gz]at h;cases h;simp only[bP]at hx;obtain⟨a,n,zs,h1,h2,h3,h4⟩:=qU hx;exact⟨a,n,zs,h1,h3,h4.imp id fun⟨b,off,q1,q2,q3⟩=>⟨b,off,q1,q2.1,q2.2.2.2,q3⟩⟩
 |nils=>
  simp only[bK.as,Option.some.injEq]at h;subst h;simp only[bP]at hx;exact⟨none,0,[],hx,rfl,.inl rfl⟩
 |lst t' z b=>
  simp only[bK.as]at h;have e:=iF h;cases e;rw[gz]at h;cases h;simp only[bP]at hx;obtain⟨a,n,zs,h1,h2,h3,h4⟩:=qU hx.1;exact⟨a,n,zs,h1,h3,h4.imp id fun⟨b,off,q1,q2,q3⟩=>⟨b,off,q1,q2.1,q2.2.2.2,q3⟩⟩
 |emp=>
  simp only[bK.as,Option.some.injEq]at h;subst h;simp only[bP]at hx;obtain⟨a,rfl⟩:=hx;exact⟨a,0,[],rfl,rfl,.inl rfl⟩
 |slc id ver vw=>
  simp only[bK.as,BL]at h;split at h
  ·rename_i t' v xs harr
   replace h:=dw h;obtain⟨hv,h⟩:=h;have hv:v=ver:=by simpa using hv
   subst hv;split at h
   ·rename_i ys' hys
    have e:=iF hys;cases e;rw[gz]at hys;cases hys;cases h;simp only[bP]at hx;have hx1:=(hx.2.2 _ _ _ harr).2 rfl;obtain⟨_,e',zs,hown,hL,hty⟩:=hok.obj id _ harr;obtain⟨a,cp,hv,hn,hcell⟩:=NT hown;cases vw with
    |none=>
     simp only[iZ]at hx1;rw[hv]at hx1;exact⟨a,cp,zs,hx1,hL,hcell.imp (fun h=>h) fun⟨g,q1,q2,q4,q3⟩=>⟨g,0,q1,q2,fun hb=>(hok.bar _ hb).2.1 ⟨id,_,harr,by rw[dI.blk,hv,q1];rfl⟩,q3⟩⟩
    |some p=>
     obtain⟨lo,hi⟩:=p;simp only[iZ]at hx1;obtain⟨a',m,cp',hv',p1,p2,p3,hx1⟩:=hx1;rw[hv]at hv';cases hv';refine⟨(if cp=lo.toNat then a else a.map (·.add (lo.toNat*e.size))),cp-lo.toNat,(zs.take (hi.toNat*e.size)).drop (lo.toNat*e.size), ?_,gu.drop _ _ _ (gu.take _ _ _ hL), ?_⟩
     ·simp_all [adb,Ji]
     ·by_cases hcp:cp=lo.toNat
      ·grind
      ·rw[if_neg hcp];rcases hcell with h0|⟨g,q1,q2,q4,q3⟩
       ·left;rw[h0];simp
       ·right;refine⟨g,0+lo.toNat*e.size,by rw[q1];simp[jU],q2,fun hb=>(hok.bar _ hb).2.1 ⟨id,_,harr,by rw[dI.blk,hv,q1];rfl⟩, ?_⟩;rw[List.drop_take];exact q3.sub _ _
   ·cases h
  ·cases h
 |agg l=>simp[bK.as,Ty.isAgg]at h
 |_=>simp[bK.as]at h
theorem acs (hok:c.Ok W0) {x:bK} {e:Ty} {ys:List e.den} {u:Value} (h:x.as c.hp (.list e)=some ys) (hx:bP c x u):
  ∃a cp zs,u=.slice a ys.length cp/\gu (eY c.w c.free e) e.size ys zs/\(zs=[]\/ ∃b off,a=some ⟨b,off,none⟩/\b<c.w.heap.size/\gX c.w b off zs):=by
 grind [Vj]
theorem IR {k:IntKind} {w:World} {fr:Nat->Prop}: ∀(xs:List Int) (zs:List Value),gu (eY w fr (.int k)) 1 xs zs->zs=xs.map (.int k)
 |[],_,h=>by cases h;rfl
 |x::xs,_,⟨d,rest,e1,e2,e3,e4⟩=>by
  simp only[eY]at e3;subst e1;subst e3;rw[IR xs rest e4];rfl
theorem MP: ∀(ns:List Int) (acc:List UInt8),ns.foldl (fun r n=>r.push (UInt8.ofNat n.toNat)) (⟨acc.toArray⟩:ByteArray)=⟨(acc++ofBytes ns).toArray⟩
 |[],acc=>by simp[ofBytes]
 |n::ns,acc=>by
  rw[List.foldl_cons];have:(⟨acc.toArray⟩:ByteArray).push (UInt8.ofNat n.toNat)=⟨(acc++[UInt8.ofNat n.toNat]).toArray⟩:=by
   simp[ByteArray.push]
  rw[this,MP ns];simp[ofBytes]
theorem apa (hT:TOk P T) (hok:c.Ok W0) {s d:TypeId} {x:bK} {v:Value} {K:bK->Option R} (h:Ah T s d x c.hp K=some r) (hx:bP c x v):
  ∃z u,K z=some r/\bP c z u/\ ∀w',He c w'->(convert s d v).run P w'=.ok u w':=by
 unfold Ah at h;cases hk:((T.at s).known&&(T.at d).known)
 ·simp_all
 rw[hk]at h;simp only[ay,cond_false]at h;simp only[af]at hk;split at h
 ·rename_i k1 k2 k3 n h1 h2
  simp only[bP]at hx;obtain rfl:=hx.int_inv;have e1:=hT.int hk.1 h1;have e2:=hT.int hk.2 h2;exact⟨_,_,h,by simp only[bP];exact VD.int_mk,fun w' _=>by simp_all [convert,run_underlying,Conv.intToInt]⟩
 ·rename_i str h1 h2
  simp only[bP]at hx;obtain rfl:=hx.str_inv;have e1:=hT.str hk.1 h1;have e2:=hT.str hk.2 h2;exact⟨_,_,h,by simp only[bP];exact VD.str_mk,fun w' _=>by simp_all [convert,run_underlying]⟩
 ·rename_i e h1 h2
  split at h
  ·rename_i h3
   split at h
   ·rename_i xs hxs
    replace h:=gp h;obtain⟨hb,h⟩:=h;have hke:=hb;have e1:=hT.slice hk.1 h1;have e2:=hT.str hk.2 h2;have e3:=hT.int hke h3;obtain⟨a,cp,zs,rfl,hL,hsrc⟩:=acs hok hxs hx;refine⟨_,.string ⟨(ofBytes xs).toArray⟩,h,by simp only[bP];exact VD.str_mk,fun w' hw=> ?_⟩;have hz:=IR xs zs hL;cases hxe:xs with
    |nil=>
     subst hxe;rcases a with _|ad
     ·simp only[convert,run_underlying e1,run_underlying e2,run_underlying e3,Sem.run_bind,Result.andThen_ok,Conv.bytesToString,Sem.run_pure];rfl
     ·rw[run_convert_bytes_string w' s d e _ _ _ e1 e3 e2,run_bytesToString (P:=P) w' ad _ cp [] (by rfl)];rfl
    |cons x0 rest=>
     have hne:zs≠[]:=by rw[hz,hxe];simp
     obtain⟨b,off,rfl,hb2,hc⟩:=hsrc.resolve_left hne;have hc':=hw.cells hb2 hc;have hld:(loadCells ⟨b,off,none⟩ zs.length).run P w'=.ok zs.toArray w':=run_loadCells_list (P:=P) w' _ zs fun j v hj=>by
      obtain⟨hj1,hj2⟩:=List.getElem?_eq_some_iff.1 hj;rw[jU,hc' j hj1,hj2]
     have hzl:zs.length=xs.length:=by rw[hz];simp
     rw[<-hxe,run_convert_bytes_string w' s d e _ _ _ e1 e3 e2,run_bytesToString (P:=P) w' ⟨b,off,none⟩ xs.length cp xs (by simp_all)];have:=MP xs [];simp only[aO]at this;rw[<-this];rfl
   ·cases h
  ·cases h
 ·cases h
theorem Ib {α β:Type} (f:α->Sem β) (g:α->β) (w:World): ∀(l:List α),(∀x∈l,(f x).run P w=.ok (g x) w)->(l.mapM f).run P w=.ok (l.map g) w
 |[],_=>rfl
 |x::l,h=>by
  simp only[List.mapM_cons,Sem.run_bind,h x (by simp),Result.andThen_ok,Ib f g w l (fun y hy=>h y (by simp[hy])),Sem.run_pure,ak]
theorem acj {α β:Type} (f:α->Sem β) (g:α->β) (w:World) (l:Array α) (h: ∀x∈l.toList,(f x).run P w=.ok (g x) w):(l.mapM f).run P w=.ok (l.map g) w:=by
 rw[Array.mapM_eq_mapM_toList,Sem.run_map,Ib f g w l.toList h];simp only[Result.andThen_ok];congr 1
 grind
def YW (P:Program) (t:TypeId):Nat:=((P.info? t).map (·.size)).getD 0
theorem Ba (hT:TOk P T) (hok:c.Ok W0) {cl:Bool} {call:gq R} {o:Oper} {st:St} {a:Act} {K:bK->St->Option R} (hq:ik o.op=true) (hhp:c.hp=st.hp) (hfr:bD c st.fr a.tmps.toList)
  (h:dX T cl call o st K=some r): ∃z u,K z st=some r/\bP c z u/\ ∀w',He c w'->(execOp a.eval o).run P w'=.ok (.value u) w':=by
 have hval: ∀{s:Sem Value} {u:Value} {w':World},s.run P w'=.ok u w'->(do pure (Next.value (<-s)):Sem Next).run P w'=.ok (.value u) w':=fun hs=>by
  simp_all
 obtain⟨dst,op,ty,pos,after,guard⟩:=o;simp only at hq;cases op<;>simp only[ik,jK,ag]at hq
 case move x=>exact⟨_,_,h,dJ hfr x,fun w' _=>rfl⟩
 case assign x=>exact⟨_,_,h,dJ hfr x,fun w' _=>rfl⟩
 case pick x y z=>
  simp only[dX]at h;have hc:=dJ hfr x;split at h
  ·rename_i b hb
   rw[hb]at hc;simp only[bP]at hc;have hc':=hc.bool_inv;cases b
   ·exact⟨_,_,h,dJ hfr z,fun w' _=>by simp[execOp,hc',asBool]⟩
   ·exact⟨_,_,h,dJ hfr y,fun w' _=>by simp[execOp,hc',asBool]⟩
  ·cases h
 case build t parts=>
  simp only[dX]at h;cases hk:(T.at t).known
  ·simp_all
  rw[hk]at h;simp only[ay,cond_false]at h;split at h
  ·rename_i fs hkk
   split at h
   ·rename_i cs hcs
    obtain⟨fields,hu,hfs⟩:=hT.struct hk hkk;obtain⟨i,z,hi,hsz,hby,hz,hzero,hz1⟩:=hT.info hk;have hz0:bD c (T.at t).zero z.cells.toList:=by grind [uq]
    have hz1: ∀u∈z.cells.toList,u.oneCell'=true:=fun u hu=>List.all_eq_true.1 hz1 u hu;obtain⟨zs',g1,g2,g3⟩:=adM (c:=c) hT (place:=fun k=>(fields.map fun f=>(f.offset,YW P f.type))[k]?) (fun k off ft hk2 hk3=>by
      rw[<-hfs,List.getElem?_map]at hk2;cases hfl:fields.toList[k]? with
      |none=>simp_all
      |some fl=>
       rw[hfl]at hk2;simp only[Option.map_some,Option.some.injEq,Prod.mk.injEq]at hk2;have:fields[k]? =some fl:=by simpa using hfl
       obtain⟨i',z',hi',hs',_⟩:=hT.info hk3;simp_all [YW]) _ (parts.toList.map fun p=>(p.1,a.eval p.2)) _ _ _ hcs hz0 hz1 (by simp) (by
      simp only[List.map_map,Function.comp_def];have:=bD.map_eval (c:=c) hfr (parts.toList.map (·.2));simp_all [Function.comp_def])
    have hall:=(hT t hk).2.2.2.2.2.2.1;rw[hu]at hall;simp only[Option.map_some,Option.some.injEq]at hall;refine⟨_,.agg zs'.toArray,h, ?_,fun w' _=>hval ?_⟩
    ·have:=KL (c:=c) hT hk g2 g3;simp_all [TI.isAgg,valOf]
    ·have hm:=acj (P:=P) (fun f:Field=>do pure (f.offset,<-sizeOf f.type)) (fun f=>(f.offset,YW P f.type)) w' fields (fun f hf=>by
      have:=List.all_eq_true.1 hall f hf;cases hi2:P.info? f.type with
      |none=>simp_all
      |some i2=>simp[sizeOf,typeInfo,hi2,YW])
     have hzv:(zeroValue t).run P w'=.ok z w':=by simp[zeroValue,typeInfo,hi,hz]
     simp only[Instr.build,Sem.run_bind,hzv,Result.andThen_ok,run_underlying hu,hm];simp_all
   ·cases h
  ·cases h
 case load t x=>
  simp only[dX]at h;rw[<-hhp]at h;obtain⟨z,u,h1,h2,h3⟩:=avR (K:=fun v=>K v st) hT hok h (dJ hfr x);exact⟨z,u,h1,h2,fun w' hw=>hval (h3 w' hw)⟩
 case nilCheck x=>
  simp only[dX]at h;have hx:=dJ hfr x;split at h
  ·rename_i id off he
   rw[he]at hx;split at h
   ·rename_i bt cs hcs
    have hx':=hx;simp only[bP]at hx;rw[<-hhp]at hcs;have hv:=hx.2.2 _ _ hcs;exact⟨_,_,h,hx',fun w' _=>by simp[execOp,hv]⟩
   ·cases h
  ·rename_i y e he
   rw[he]at hx;have hx':=hx;simp only[bP]at hx;obtain⟨b,o,zs,hv,_⟩:=hx;exact⟨_,_,h,hx',fun w' _=>by simp[execOp,hv]⟩
  ·rename_i id ver i off he
   rw[he]at hx;split at h
   ·rename_i e u xs harr
    replace h:=dw h;obtain⟨h0,h⟩:=h;have h0:u=ver:=by simpa using h0
    subst h0;have hx':=hx;simp only[bP]at hx;rw[<-hhp]at harr;obtain⟨g,n,cp,_,hv⟩:=(hx.2.2 _ _ _ harr).2 rfl;exact⟨_,_,h,hx',fun w' _=>by simp[execOp,hv]⟩
   ·cases h
  ·cases h
 case binOp op t x y yt=>
  simp only[dX]at h;rw[<-hhp]at h;obtain⟨z,u,h1,h2,h3⟩:=avQ (P:=P) (ox:=x) (oy:=y) (K:=fun v=>K v st) hT hok h (dJ hfr x) (dJ hfr y);exact⟨z,u,h1,h2,fun w' hw=>hval (h3 w')⟩
 case unOp op t x=>
  simp only[dX]at h;obtain⟨z,u,h1,h2,h3⟩:=aI1 (P:=P) (K:=fun v=>K v st) h (dJ hfr x);exact⟨z,u,h1,h2,fun w' hw=>hval (h3 w')⟩
 case convert sT dT x=>
  simp only[dX]at h;rw[<-hhp]at h;obtain⟨z,u,h1,h2,h3⟩:=apa (P:=P) (K:=fun v=>K v st) hT hok h (dJ hfr x);exact⟨z,u,h1,h2,fun w' hw=>hval (h3 w' hw)⟩
 case slice t x lo hi mx=>
  simp only[dX]at h;rw[<-hhp]at h;obtain⟨z,u,h1,h2,h3⟩:=al0 (P:=P) (K:=fun v=>K v st) hT hok h (dJ hfr x) (lK.map hfr lo) (lK.map hfr hi) (lK.map hfr mx);exact⟨z,u,h1,h2,fun w' hw=>hval (h3 w')⟩
 case fieldAddr t x f=>
  simp only[dX]at h;rw[<-hhp]at h;obtain⟨z,u,h1,h2,h3⟩:=Py (P:=P) (K:=fun v=>K v st) hT h (dJ hfr x);exact⟨z,u,h1,h2,fun w' hw=>hval (h3 w')⟩
 case field t x f=>
  simp only[dX]at h;obtain⟨z,u,h1,h2,h3⟩:=alY (P:=P) (K:=fun v=>K v st) hT h (dJ hfr x);exact⟨z,u,h1,h2,fun w' hw=>hval (h3 w')⟩
 case indexAddr t x i=>
  simp only[dX]at h;rw[<-hhp]at h;obtain⟨z,u,h1,h2,h3⟩:=Pz (P:=P) (K:=fun v=>K v st) hT hok h (dJ hfr x) (dJ hfr i);exact⟨z,u,h1,h2,fun w' hw=>hval (h3 w')⟩
 case index t x i=>
  simp only[dX]at h;split at h
  ·rename_i s n hs hn
   replace h:=gp h;obtain⟨h1,h⟩:=h;have hx:=dJ hfr x;rw[hs]at hx;obtain⟨h2,h3⟩:=alZ (P:=P) hT hx (dJ hfr i) hn h1;exact⟨_,_,h,h2,fun w' hw=>hval (h3 w')⟩
  ·cases h
 case extract x n=>
  simp only[dX]at h;have hx:=dJ hfr x;split at h
  ·rename_i l hl
   rw[hl]at hx;split at h
   ·rename_i v hv
    simp only[bP]at hx;obtain⟨vs,he,hvs⟩:=hx;obtain⟨hn,hv⟩:=List.getElem?_eq_some_iff.1 hv;have hlen:=bD.length _ _ hvs;simp at hlen;have h1:=bD.get _ _ hvs n hn (by simp;omega);rw[hv]at h1;simp only[Array.getElem_toList]at h1;refine⟨_,_,h,h1,fun w' _=>hval ?_⟩;rw[he];have:vs[n]? =some vs[n]:=Array.getElem?_eq_getElem (by omega);simp[Instr.extract,this]
   ·cases h
  ·cases h
 case call cc=>
  obtain⟨callee,args,argTypes⟩:=cc;simp only at hq;have hargs:=bD.map_eval (c:=c) hfr args.toList;split at hq
  all_goals try (cases hq;done)
  ·
   simp only[dX,jV]at h;split at h<;>try (cases h;done)
   ·rename_i x hb hx
    split at h<;>try (cases h;done)
    rename_i t ht
    rw[<-hhp]at h;obtain⟨x0,hx0⟩: ∃x0,args= #[x0]:=by
     obtain⟨l⟩:=args
     match l,hx with
     |[x0],_=>exact⟨x0,rfl⟩
    subst hx0;obtain⟨t0⟩:=argTypes;simp only at ht;subst ht;simp only[ak,List.map_nil,List.cons.injEq,and_true]at hx;subst hx;obtain⟨z,u,h1,h2,h3⟩:=q_len (P:=P) (K:=fun v=>K v st) hT hok h (dJ hfr x0) (ty:=ty)
    grind [execOp,resolve,invoke,builtin]
   all_goals simp_all
  ·
   simp only[dX,jV]at h;split at h<;>try (cases h;done)
   all_goals try (rename_i hb _;cases hb;done)
   rename_i k n l hb hx
   split at h<;>try (cases h;done)
   rename_i ns hns
   rw[hx]at hargs;obtain⟨al⟩:=args;cases al with
   |nil=>simp_all
   |cons x0 al=>
    simp only[ak,bD]at hargs;have h0:=hargs.1;simp only[bP]at h0;have h1:=h0.int_inv;have h2:=uk _ _ _ hns hargs.2;exact⟨_,_,h,by simp only[bP];exact VD.int_mk,fun w' hw=>by simp_all [execOp,resolve,invoke,builtin,Builtin.min_,Va]⟩
  ·
   simp only[dX,jV]at h;split at h<;>try (cases h;done)
   all_goals try (rename_i hb _;cases hb;done)
   rename_i k n l hb hx
   split at h<;>try (cases h;done)
   rename_i ns hns
   rw[hx]at hargs;obtain⟨al⟩:=args;cases al with
   |nil=>simp_all
   |cons x0 al=>
    simp only[ak,bD]at hargs;have h0:=hargs.1;simp only[bP]at h0;have h1:=h0.int_inv;have h2:=uk _ _ _ hns hargs.2;exact⟨_,_,h,by simp only[bP];exact VD.int_mk,fun w' hw=>by simp_all [execOp,resolve,invoke,builtin,Builtin.max_,U9]⟩
end
end
section
open List renaming map_cons → ak
open Nat renaming le_refl → ae, le_trans → aG
open Go.RowKit
structure DF (W0:World) (c:Cx) (st:St) (c':Cx) (st':St):Prop where
 hp:c'.hp=st'.hp
 nxt:c'.nxt=st'.nxt
 fr:st'.fr=st.fr
 stk:st'.stk=st.stk
 ok:c'.Ok W0
 le:c.Le c'
section
variable {P:Program} {T:TT} {W0:World} {c:Cx} {R:Type} {r:R} {t:TypeId}
theorem DF.refl (hok:c.Ok W0) {st:St} (h1:c.hp=st.hp) (h2:c.nxt=st.nxt):DF W0 c st c st:=⟨h1,h2,rfl,rfl,hok,Cx.Le.refl c⟩
theorem DF.trans {c' c'':Cx} {st st' st'':St} (h:DF W0 c st c' st') (k:DF W0 c' st' c'' st''):DF W0 c st c'' st'':=
 ⟨k.hp,k.nxt,k.fr.trans h.fr,k.stk.trans h.stk,k.ok,h.le.trans k.le⟩
theorem Oz {cl:Bool} {dst:Option Nat} {o:dI} {st:St} {K:Nat->St->Option R} (h:alloc cl dst o st K=some r):
  ∃n',dK st.hp (ED cl st dst)=none/\st.nxt<=ED cl st dst/\st.nxt<=n'/\K (ED cl st dst) {st with hp:=(ED cl st dst,o)::st.hp,nxt:=n'}=some r:=by
 unfold alloc at h;split at h
 ·cases h
 ·rename_i h0
  replace h:=dw h;obtain⟨h1,h⟩:=h;have h1:st.nxt<=ED cl st dst:=by simpa using h1
  grind
theorem jb {cl:Bool} {dst:Option Nat} {o:dI} {st:St} {K:Nat->St->Option R} (h:alloc cl dst o st K=some r):
  ∃id n',dK st.hp id=none/\st.nxt<=id/\st.nxt<=n'/\K id {st with hp:=(id,o)::st.hp,nxt:=n'}=some r:=
 let⟨n',h1,h2,h3,h4⟩:=Oz h
 ⟨_,n',h1,h2,h3,h4⟩
theorem A7 {st:St} {id:Nat} (h1:c.hp=st.hp) (h2:c.nxt=st.nxt) (h3:dK st.hp id=none) (h4:st.nxt<=id): ¬c.known id:=by
 rintro (⟨o,ho⟩|h)
 all_goals grind
theorem nM (w:World) (o:Obj):Below w.heap.size w (w.alloc o):=(Below.refl _ _).alloc (ae _) o
theorem KJ (hok:c.Ok W0) {st:St} (h1:c.hp=st.hp) (h2:c.nxt=st.nxt) {id n':Nat} (h3:dK st.hp id=none) (h4:st.nxt<=id) (h5:st.nxt<=n') {cs:List bK} {vs:Array Value} (e:TypeId)
  (hv: ∀c',c.Le c'->dK c'.hp id=some (.box e cs)->c'.known id->(c'.mu id).blk=c.w.heap.size->bD c' cs vs.toList) (h6: ∀u∈vs.toList,u.oneCell'=true):
  ∃c',DF W0 c st c' {st with hp:=(id,.box e cs)::st.hp,nxt:=n'}/\c'.w=c.w.alloc (.cells vs e)/\bP c' (.ptr id 0) (.pointer (some ⟨c.w.heap.size,0,none⟩)):=by
 have hk:=A7 h1 h2 h3 h4;have hb:=nM c.w (.cells vs e);have hl: ∀b,dI.blk (.box e cs) ⟨c.w.heap.size,undef⟩=some b->c.w.heap.size<=b:=fun b hb=>by
  simp_all [dI.blk]
 have hle:=Cx.Le.push (o:=.box e cs) (l:=⟨c.w.heap.size,undef⟩) (nxt:=n') (w:=c.w.alloc (.cells vs e)) hk (by omega) hb.size hb.block hl;have hget':dK (c.push id (.box e cs) ⟨c.w.heap.size,undef⟩ n' (c.w.alloc (.cells vs e))).hp id=some (.box e cs):=by simp[Cx.push,dY]
 have ho:(c.push id (.box e cs) ⟨c.w.heap.size,undef⟩ n' (c.w.alloc (.cells vs e))).ORel W0.heap.size id (.box e cs):=by
  refine⟨by simp[Cx.push,upd_same];exact hok.size,vs, ?_,hv _ hle hget' (.inl ⟨_,hget'⟩) (by simp[Cx.push,upd_same]),h6⟩;simp only[Cx.push,upd_same];exact heap_alloc_new c.w _
 refine⟨_,⟨?_,rfl,rfl,rfl,hok.push hk (by omega) hb hl ho,hle⟩,rfl, ?_⟩
 ·simp[Cx.push,h1]
 ·simp only[bP];refine⟨rfl,.inl ⟨.box e cs,by assumption⟩,fun t' cs' _=>by simp[Cx.push,upd_same]⟩
theorem Z4 (hok:c.Ok W0) {st:St} (h1:c.hp=st.hp) (h2:c.nxt=st.nxt) {id n':Nat} (h3:dK st.hp id=none) (h4:st.nxt<=id) (h5:st.nxt<=n') {cs:List bK} {vs:Array Value} (hv:bD c cs vs.toList)
  (h6: ∀u∈vs.toList,u.oneCell'=true) (e:TypeId):
  ∃c',DF W0 c st c' {st with hp:=(id,.box e cs)::st.hp,nxt:=n'}/\c'.w=c.w.alloc (.cells vs e)/\bP c' (.ptr id 0) (.pointer (some ⟨c.w.heap.size,0,none⟩)):=
 KJ hok h1 h2 h3 h4 h5 e (fun c' hle _ _ _=>bD.le hle _ _ hv) h6
theorem qX (hok:c.Ok W0) {st:St} (h1:c.hp=st.hp) (h2:c.nxt=st.nxt) {id n':Nat} (h3:dK st.hp id=none) (h4:st.nxt<=id) (h5:st.nxt<=n') {y:Ty} (hpos:0<y.size) {xs:List y.den} {v:Value} {w:World}
  (hw:Below c.w.heap.size c.w w) (e:TypeId) (zs:List Value) (hown:w.ownsRow c.w.heap.size e y.size v xs.length zs) (hL:gu (eY c.w c.free y) y.size xs zs) (hone:v.oneCell'=true) (hty:y=.int .u8->e=oU):
  ∃c',DF W0 c st c' {st with hp:=(id,.arr y 0 xs)::st.hp,nxt:=n'}/\c'.w=w/\bP c' (.slc id 0 none) v:=by
 have hk:=A7 h1 h2 h3 h4;have hl: ∀b,dI.blk (.arr y 0 xs) ⟨0,v⟩=some b->c.w.heap.size<=b:=fun b hb=>(World.ownsRow.lt hown b hb).1;have hle:=Cx.Le.push (o:=.arr y 0 xs) (l:=⟨0,v⟩) (nxt:=n') (w:=w) hk (by omega) hw.size hw.block hl;have hown':w.ownsRow W0.heap.size e y.size v xs.length zs:=by
  refine⟨hown.1, ?_⟩;rcases hown.2 with h|⟨g,cap,cur,e1,e2,e3⟩
  ·exact .inl h
  ·exact .inr ⟨g,cap,cur,e1,aG hok.size e2,e3⟩
 have ho:(c.push id (.arr y 0 xs) ⟨0,v⟩ n' w).ORel W0.heap.size id (.arr y 0 xs):=by
  refine⟨hpos,e,zs, ?_,gu.mono (eY.mono hle.free y) _ _ hL,hty⟩;simp_all [Cx.push,upd_same]
 refine⟨_,⟨?_,rfl,rfl,rfl,hok.push hk (by omega) hw hl ho,hle⟩,rfl, ?_⟩
 ·simp[Cx.push,h1]
 ·simp only[bP];refine⟨hone,.inl ⟨.arr y 0 xs,by simp[Cx.push,dY]⟩,fun t u xs' h=> ?_⟩;simp_all [Cx.push,iZ,upd_same]
def Iq (P:Program) (W0:World) (c:Cx) (st:St) (o:Oper) (a:Act) (K:bK->St->Option R) (r:R):Prop:=
 ∃z u c' st',K z st'=some r/\DF W0 c st c' st'/\bP c' z u/\((execOp a.eval o).run P c.w=.ok (.value u) c'.w\/((execOp a.eval o).run P c.w=.ok .skip c'.w/\u=undef))
theorem qV {st:St} {o:Oper} {a:Act} {K:bK->St->Option R} {s:Sem Value} {z:bK} {u:Value} {c':Cx} {st':St} (hs:execOp a.eval o=(do pure (Next.value (<-s)))) (h1:K z st'=some r) (h2:DF W0 c st c' st') (h3:bP c' z u)
  (h4:s.run P c.w=.ok u c'.w):Iq P W0 c st o a K r:=⟨z,u,c',st',h1,h2,h3,.inl (by simp_all)⟩
theorem azG (hT:TOk P T) (hok:c.Ok W0) {cl:Bool} {call:gq R} {o:Oper} {st:St} {a:Act} {K:bK->St->Option R} (hhp:c.hp=st.hp) (hnx:c.nxt=st.nxt) (ho:o.op=.alloc t)
  (h:dX T cl call o st K=some r):Iq P W0 c st o a K r:=by
 obtain⟨dst,op,ty,pos,after,guard⟩:=o;simp only at ho;subst ho;simp only[dX]at h;replace h:=dw h;obtain⟨hk,h⟩:=h;obtain⟨i,z,hi,hsz,hby,hz,hzero,hz1⟩:=hT.info hk;have hz1: ∀u∈z.cells.toList,u.oneCell'=true:=fun u hu=>List.all_eq_true.1 hz1 u hu;have hrun:(Instr.alloc t true (.tuple #[])).run P c.w=.ok (.pointer (some ⟨c.w.heap.size,0,none⟩)) (c.w.alloc (.cells z.cells t)):=by
  simp[Instr.alloc,zeroValue,typeInfo,hi,hz,newVar,newRow]
 have plain:(alloc cl dst (.box t (T.at t).zero) st fun id st=>K (.ptr id 0) st)=some r->Iq P W0 c st ⟨dst,.alloc t,ty,pos,after,guard⟩ a K r:=fun h=>by
  obtain⟨id,n',e1,e2,e3,e4⟩:=jb h;obtain⟨c',d1,d2,d3⟩:=Z4 hok hhp hnx e1 e2 e3 (cs:=(T.at t).zero) (vs:=z.cells) (by grind [uq]) hz1 t;exact qV rfl e4 d1 d3 (by rw[d2];exact hrun)
 split at h
 ·rename_i et hkk hzz
  split at h
  ·rename_i y hy
   replace h:=dw h;obtain⟨hpos,h⟩:=h;have hpos:0<y.size:=by simpa [Qa] using hpos
   obtain⟨i1,n1,e1,e2,e3,e4⟩:=jb h;have hzc:z.cells.toList=[.slice none 0 0]:=by
    rw[hzz]at hzero
    match hq:z.cells.toList,hzero with
    |[v],hv=>
     simp only[ak,List.map_nil,List.cons.injEq,and_true]at hv;unfold wZ at hv
     grind
    |[],hv=>simp at hv
    |_::_::_,hv=>simp at hv
   obtain⟨c1,d1,d2,d3⟩:=qX hok hhp hnx e1 e2 e3 hpos (xs:=[]) (Below.refl _ _) (if y=.int .u8 then oU else et) [] (World.ownsRow_nil _ _ _ _) (by simp[gu]) (v:=.slice none 0 0) rfl (fun h=>by simp[h]);obtain⟨id,n',f1,f2,f3,f4⟩:=jb e4;obtain⟨c2,g1,g2,g3⟩:=Z4 d1.ok d1.hp d1.nxt f1 f2 f3 (cs:=[.slc i1 0 none]) (vs:=z.cells) (by simp_all [bD]) hz1 t;rw[d2]at g3;refine qV rfl f4 (d1.trans g1) g3 ?_;simp_all
  ·exact plain h
 ·rename_i fs hkk hzz
  rw[cond_eq_ite]at h;split at h
  ·obtain⟨i1,n1,e1,e2,e3,e4⟩:=jb h;have hzc:z.cells.toList=[.pointer none,.slice none 0 0]:=by
    rw[hzz]at hzero
    match hq:z.cells.toList,hzero with
    |[v,v'],hv=>
     simp only[ak,List.map_nil,List.cons.injEq,and_true]at hv;obtain⟨hv1,hv2⟩:=hv;have q1:v=.pointer none:=by
      unfold wZ at hv1
      grind
     have q2:v'=.slice none 0 0:=by
      unfold wZ at hv2
      grind
     rw[q1,q2]
    |[],hv=>simp at hv
    |[_],hv=>simp at hv
    |_::_::_::_,hv=>simp at hv
   obtain⟨c1,d1,d2,d3⟩:=qX hok hhp hnx e1 e2 e3 (y:=.int .u8) (by simp[Ty.size]) (xs:=[]) (Below.refl _ _) oU [] (World.ownsRow_nil _ _ _ _) (by simp[gu]) (v:=.slice none 0 0) rfl (fun _=>rfl);obtain⟨n',f1,f2,f3,f4⟩:=Oz e4;obtain⟨c2,g1,g2,g3⟩:=KJ d1.ok d1.hp d1.nxt f1 f2 f3 (cs:=[.slf _,.slc i1 0 none]) (vs:=z.cells) t (fun c' hle hg hkn hblk=>by
    rw[hzc];simp only[bD,bP];refine⟨⟨rfl,hkn,fun _ _ _=>.inl trivial⟩, ?_,trivial⟩;have:=bP.le hle _ _ d3
    assumption) hz1
   rw[d2]at g3;refine qV rfl f4 (d1.trans g1) g3 ?_;simp_all
  ·exact plain h
 ·exact plain h
theorem aIj (hT:TOk P T) (hok:c.Ok W0) {cl:Bool} {call:gq R} {o:Oper} {st:St} {a:Act} {K:bK->St->Option R} {x:Operand} (hhp:c.hp=st.hp) (hnx:c.nxt=st.nxt) (hfr:bD c st.fr a.tmps.toList) (ho:o.op=.box t x)
  (h:dX T cl call o st K=some r):Iq P W0 c st o a K r:=by
 obtain⟨dst,op,ty,pos,after,guard⟩:=o;simp only at ho;subst ho;simp only[dX]at h;split at h
 ·rename_i vs hvs
  replace h:=dw h;obtain⟨hk,h⟩:=h;obtain⟨id,n',e1,e2,e3,e4⟩:=jb h;obtain⟨r1,r2⟩:=Me hvs (dJ hfr x);obtain⟨c',d1,d2,d3⟩:=Z4 hok hhp hnx e1 e2 e3 r1 r2 t;refine qV rfl e4 d1 d3 ?_;rw[d2];rfl
 ·cases h
theorem aDD {hp:gI} {y:Ty} {v:bK} {x:y.den} (h:v.as [] y=some x) {u:Value} (hv:bP c v u):eY c.w c.free y x u.cells.toList:=by
 cases v with
 |val t' z=>
  simp only[bK.as]at h;have e:=iF h;subst e;rw[gz]at h;cases h;simp only[bP]at hv;exact hv.cells
 |nils=>
  simp only[bP]at hv;subst hv;cases y<;>simp only[bK.as,reduceCtorEq]at h;cases h;exact⟨none,0,[],rfl,by simp,rfl,.inl rfl⟩
 |lst t' z b=>
  simp only[bK.as]at h;have e:=iF h;subst e;rw[gz]at h;cases h;simp only[bP]at hv;exact hv.1.cells
 |emp=>
  simp only[bP]at hv;obtain⟨a,rfl⟩:=hv;cases y<;>simp only[bK.as,reduceCtorEq]at h;cases h;exact⟨a,0,[],rfl,by simp,rfl,.inl rfl⟩
 |slc id ver vw=>cases y<;>simp_all [bK.as,BL,dK]
 |agg l=>
  simp only[bK.as]at h;replace h:=dw h;simp only[bP]at hv;obtain⟨vs,rfl,h2,_⟩:=hv;exact oG h.2 h2
 |_=>simp[bK.as]at h
theorem gu.replicate {α:Type} {Q:α->List Value->Prop} {size:Nat} {x:α} {d:List Value} (hd:d.length=size) (hx:Q x d): ∀n,gu Q size (List.replicate n x) (List.replicate n d).flatten
 |0=>by simp[gu]
 |n+1=>⟨d,(List.replicate n d).flatten,by rfl,hd,hx,gu.replicate hd hx n⟩
theorem Ey (d:Array Value): ∀n,(madeCells d (n*d.size)).toList=(List.replicate n d.toList).flatten:=by
 intro n;by_cases h0:d.size=0
 ·simp_all [madeCells]
 apply List.ext_getElem?;intro j;have hlen:(List.replicate n d.toList).flatten.length=n*d.size:=by simp
 by_cases hj:j<n*d.size
 ·have key: ∀n j,j<n*d.size->(List.replicate n d.toList).flatten[j]? =d.toList[j %d.size]? :=by
   intro n
   induction n with
   |zero=>omega
   |succ n ih=>
    intro j hj;rw[List.replicate_succ,List.flatten_cons]
    grind [Nat.mod_eq_of_lt,List.getElem?_append_right,Nat.mod_eq_sub_mod]
  grind [madeCells]
 simp_all [madeCells]
theorem XY {e:Ty} (place:Nat->Option (Nat×Nat)) (hpl: ∀i,place i=some (i*e.size,e.size)): ∀(parts:List (Nat×bK)) (us:List (Nat×Value)) (xs xs':List e.den) (zs:List Value),JK e xs parts=some xs'->gu (eY c.w c.free e) e.size xs zs->
   us.map (·.1)=parts.map (·.1)->bD c (parts.map (·.2)) (us.map (·.2))-> ∃zs',Instr.fill place zs.toArray us=some zs'.toArray/\gu (eY c.w c.free e) e.size xs' zs'/\xs'.length=xs.length
 |[],us,xs,xs',zs,h,hL,hu,_=>by
  simp only[JK,Option.some.injEq]at h;subst h;cases us with
  |nil=>exact⟨zs,rfl,hL,rfl⟩
  |cons=>simp at hu
 |(i,v)::parts,us,xs,xs',zs,h,hL,hu,hvs=>by
  cases us with
  |nil=>simp at hu
  |cons u us=>
   obtain⟨i',u⟩:=u;simp only[ak,List.cons.injEq]at hu;obtain⟨rfl,hu⟩:=hu;simp only[ak,bD]at hvs;simp only[JK]at h;split at h
   ·rename_i x hx
    replace h:=dw h;obtain⟨hi,h⟩:=h;have hi:i'<xs.length:=by simpa [Qa] using hi
    have hd:=aDD (hp:=[]) hx hvs.1;have hdl:=eY.length _ _ _ hd;obtain⟨c0,c1,c2,l1,l2,c3,c4⟩:=gu.at_ i' xs zs hi hL;subst c3;have hL2:=gu.set x u.cells.toList hdl hd i' xs l1 c0 l2 hi hL c4 c1;obtain⟨zs',g1,g2,g3⟩:=XY place hpl parts us _ xs' _ h hL2 hu hvs.2;refine⟨zs', ?_,g2,by rw[g3];simp⟩;rw[<-g1];simp only[Instr.fill,hpl];have hus:u.cells.size=e.size:=by simpa using hdl
    rw[if_neg (by simp_all)];congr 1;have:=JW (i'*e.size) u.cells (l1++c0++l2) (by simp;omega)
    grind
   ·cases h
end
end
section
open Bool renaming and_eq_true → af
open List renaming take_of_length_le → bg
open Nat renaming le_refl → ae, le_mul_of_pos_right → bn
open Go.RowKit
section
variable {P:Program} {T:TT} {W0:World} {c:Cx} {R:Type} {r:R} {t:TypeId}
theorem qp (hT:TOk P T) {n:Nat} {et:TypeId} (hkk:(T.at t).k=.slice et) (h:T.rowOf t n=true):P.underlying t=some (.slice et)/\(T.at et).known=true/\(T.at et).size=n/\0<n/\0<(T.at et).bytes:=by
 grind [lM]
theorem YI (hT:TOk P T) {et:TypeId} (hk:(T.at et).known=true) {e:Ty} {d:e.den} (hd:H6 e (T.at et).zero=some d):
  ∃i z,P.info? et=some i/\i.zero=some z/\i.size=(T.at et).size/\i.bytes=(T.at et).bytes/\eY c.w c.free e d z.cells.toList:=by
 obtain⟨i,z,hi,hsz,hby,hz,hzero,hz1⟩:=hT.info hk
 grind [oG,uq]
theorem afi (w:World) (zs:List Value) (e:TypeId) (size n:Nat) (hl:zs.length=n*size) (hn:n<=maxLen):
  (w.alloc (.cells zs.toArray e)).ownsRow w.heap.size e size (.slice (some ⟨w.heap.size,0,none⟩) n n) n zs:=
 ⟨hl,.inr ⟨w.heap.size,n,zs.toArray,rfl,ae _,heap_alloc_new w _,ae _,hn,by simpa using hl,by simp[<-hl]⟩⟩
theorem ZQ (hT:TOk P T) (hok:c.Ok W0) {cl:Bool} {call:gq R} {o:Oper} {st:St} {a:Act} {K:bK->St->Option R} {n:Nat} {parts:Array (Nat×Operand)} (hhp:c.hp=st.hp) (hnx:c.nxt=st.nxt) (hfr:bD c st.fr a.tmps.toList)
  (ho:o.op=.buildSlice t n parts) (h:dX T cl call o st K=some r):Iq P W0 c st o a K r:=by
 obtain⟨dst,op,ty,pos,after,guard⟩:=o;simp only at ho;subst ho;simp only[dX]at h;split at h
 ·rename_i et hkk
  split at h
  ·rename_i e he
   split at h
   ·rename_i d hd
    replace h:=dw h;obtain⟨hrow,h⟩:=h;simp only[af,leN,decide_eq_true_eq]at hrow;obtain⟨hu,hk,hsz,hpos,_⟩:=qp hT hkk hrow.1;split at h
    ·rename_i xs hxs
     obtain⟨id,n',e1,e2,e3,e4⟩:=jb h;obtain⟨i,z,hi,hz,his,_,hzd⟩:=YI (c:=c) hT hk hd;have hzl:=eY.length _ _ _ hzd;have hzs:z.cells.size=e.size:=by simpa using hzl
     have hL0:=gu.replicate (Q:=eY c.w c.free e) hzl hzd n;obtain⟨zs',g1,g2,g3⟩:=XY (c:=c) (fun i=>some (i*e.size,e.size)) (fun _=>rfl) _ (parts.toList.map fun p=>(p.1,a.eval p.2)) _ _ _ hxs hL0 (by simp) (by
      simp only[List.map_map,Function.comp_def];have:=bD.map_eval (c:=c) hfr (parts.toList.map (·.2));simp_all [Function.comp_def])
     have hxl:xs.length=n:=by rw[g3];simp
     have hzl':=gu.length _ _ g2;rw[hxl]at hzl';have hn1:n<=n*e.size:=bn n hpos;have hown:=afi c.w zs' et e.size n hzl' (by simp only[maxLen];omega);rw[<-hxl]at hown;obtain⟨c',d1,d2,d3⟩:=qX hok hhp hnx e1 e2 e3 hpos (nM c.w (.cells zs'.toArray et)) et zs' hown g2 rfl (fun h=>hT.byte hk (by rw[he,h]));refine qV rfl e4 d1 d3 ?_;rw[d2];have hsize:(sizeOf et).run P c.w=.ok e.size c.w:=by rw[hT.sizeOf hk,hsz]
     have hzv:(zeroValue et).run P c.w=.ok z c.w:=by simp[zeroValue,typeInfo,hi,hz]
     have hsmall:n*e.size<=2^24:=by omega
     have hfill:Instr.fill (fun i=>some (i*e.size,e.size)) ((Array.range (n*e.size)).map (z.cells[· %z.cells.size]!)) (Array.map (fun p=>(p.1,a.eval p.2)) parts).toList=some zs'.toArray:=by
      rw[<-g1];have:=Ey z.cells n;rw[hzs]at this;have h3:(Array.range (n*e.size)).map (z.cells[· %z.cells.size]!)=(List.replicate n z.cells.toList).flatten.toArray:=by
       apply Array.ext';rw[<-this];rfl
      rw[h3];simp
     by_cases h0:n*e.size=0
     ·have hn0:n=0:=by
       omega
      subst hn0;simp only[Instr.buildSlice,Sem.run_bind,run_underlying hu,Result.andThen_ok,hsize,Sem.run_ite,Nat.zero_mul,if_true,Sem.run_pure];simp only[Nat.zero_mul]at hfill;rw[if_neg (by omega)];have hfill':Instr.fill (fun i=>some (i*e.size,e.size)) ((Array.range 0).map ((#[]:Array Value)[· %(#[]:Array Value).size]!)) (Array.map (fun p=>(p.1,a.eval p.2)) parts).toList=some zs'.toArray:=by
       grind
      simp_all [newRow]
     ·simp only[Instr.buildSlice,Sem.run_bind,run_underlying hu,Result.andThen_ok,hsize,Sem.run_ite];simp_all [newRow]
    ·cases h
   ·cases h
  ·cases h
 ·cases h
theorem aex (hT:TOk P T) (hok:c.Ok W0) {cl:Bool} {call:gq R} {o:Oper} {st:St} {a:Act} {K:bK->St->Option R} {l cp:Operand} (hhp:c.hp=st.hp) (hnx:c.nxt=st.nxt) (hfr:bD c st.fr a.tmps.toList)
  (ho:o.op=.makeSlice t l cp) (h:dX T cl call o st K=some r):Iq P W0 c st o a K r:=by
 obtain⟨dst,op,ty,pos,after,guard⟩:=o;simp only at ho;subst ho;simp only[dX]at h;split at h
 ·rename_i et hkk
  split at h
  ·rename_i e ln cn he hl hc
   split at h
   ·rename_i d hd
    replace h:=gp h;obtain⟨hb,h⟩:=h;simp only[af,decide_eq_true_eq]at hb;obtain⟨hrow,b1,b2,b3⟩:=hb;obtain⟨hu,hk,hsz,hpos,hbp⟩:=qp hT hkk hrow;obtain⟨id,n',e1,e2,e3,e4⟩:=jb h;obtain⟨i,z,hi,hz,his,hib,hzd⟩:=YI (c:=c) hT hk hd;have hzl:=eY.length _ _ _ hzd;have hzs:z.cells.size=e.size:=by simpa using hzl
    have hL0:=gu.replicate (Q:=eY c.w c.free e) hzl hzd ln.toNat;obtain⟨k,r1⟩:=rX hl (dJ hfr l);obtain⟨k',r2⟩:=rX hc (dJ hfr cp);have hcn:cn.toNat<=cn.toNat*(T.at et).bytes:=bn _ hbp;have hcl:cn.toNat<=140737488355328:=by grind [lC]
    have hcap:cn<=9223372036854775807:=by omega
    have hcb:(i.bytes:Int)*cn<=281474976710656:=by
     grind [lC]
    have hrun:=run_make (P:=P) c.w t et i z hu hi hz k k' ln cn b1 b2 hcb hcap;have hmade:=Ey z.cells cn.toNat;rw[hzs]at hmade;have hflen:((List.replicate cn.toNat z.cells.toList).flatten).length=cn.toNat*e.size:=by simp[hzs]
    have hown:(c.w.alloc (.cells (madeCells z.cells (cn.toNat*i.size)) et)).ownsRow c.w.heap.size et e.size (.slice (some ⟨c.w.heap.size,0,none⟩) ln.toNat cn.toNat) (List.replicate ln.toNat d).length (List.replicate ln.toNat z.cells.toList).flatten:=by
     refine⟨by simp[hzs],.inr ⟨c.w.heap.size,cn.toNat,madeCells z.cells (cn.toNat*i.size),by simp,ae _,heap_alloc_new _ _,by simp;omega,by simp only[maxLen];omega, ?_, ?_⟩⟩
     ·grind
     ·rw[his,hsz,hmade];have:cn.toNat=ln.toNat+(cn.toNat-ln.toNat):=by omega
      rw[this,<-List.replicate_append_replicate,List.flatten_append];rw[List.take_append];simp[hzs];rw[bg (by simp[hzs])]
    obtain⟨c',d1,d2,d3⟩:=qX hok hhp hnx e1 e2 e3 hpos (nM c.w _) et _ hown hL0 rfl (fun h=>hT.byte hk (by rw[he,h]));refine qV rfl e4 d1 d3 ?_;simp_all
   ·cases h
  ·cases h
 ·cases h
end
end
section
open List renaming length_append → ai, nil_append → aO, eq_nil_of_length_eq_zero → bi
open Nat renaming le_refl → ae
open Go.RowKit
section
variable {P:Program} {T:TT} {W0:World} {c:Cx} {R:Type} {r:R} {t:TypeId}
theorem aaj {w:World} {B:Nat} {e:TypeId} {size n cap g:Nat} {zs:List Value} (h:w.ownsRow B e size (.slice (some ⟨g,0,none⟩) n cap) n zs) {k:Nat} (hk:k<=n):
  w.ownsRow B e size (.slice (some ⟨g,0,none⟩) k cap) k (zs.take (k*size)):=by
 have hl:=h.1;have hm:=Nat.mul_le_mul_right size hk;refine⟨by simp;omega,.inr ?_⟩;rcases h.2 with ⟨e1,_⟩|⟨g',cap',cur,e1,e2,e3,e4,e5,e6,e7⟩
 ·cases e1
 ·cases e1;refine⟨g,cap,cur,rfl,e2,e3,by omega,e5,e6, ?_⟩
  grind
theorem RF (hT:TOk P T) {et:TypeId} (hu:P.underlying t=some (.slice et)) {w:World} {B:Nat} {i:TypeInfo} {z:Value} {size bytes:Nat} (hi:P.info? et=some i) (hz:i.zero=some z) (hsize:i.size=size) (hby:i.bytes=bytes)
  (hzs:z.cells.size=size) (hsz:0<size) {e0:TypeId} {v:Value} {n:Nat} {zs:List Value} (hown:w.ownsRow B e0 size v n zs) {a:Option Addr} {m cp:Nat} {news:List Value} (hl:news.length=m*size) (h1: ∀u∈news,u.oneCell'=true)
  (hnews:news=[]\/ ∃b off,a=some ⟨b,off,none⟩/\gX w b off news) (h63:n+m<=maxLen) (hbytes:(n+m)*bytes<=140737488355328) (hB:B<=w.heap.size) (ty:TypeId):
  ∃v' w' e1,(Builtin.append_ #[t,t] ty #[v,.slice a m cp]).run P w=.ok v' w'/\w'.ownsRow B e1 size v' (n+m) (zs++news)/\w.grownBy w' v.ownBlock/\(v'.ownBlock=v.ownBlock\/v'.ownBlock=some w.heap.size)/\v'.oneCell'=true/\(e1=e0\/e1=et):=by
 by_cases hm:m=0
 ·subst hm;have hn:news=[]:=bi (by simpa using hl);subst hn;obtain⟨av,cv,hv,hcv,_⟩:=rD hown;refine⟨v,w,e0, ?_,by simpa using hown,⟨rfl,rfl,rfl,ae _,fun _ _ _=>rfl⟩,.inl rfl,by rw[hv];rfl,.inl rfl⟩;rw[hv];cases a<;>cases av<;>simp[Builtin.append_,run_underlying hu,sizeOf,typeInfo,hi,Builtin.lenOf,Builtin.firstCells,loadCells,loadCellsFrom,hcv,storeCells]
 ·have hne:news≠[]:=by
   intro h0;rw[h0]at hl;have:=Nat.mul_pos (Nat.pos_of_ne_zero hm) hsz;simp at hl;omega
  obtain⟨b,off,rfl,hc⟩:=hnews.resolve_left hne;have hcells: ∀j u,news[j]? =some u->w.cell? ((⟨b,off,none⟩:Addr).add j)=some u:=fun j u hj=>by
   obtain⟨hj1,hj2⟩:=List.getElem?_eq_some_iff.1 hj;rw[jU,hc j hj1,hj2]
  subst hsize;subst hby;by_cases he:e0=et
  ·subst he;obtain⟨v',w',e1,e2,e3,_,e5⟩:=run_append_own_at (P:=P) w B t ty e0 i z i.size i.bytes hu hi hz rfl rfl hzs hsz v n zs hown ⟨b,off,none⟩ m cp news hl hcells h1 h63 hbytes hB;obtain⟨av,cv,hv,_⟩:=rD e2;exact⟨v',w',e0,e1,e2,e3,e5,by rw[hv];rfl,.inl rfl⟩
  ·
   rcases hown.2 with ⟨rfl,rfl⟩|⟨g,cap,cur,rfl,hbg,hg,hnc,hcm,hcs,htake⟩
   ·have hx:zs=[]:=bi (by simpa using hown.1);subst hx;obtain⟨v',w',e1,e2,e3,_,e5⟩:=run_append_own_at (P:=P) w B t ty et i z i.size i.bytes hu hi hz rfl rfl hzs hsz (.slice none 0 0) 0 [] (World.ownsRow_nil _ _ _ _) ⟨b,off,none⟩ m cp news hl hcells h1 h63 hbytes hB;obtain⟨av,cv,hv,_⟩:=rD e2;exact⟨v',w',et,e1,e2,e3,e5,by rw[hv];rfl,.inr rfl⟩
   ·by_cases hroom:n+m<=cap
    ·have hfit:n*i.size+news.length<=cur.size:=by rw[hl,hcs,<-Nat.add_mul];exact Nat.mul_le_mul_right _ hroom
     have hf:=run_firstCells_some (P:=P) w i.size m ⟨b,off,none⟩ m cp news hl hcells;have hst:=run_storeCells_at P g (n*i.size) e0 news 0 cur w hg (by simpa using hfit) h1;simp only[Nat.add_zero]at hst;have hr:(Builtin.append_ #[t,t] ty #[.slice (some ⟨g,0,none⟩) n cap,.slice (some ⟨b,off,none⟩) m cp]).run P w=
       .ok (.slice (some ⟨g,0,none⟩) (n+m) cap) (w.setRow g (cur.toList.take (n*i.size)++news++cur.toList.drop (n*i.size+news.length)).toArray):=by
      simp[Builtin.append_,run_underlying hu,sizeOf,typeInfo,hi,Builtin.lenOf,hroom,hf,Addr.add_lit,hst]
     have hlen:(zs++news).length=(n+m)*i.size:=by grind
     refine⟨_,_,e0,hr,⟨hlen,.inr ⟨g,cap,_,rfl,hbg,setRow_heap w g cur _ e0 _ hg,hroom,hcm, ?_, ?_⟩⟩,⟨rfl,rfl,rfl,by simp,fun k _ hk=>setRow_other w g k _ (fun e=>hk (by simp[Value.ownBlock,e]))⟩,Or.inl rfl,rfl,.inl rfl⟩
     all_goals grind
    ·have holds: ∀j u,zs[j]? =some u->w.cell? ((⟨g,0,none⟩:Addr).add j)=some u:=hown.cells (g:=g) rfl;have hr:=run_append_grow (P:=P) w t ty et i z hu hi hz ⟨g,0,none⟩ n cap zs hown.1 holds ⟨b,off,none⟩ m cp news hl hcells (by omega) (by grind [maxLen]) (growslice_fits (by omega) hbytes);have hge:=grownCap_ge w (n+m) cap et;have hcm':grownCap w (n+m) cap et<=maxLen:=grownCap_le_maxLen w (n+m) cap et h63;have hlen:(zs++news).length=(n+m)*i.size:=by rw[ai,hown.1,hl,Nat.add_mul]
     refine⟨_,_,et,hr,⟨hlen,.inr ⟨w.heap.size,_,_,rfl,hB,heap_alloc_new w.drew _,hge,hcm', ?_, ?_⟩⟩,⟨rfl,rfl,rfl,by simp,fun k hk _=>Below.heap_alloc w.drew _ k hk⟩,Or.inr rfl,rfl,.inr rfl⟩
     ·simp only[Array.size_append,List.size_toArray,size_zeroCells,hzs,hown.1,hl,<-Nat.add_mul];simp_all
     grind
theorem agf (hT:TOk P T) {et:TypeId} (hu:P.underlying t=some (.slice et)) {w:World} {i:TypeInfo} {z:Value} {size bytes:Nat} (hi:P.info? et=some i) (hz:i.zero=some z) (hsize:i.size=size) (hby:i.bytes=bytes)
  (hzs:z.cells.size=size) (hsz:0<size) {av:Option Addr} {b off m cp:Nat} {news:List Value} (hl:news.length=m*size) (h1: ∀u∈news,u.oneCell'=true)
  (hc:gX w b off news) (hm:0<m) (h63:m<=maxLen) (hbytes:m*bytes<=140737488355328) (ty:TypeId):
  ∃v' w' e1,(Builtin.append_ #[t,t] ty #[.slice av 0 0,.slice (some ⟨b,off,none⟩) m cp]).run P w=.ok v' w'/\w'.ownsRow w.heap.size e1 size v' m news/\Below w.heap.size w w'/\v'.oneCell'=true/\e1=et:=by
 have hcells: ∀j u,news[j]? =some u->w.cell? ((⟨b,off,none⟩:Addr).add j)=some u:=fun j u hj=>by
  obtain⟨hj1,hj2⟩:=List.getElem?_eq_some_iff.1 hj;rw[jU,hc j hj1,hj2]
 subst hsize;subst hby;cases av with
 |none=>
  obtain⟨v',w',e1,e2,e3,_,e5⟩:=run_append_own_at (P:=P) w w.heap.size t ty et i z i.size i.bytes hu hi hz rfl rfl hzs hsz (.slice none 0 0) 0 [] (World.ownsRow_nil _ _ _ _) ⟨b,off,none⟩ m cp news hl hcells h1 (by omega) (by simp_all) (ae _);obtain⟨av,cv,hv,_⟩:=rD e2;rw[Nat.zero_add,aO]at e2;exact⟨v',w',et,e1,e2,⟨e3.os,e3.tape,e3.output,e3.size,fun k hk=>e3.block k hk (by simp[Value.ownBlock])⟩,by rw[hv];rfl,rfl⟩
 |some a0=>
  have hr:=run_append_grow (P:=P) w t ty et i z hu hi hz a0 0 0 [] (by simp) (fun j v h=>by simp at h) ⟨b,off,none⟩ m cp news hl hcells (by omega) (by grind [maxLen]) (growslice_fits (by omega) (by simp_all));have hge:=grownCap_ge w (0+m) 0 et;have hcm':grownCap w (0+m) 0 et<=maxLen:=grownCap_le_maxLen w (0+m) 0 et (by omega);simp only[Nat.zero_add]at hr hge hcm';refine⟨_,_,et,hr, ?_, ?_,rfl,rfl⟩
  ·refine⟨hl,.inr ⟨w.heap.size,_,_,rfl,ae _,heap_alloc_new w.drew _,hge,hcm', ?_, ?_⟩⟩
   ·have:=Nat.add_mul m (grownCap w m 0 et-m) i.size;simp_all [size_zeroCells]
   simp_all
  ·exact⟨rfl,rfl,rfl,by simp,fun k hk=>Below.heap_alloc w.drew _ k hk⟩
theorem RG {u et:TypeId} (hu:P.underlying t=some (.slice et)) (hus:P.underlying u=some .string) {w:World} {B:Nat} {i:TypeInfo} (hi:P.info? et=some i) (hz:i.zero=some (.int .u8 0)) (hsize:i.size=1) (hby:i.bytes=1)
  {v:Value} {n:Nat} {zs:List Value} (hown:w.ownsRow B et 1 v n zs) (s:ByteArray) (hlen:n+s.size<=140737488355328) (hB:B<=w.heap.size) (ty:TypeId):
  ∃v' w',(Builtin.append_ #[t,u] ty #[v,.string s]).run P w=.ok v' w'/\w'.ownsRow B et 1 v' (n+s.size) (zs++Lib.strCells s)/\w.grownBy w' v.ownBlock/\(v'.ownBlock=v.ownBlock\/v'.ownBlock=some w.heap.size)/\v'.oneCell'=true:=by
 obtain⟨v',w',h1,h2,h3,h4⟩:=Lib.run_append_own_string (P:=P) w B t u ty et i hu hus hi hz hsize hby v n zs hown s (by simp only[maxLen];omega) hlen hB;obtain⟨av,cv,hv,_⟩:=rD h2;refine⟨v',w',h1,h2,h3, ?_,by rw[hv];rfl⟩;have hxl:zs.length=n:=by simpa using hown.1
 rcases hown.2 with ⟨rfl,rfl⟩|⟨g,cap,cur,rfl,hbg,hg,hnc,hcm,hcs,htake⟩
 ·by_cases hm:s.size=0
  ·simp_all
  ·right;have hr:=run_append_nil_string (P:=P) w t u ty et i (.int .u8 0) hu hus hi hz s (by omega) (by omega) (by rw[hby];omega);rw[hr]at h1;cases h1;rfl
 ·by_cases hroom:n+s.size<=cap
  ·left;have hr:=Lib.run_append_room_string (P:=P) w t u ty et i hu hus hi hsize g n cap cur hg s hroom (by omega);rw[hr]at h1;cases h1;rfl
  ·right;have holds: ∀j u,zs[j]? =some u->w.cell? ((⟨g,0,none⟩:Addr).add j)=some u:=hown.cells (g:=g) rfl;have hr:=Lib.run_append_grow_string (P:=P) w t u ty et i (.int .u8 0) hu hus hi hz ⟨g,0,none⟩ n cap zs (by simp_all) holds s (by omega) (by omega) (by rw[hby];exact growslice_fits (by omega) (by omega));rw[hr]at h1;cases h1;rfl
end
end
section
open Bool renaming and_eq_true → af
open List renaming length_append → ai, map_cons → ak, nil_append → aO
open Nat renaming le_refl → ae, eq_of_beq_eq_true → aj, le_mul_of_pos_right → bn
open Go.RowKit
section
variable {P:Program} {T:TT} {W0:World} {c:Cx} {R:Type} {r:R} {t:TypeId}
theorem Ap {α:Type} {l:List α} {b:Nat} (h:dO l b=true):l.length*b<=140737488355328:=by
 unfold dO lC at h;simp_all
theorem gu.one {w:World} {fr:Nat->Prop} {e:Ty}: ∀(xs:List e.den) (zs:List Value),gu (eY w fr e) e.size xs zs-> ∀u∈zs,u.oneCell'=true
 |[],_,h=>by cases h;simp
 |y::ys,_,⟨d,rest,e1,e2,e3,e4⟩=>by
  subst e1;intro u hu;rcases List.mem_append.1 hu with hu|hu
  ·exact eY.one _ _ _ e3 u hu
  ·exact gu.one ys rest e4 u hu
theorem al3 (hok:c.Ok W0) {st:St} (hhp:c.hp=st.hp) (hnx:c.nxt=st.nxt) {e:Ty} (hpos:0<e.size) {id ver:Nat} {xs:List e.den} (harr:dK c.hp id=some (.arr e ver xs)) {v':Value} {w':World} {e1:TypeId} {ws:List e.den} {zs':List Value}
  (hown':w'.ownsRow W0.heap.size e1 e.size v' ws.length zs') (hL:gu (eY c.w c.free e) e.size ws zs') (hgr:c.w.grownBy w' (c.mu id).v.ownBlock) (hlow: ∀b,(c.mu id).v.ownBlock=some b->W0.heap.size<=b)
  (hblk:v'.ownBlock=(c.mu id).v.ownBlock\/v'.ownBlock=some c.w.heap.size) (hone:v'.oneCell'=true) (hty:e=.int .u8->e1=oU):
  ∃c',DF W0 c st c' {st with hp:=ji st.hp id (.arr e (ver+1) ws)}/\c'.w=w'/\bP c' (.slc id (ver+1) none) v':=by
 have hB:Below W0.heap.size W0 w':=hok.bel.grown hgr hok.size hlow;have hlike:(dI.arr e ver xs).like (c.mu id) (.arr e (ver+1) ws) ⟨0,v'⟩:=⟨by omega,fun h=>by omega⟩;have hbb: ∀b,b<c.w.heap.size->(dI.arr e ver xs).blk (c.mu id)≠some b->w'.heap[b]? =c.w.heap[b]? :=fun b hb hne=>hgr.block b hb (by
  grind [dI.blk])
 have hll: ∀b,(dI.arr e (ver+1) ws).blk ⟨0,v'⟩=some b->(dI.arr e ver xs).blk (c.mu id)=some b\/c.w.heap.size<=b:=fun b hb=>by
  simp only[dI.blk]at hb ⊢
  grind
 have hlp: ∀(b:Nat) (L:Loop),(dI.arr e ver xs).blk (c.mu id)=some b->c.w.heap[b]? =some (Obj.loop L)-> ∃L':Loop,w'.heap[b]? =some (Obj.loop L'):=fun b L hb hL=>absurd hL ((hok.obj id _ harr).no_loop (by simp) hb);have hle:=Cx.Le.put (w:=w') hok harr hlike hgr.size hbb hll hlp;refine⟨c.put id (.arr e (ver+1) ws) ⟨0,v'⟩ w',⟨by simp[Cx.put,hhp],hnx,rfl,rfl,hok.put harr hlike hB hgr.size hbb hll hlp ?_,hle⟩,rfl, ?_⟩
 ·refine⟨hpos,e1,zs', ?_,gu.mono (eY.mono hle.free e) _ _ hL,hty⟩;simp_all [Cx.put,upd_same]
 ·simp only[bP];refine⟨hone,.inl ⟨_,Cx.put_get harr⟩,fun t' u' xs' h'=> ?_⟩;rw[Cx.put_get harr]at h';simp_all [iZ,Cx.put,upd_same]
theorem RD (hT:TOk P T) (hok:c.Ok W0) {st:St} (hhp:c.hp=st.hp) (hnx:c.nxt=st.nxt) {et:TypeId} (hu:P.underlying t=some (.slice et)) (hk:(T.at et).known=true) {e:Ty} (hsz:(T.at et).size=e.size) (hpos:0<e.size) (hbp:0<(T.at et).bytes)
  {id ver:Nat} {xs:List e.den} (harr:dK c.hp id=some (.arr e ver xs)) {v:Value} {k cp:Nat} {g:Option Addr} (hv:(c.mu id).v=.slice g xs.length cp) (hk2:k<=xs.length) (hv2:v=.slice g k cp)
  {ys:List e.den} {a:Option Addr} {m:Nat} {zs2:List Value} (hL2:gu (eY c.w c.free e) e.size ys zs2) (hsrc:zs2=[]\/ ∃b off,a=some ⟨b,off,none⟩/\b<c.w.heap.size/\gX c.w b off zs2)
  (hfit:((xs.take k++ys).length)*(T.at et).bytes<=140737488355328) (ty:TypeId) (hety:e=.int .u8->et=oU):
  ∃c' v',DF W0 c st c' {st with hp:=ji st.hp id (.arr e (ver+1) (xs.take k++ys))}/\(Builtin.append_ #[t,t] ty #[v,.slice a ys.length m]).run P c.w=.ok v' c'.w/\bP c' (.slc id (ver+1) none) v':=by
 obtain⟨_,e0,zs,hown,hL,hty⟩:=hok.obj id _ harr;obtain⟨i,z,hi,hsi,hbi,hz,hzero,hz1⟩:=hT.info hk;have hzl:z.cells.size=e.size:=by
  have:=congrArg List.length hzero;rw[hT.zlen hk,hsz]at this;simpa using this
 have hL3:=gu.take k _ _ hL;have hl2:=gu.length _ _ hL2;have hone2:=gu.one _ _ hL2;have hlen:(xs.take k).length=k:=by simp;omega
 have hown3:c.w.ownsRow W0.heap.size e0 e.size v k (zs.take (k*e.size)):=by
  rw[hv]at hown;rcases hown.2 with ⟨e1,e2⟩|⟨g',cap',cur,e1,_⟩
  ·simp only[Value.slice.injEq]at e1;obtain⟨rfl,_,rfl⟩:=e1;simp_all [World.ownsRow_nil]
  grind [aaj]
 have h63:k+ys.length<=maxLen:=by
  have h2:k+ys.length<=(k+ys.length)*(T.at et).bytes:=bn _ hbp
  grind [maxLen]
 obtain⟨v',w',e1,hr,hown',hgr,hblk,hone,hwhich⟩:=RF hT hu hi hz hsi hbi (by rw[hzl,hsz]) (by omega) (by rw[hsz];exact hown3) (a:=a) (cp:=m) (by rw[hsz];exact hl2) hone2 (hsrc.imp (fun h=>h) fun⟨b,off,q1,_,q3⟩=>⟨b,off,q1,q3⟩) h63
  (by simp_all) hok.size ty
 rw[hsz]at hown';have hvb:v.ownBlock=(c.mu id).v.ownBlock:=by rw[hv,hv2];cases g<;>rfl
 have hlow: ∀b,(c.mu id).v.ownBlock=some b->W0.heap.size<=b:=fun b hb=>(World.ownsRow.lt hown3 b (hvb.trans hb)).1;rw[hvb]at hgr hblk;obtain⟨c',d1,d2,d3⟩:=al3 hok hhp hnx hpos harr (ws:=xs.take k++ys) (by simp_all) (gu.append _ _ _ _ hL3 hL2) hgr hlow hblk hone (fun h=>hwhich.elim (fun q=>q.trans (hty h)) fun q=>q.trans (hety h))
 grind
theorem LV {w:World} {fr:Nat->Prop} (s:List UInt8):gu (eY w fr (.int .u8)) (Ty.int .u8).size (dh s) (Lib.strCells ⟨s.toArray⟩):=by
 induction s with
 |nil=>rfl
 |cons b l ih=>
  refine⟨[.int .u8 b.toNat],Lib.strCells ⟨l.toArray⟩,by simp[Lib.strCells],rfl,rfl, ?_⟩
  assumption
theorem aoI (hT:TOk P T) (hok:c.Ok W0) {cl:Bool} {dst:Option Tmp} {ty:TypeId} {pos:String} {after:Array Edge} {guard:Option (Nat×Bool)} {st:St} {a:Act} {K:bK->St->Option R} {args:Array Operand} {t t':TypeId} {s x:bK} (hhp:c.hp=st.hp) (hnx:c.nxt=st.nxt) (hfr:bD c st.fr a.tmps.toList)
  (hargs:args.toList.map (gV st.fr)=[s,x]) (h:Ag T cl dst t t' s x st K=some r):Iq P W0 c st ⟨dst,.call {callee:=.builtin .append,args:=args,argTypes:=[t,t'].toArray},ty,pos,after,guard⟩ a K r:=by
 obtain⟨al⟩:=args
 match al,hargs with
 |[s0,x0],hargs=>
  simp only[ak,List.map_nil,List.cons.injEq,and_true]at hargs;obtain⟨rfl,rfl⟩:=hargs;have hs:=dJ hfr s0;have hx:=dJ hfr x0;have hexec: ∀w,(execOp a.eval ⟨dst,.call {callee:=.builtin .append,args:=[s0,x0].toArray,argTypes:=[t,t'].toArray},ty,pos,after,guard⟩).run P w=
    ((Builtin.append_ #[t,t'] ty #[a.eval s0,a.eval x0]).run P w).andThen fun v w'=>.ok (.value v) w':=fun w=>by
   simp[execOp,resolve,invoke,builtin,Sem.run_bind]
  unfold Ag at h;split at h
  ·rename_i et y hkk hx0
   rw[hx0]at hx;simp only[bP]at hx;have hx:=hx.str_inv;split at h
   ·rename_i he
    replace h:=dw h;obtain⟨hc,h⟩:=h;simp only[af]at hc;obtain⟨⟨hstr,hrow⟩,hb1⟩:=hc;have hus:=F8 hT hstr;obtain⟨hu,hk,hsz,hpos,hbp⟩:=qp hT hkk hrow;have hb1:(T.at et).bytes=1:=aj hb1;obtain⟨i,z,hi,hsi,hbi,hz,hzero,hz1⟩:=hT.info hk;have het:et=oU:=hT.byte hk he;have hzb:i.zero=some (.int .u8 0):=by
     rcases(hT et hk).2.2.1 with q|q
     ·simp_all
     ·rw[he]at q;have hk2:(T.at et).k=.int .u8:=by
       cases hkq:(T.at et).k with
       |int k=>simp_all [lD]
       |struct fs=>
        rw[hkq]at q;simp only[lD]at q;cases fs with
        |nil=>simp[jH]at q
        |cons f l=>
         grind [jH]
       |slice e'=>
        rw[hkq]at q;simp only[lD]at q;cases hq:(T.at e').ty<;>rw[hq]at q<;>simp at q
       |bool=>rw[hkq]at q;cases q
       |str=>rw[hkq]at q;cases q
       |other=>rw[hkq]at q;cases q
       |fn=>rw[hkq]at q;cases q
       |ptr e'=>rw[hkq]at q;cases q
       |map _ _=>rw[hkq]at q;cases q
      exact hT.zero_byte hk hk2 hi
    cases hsv:gV st.fr s0 with
    |nils=>
     rw[hsv]at h hs;simp only at h;simp only[bP]at hs;obtain⟨hfit,h⟩:=gp h;have hfit:y.length<=140737488355328:=of_decide_eq_true hfit;obtain⟨v',w',hr,hown',hgr,hblk,hone⟩:=RG (ty:=ty) hu hus hi hzb (by omega) (by omega) (World.ownsRow_nil c.w c.w.heap.size et 1) ⟨y.toArray⟩ (by show 0+y.toArray.size<=_;simpa using hfit) (ae _);obtain⟨id,n',f1,f2,f3,f4⟩:=jb h;have hbw:Below c.w.heap.size c.w w':=⟨hgr.os,hgr.tape,hgr.output,hgr.size,fun k hk=>hgr.block k hk (by simp[Value.ownBlock])⟩;have hsz2:0+(⟨y.toArray⟩:ByteArray).size=(dh y).length:=by show 0+y.toArray.size=_;simp[dh]
     rw[aO,hsz2]at hown';obtain⟨c',d1,d2,d3⟩:=qX hok hhp hnx f1 f2 f3 (y:=.int .u8) (by simp[Ty.size]) hbw et _ hown' (LV y) hone (fun _=>het);exact⟨_,_,c',_,f4,d1,d3,.inl (by simp_all)⟩
    |slc id ver vw=>
     rw[hsv]at h hs;simp only at h;split at h
     ·rename_i u xs harr
      rw[<-hhp]at harr;replace h:=dw h;obtain⟨hver,h⟩:=h;have hver:u=ver:=by simpa using hver
      subst hver;split at h
      ·replace h:=gp h;obtain⟨hfit,h⟩:=h;have hfit:=Ap hfit;simp only[bP]at hs;have hs1:=(hs.2.2 _ _ _ harr).2 rfl;simp only[iZ]at hs1;obtain⟨_,e0,zs,hown,hL,hty⟩:=hok.obj id _ harr;have he0:e0=et:=(hty rfl).trans het.symm;subst he0;have hlen2:(⟨y.toArray⟩:ByteArray).size=(dh y).length:=by show y.toArray.size=_;simp[dh]
       obtain⟨v',w',hr,hown',hgr,hblk,hone⟩:=RG (ty:=ty) hu hus hi hzb (by omega) (by omega) hown ⟨y.toArray⟩ (by simp_all) hok.size;rw[hlen2,<-ai]at hown';obtain⟨c',d1,d2,d3⟩:=al3 hok hhp hnx (e:=.int .u8) (by simp[Ty.size]) harr hown' (gu.append _ _ _ _ hL (LV y)) hgr (fun b hb=>(World.ownsRow.lt hown b hb).1) hblk hone (fun _=>het);exact⟨_,_,c',_,h,d1,d3,.inl (by simp_all)⟩
      ·cases h
     ·cases h
    |_=>rw[hsv]at h;cases h
   ·cases h
  ·cases h
theorem aum (hT:TOk P T) (hok:c.Ok W0) {cl:Bool} {call:gq R} {o:Oper} {st:St} {a:Act} {K:bK->St->Option R} {args:Array Operand} {ts:Array TypeId} (hhp:c.hp=st.hp) (hnx:c.nxt=st.nxt) (hfr:bD c st.fr a.tmps.toList)
  (ho:o.op=.call {callee:=.builtin .append,args:=args,argTypes:=ts}) (h:dX T cl call o st K=some r):Iq P W0 c st o a K r:=by
 obtain⟨dst,op,ty,pos,after,guard⟩:=o;simp only at ho;subst ho;simp only[dX,jV]at h;split at h<;>try (cases h;done)
 all_goals try (rename_i hb _;cases hb;done)
 rename_i s x hb hargs
 split at h<;>try (cases h;done)
 rename_i t t' hts
 obtain⟨ts⟩:=ts;simp only at hts;subst hts;rw[cond_eq_ite]at h;split at h
 rotate_left
 ·grind [aoI]
 rename_i htt
 have htt:t=t':=by simpa using htt
 subst htt;obtain⟨al⟩:=args
 match al,hargs with
 |[s0,x0],hargs=>
  simp only[ak,List.map_nil,List.cons.injEq,and_true]at hargs;obtain⟨rfl,rfl⟩:=hargs;have hs:=dJ hfr s0;have hx:=dJ hfr x0;have hexec: ∀w,(execOp a.eval ⟨dst,.call {callee:=.builtin .append,args:=[s0,x0].toArray,argTypes:=[t,t].toArray},ty,pos,after,guard⟩).run P w=
    ((Builtin.append_ #[t,t] ty #[a.eval s0,a.eval x0]).run P w).andThen fun v w'=>.ok (.value v) w':=fun w=>by
   simp[execOp,resolve,invoke,builtin,Sem.run_bind]
  unfold JH at h;split at h
  ·rename_i et hkk
   split at h
   ·rename_i e he
    split at h
    ·cases h
    ·rename_i ys hys
     rw[<-hhp]at hys;obtain⟨a2,m2,zs2,hu2,hL2,hsrc⟩:=acs hok hys hx;split at h
     ·
      rename_i hs0
      rw[hs0]at hs;simp only[bP]at hs;replace h:=gp h;obtain⟨hn,h⟩:=h;simp only[af]at hn;obtain⟨hu,hk,hsz,hpos,hbp⟩:=qp hT hkk hn.1;have hfit:=Ap hn.2;obtain⟨i,z,hi,hsi,hbi,hz,hzero,hz1⟩:=hT.info hk;have hzl:z.cells.size=e.size:=by
       have:=congrArg List.length hzero;rw[hT.zlen hk,hsz]at this;simpa using this
      have hl2:=gu.length _ _ hL2;have hone2:=gu.one _ _ hL2;have h63:0+ys.length<=maxLen:=by
       have h2:ys.length<=ys.length*(T.at et).bytes:=bn _ hbp;simp only[maxLen];omega
      obtain⟨v',w',e1,hr,hown',hgr,hblk,hone,hwhich⟩:=RF hT hu hi hz hsi hbi (by rw[hzl,hsz]) (by omega) (World.ownsRow_nil c.w c.w.heap.size et (T.at et).size) (a:=a2) (cp:=m2) (by rw[hsz];exact hl2) hone2 (hsrc.imp (fun h=>h) fun⟨b,off,q1,_,q3⟩=>⟨b,off,q1,q3⟩) h63
       (by simp_all) (ae _) ty
      rw[hsz,aO,Nat.zero_add]at hown';obtain⟨id,n',f1,f2,f3,f4⟩:=jb h;have hbw:Below c.w.heap.size c.w w':=⟨hgr.os,hgr.tape,hgr.output,hgr.size,fun k hk=>hgr.block k hk (by simp[Value.ownBlock])⟩;obtain⟨c',d1,d2,d3⟩:=qX hok hhp hnx f1 f2 f3 hpos hbw e1 zs2 hown' hL2 hone (fun q=>(hwhich.elim (fun q=>q) fun q=>q).trans (hT.byte hk (by rw[he,q])));exact⟨_,_,c',_,f4,d1,d3,.inl (by simp_all)⟩
     ·
      rename_i hs0
      rw[hs0]at hs;simp only[bP]at hs;obtain⟨av,hs⟩:=hs;replace h:=gp h;obtain⟨hn,h⟩:=h;simp only[af]at hn;obtain⟨hu,hk,hsz,hpos,hbp⟩:=qp hT hkk hn.1;have hfit:=Ap hn.2;obtain⟨i,z,hi,hsi,hbi,hz,hzero,hz1⟩:=hT.info hk;have hzl:z.cells.size=e.size:=by
       have:=congrArg List.length hzero;rw[hT.zlen hk,hsz]at this;simpa using this
      have hl2:=gu.length _ _ hL2;have hone2:=gu.one _ _ hL2;have h63:0+ys.length<=maxLen:=by
       have h2:ys.length<=ys.length*(T.at et).bytes:=bn _ hbp;simp only[maxLen];omega
      cases hlt:Qa 0 ys.length with
      |false=>
       rw[hlt]at h;simp only[cond_false]at h;have h0:ys.length=0:=by simpa [Qa] using hlt
       refine⟨.emp,.slice av 0 0,c,st,h,DF.refl hok hhp hnx,by simp only[bP];exact⟨av,rfl⟩,.inl ?_⟩;rw[hexec,hs,hu2,h0];cases a2<;>cases av<;>simp[Builtin.append_,run_underlying hu,sizeOf,typeInfo,hi,Builtin.lenOf,Builtin.firstCells,loadCells,loadCellsFrom,storeCells]
      |true=>
       rw[hlt]at h;simp only[cond_true]at h;have hpl:0<ys.length:=by simpa [Qa] using hlt
       have hne:zs2≠[]:=by
        grind [Nat.mul_pos]
       obtain⟨b,off,rfl,_,hc⟩:=hsrc.resolve_left hne;obtain⟨v',w',e1,hr,hown',hgr,hone,hwhich⟩:=agf hT hu hi hz hsi hbi (by rw[hzl,hsz]) (by omega) (w:=c.w) (av:=av) (cp:=m2) (by rw[hsz];exact hl2) hone2 hc hpl (by omega) hfit ty;rw[hsz]at hown';obtain⟨id,n',f1,f2,f3,f4⟩:=jb h;obtain⟨c',d1,d2,d3⟩:=qX hok hhp hnx f1 f2 f3 hpos hgr e1 zs2 hown' hL2 hone (fun q=>hwhich.trans (hT.byte hk (by rw[he,q])));exact⟨_,_,c',_,f4,d1,d3,.inl (by simp_all)⟩
     ·
      rename_i id ver vw hs0
      rw[hs0]at hs;split at h
      ·rename_i e' u xs harr
       rw[<-hhp]at harr;replace h:=dw h;obtain⟨hver,h⟩:=h;have hver:u=ver:=by simpa using hver
       subst hver;split at h
       ·rename_i xs' hcast
        have hee:=iF hcast;cases hee;rw[gz]at hcast;cases hcast;simp only[bP]at hs;have hs1:=(hs.2.2 _ _ _ harr).2 rfl;obtain⟨_,e0,zs,hown,hL,hty⟩:=hok.obj id _ harr;obtain⟨g,cp,hv,hn,_⟩:=rD hown;split at h
        ·replace h:=gp h;obtain⟨hn2,h⟩:=h;simp only[af]at hn2;obtain⟨hu,hk,hsz,hpos,hbp⟩:=qp hT hkk hn2.1;have hfit:=Ap hn2.2;simp only[iZ]at hs1;rw[hv]at hs1;obtain⟨c',v',d1,d2,d3⟩:=RD hT hok hhp hnx hu hk hsz hpos hbp harr hv (ae _) hs1 (m:=m2) hL2 hsrc (by simp_all) ty (fun q=>hT.byte hk (by rw[he,q]));rw[List.take_length]at d1;exact⟨_,_,c',_,h,d1,d3,.inl (by simp_all)⟩
        ·rename_i lo hi
         replace h:=gp h;obtain⟨hn2,h⟩:=h;simp only[af,bJ,beq_iff_eq]at hn2;obtain⟨hn2,rfl,hn3⟩:=hn2;obtain⟨hu,hk,hsz,hpos,hbp⟩:=qp hT hkk hn2;have hfit:=Ap hn3;simp only[iZ]at hs1;obtain⟨g',m',cp',hv',p1,p2,p3,hs1⟩:=hs1;rw[hv]at hv';cases hv';have hs2:a.eval s0=.slice g hi.toNat cp:=by
          simp_all [Addr.add]
         obtain⟨c',v',d1,d2,d3⟩:=RD hT hok hhp hnx hu hk hsz hpos hbp harr hv (k:=hi.toNat) (by omega) hs2 (m:=m2) hL2 hsrc hfit ty (fun q=>hT.byte hk (by rw[he,q]));exact⟨_,_,c',_,h,d1,d3,.inl (by rw[hexec,hu2,d2];rfl)⟩
       ·cases h
      ·cases h
     ·cases h
   ·cases h
  ·cases h
end
end
section
open Bool renaming and_eq_true → af
open List renaming append_assoc → ah, length_append → ai, map_cons → ak, drop_of_length_le → az, nil_append → aO, take_of_length_le → bg
open Nat renaming le_refl → ae, eq_of_beq_eq_true → aj, le_trans → aG
open Go.RowKit
section
variable {P:Program} {T:TT} {W0:World} {c:Cx} {R:Type} {r:R} {t:TypeId}
theorem H8 {cs vs cs':List bK} {off:Nat} (h:putCells cs off vs=some cs'):off+vs.length<=cs.length/\cs'=cs.take off++vs++cs.drop (off+vs.length):=by
 unfold putCells at h;replace h:=dw h;simp_all
theorem PH (hT:TOk P T) (hk:(T.at t).known=true) {w:World} {g o:Nat} {cur:Array Value} {e:TypeId} (hg:w.heap[g]? =some (.cells cur e (0,0))) {v:Value} (hl:v.cells.size=(T.at t).size) (hfit:o+v.cells.size<=cur.size)
  (h1: ∀u∈v.cells.toList,u.oneCell'=true):
  (Instr.storeAt t (.pointer (some ⟨g,o,none⟩)) v).run P w=.ok () (w.setRow g (cur.toList.take o++v.cells.toList++cur.toList.drop (o+v.cells.size)).toArray):=by
 have hst:=run_storeCells_at P g o e v.cells.toList 0 cur w hg (by simpa using hfit) h1;simp only[Nat.add_zero,Array.length_toList]at hst;simp only[Instr.storeAt,Instr.sureAddr,Sem.run_bind,Sem.run_pure,Result.andThen_ok,storeVar,hT.sizeOf hk w,Sem.run_ite];simp_all
theorem auo (hT:TOk P T) (hok:c.Ok W0) {dst:Option Nat} {ty:TypeId} {pos} {after} {guard} {st:St} {a:Act} {K:St->Option R} {x y:Operand} (hhp:c.hp=st.hp) (hnx:c.nxt=st.nxt) (hfr:bD c st.fr a.tmps.toList)
  (h:JM T st t (gV st.fr x) (gV st.fr y) K=some r): ∃c' st',K st'=some r/\DF W0 c st c' st'/\(execOp a.eval ⟨dst,.store t x y,ty,pos,after,guard⟩).run P c.w=.ok .skip c'.w:=by
 simp only[JM]at h;split at h
 ·cases h
 rename_i vs hvs
 replace h:=dw h;obtain⟨hk,h⟩:=h;simp only[af,beq_iff_eq]at hk;obtain⟨hk,hlen⟩:=hk;obtain⟨r1,r2⟩:=Me hvs (dJ hfr y);have hl:vs.length=(a.eval y).cells.size:=by simpa using bD.length _ _ r1
 have hx:=dJ hfr x;have hexec: ∀w w',(Instr.storeAt t (a.eval x) (a.eval y)).run P w=.ok () w'->(execOp a.eval ⟨dst,.store t x y,ty,pos,after,guard⟩).run P w=.ok .skip w':=fun w w' hw=>by
  simp_all [execOp]
 split at h
 ·rename_i id off hid
  rw[hid]at hx;split at h
  ·rename_i bt cs hcs
   split at h
   ·rename_i cs' hput
    obtain⟨p1,rfl⟩:=H8 hput;rw[<-hhp]at hcs;simp only[bP]at hx;have hv:=hx.2.2 _ _ hcs;obtain⟨hB,us,h3,h4,h5⟩:=hok.obj id _ hcs;have hlu:cs.length=us.size:=by simpa using bD.length _ _ h4
    have hrun:=PH (o:=off) hT hk h3 (v:=a.eval y) (by rw[<-hl,hlen]) (by omega) r2;rw[<-hv]at hrun;have hlike:(dI.box bt cs).like (c.mu id) (.box bt (cs.take off++vs++cs.drop (off+vs.length))) (c.mu id):=rfl;have hsz:c.w.heap.size<=(c.w.setRow (c.mu id).blk (us.toList.take off++(a.eval y).cells.toList++us.toList.drop (off+(a.eval y).cells.size)).toArray).heap.size:=by simp
    have hbb: ∀b,b<c.w.heap.size->(dI.box bt cs).blk (c.mu id)≠some b->(c.w.setRow (c.mu id).blk (us.toList.take off++(a.eval y).cells.toList++us.toList.drop (off+(a.eval y).cells.size)).toArray).heap[b]? =c.w.heap[b]? :=
     fun b _ hne=>setRow_other _ _ _ _ (fun e=>hne (by simp[dI.blk,e]))
    have hll: ∀b,(dI.box bt (cs.take off++vs++cs.drop (off+vs.length))).blk (c.mu id)=some b->(dI.box bt cs).blk (c.mu id)=some b\/c.w.heap.size<=b:=fun b hb=>.inl hb;have hlp: ∀(b:Nat) (L:Loop),(dI.box bt cs).blk (c.mu id)=some b->c.w.heap[b]? =some (Obj.loop L)-> ∃L':Loop,(c.w.setRow (c.mu id).blk (us.toList.take off++(a.eval y).cells.toList++us.toList.drop (off+(a.eval y).cells.size)).toArray).heap[b]? =some (Obj.loop L'):=fun b L hb hL=>absurd hL ((hok.obj id _ hcs).no_loop (by simp) hb);have hle:=Cx.Le.put (w:=c.w.setRow (c.mu id).blk (us.toList.take off++(a.eval y).cells.toList++us.toList.drop (off+(a.eval y).cells.size)).toArray) hok hcs hlike hsz hbb hll hlp;have hBel:Below W0.heap.size W0 (c.w.setRow (c.mu id).blk (us.toList.take off++(a.eval y).cells.toList++us.toList.drop (off+(a.eval y).cells.size)).toArray):=
     hok.bel.trans ⟨rfl,rfl,rfl,by simp,fun k hk=>setRow_other _ _ _ _ (by omega)⟩
    refine⟨c.put id _ (c.mu id) _,_,h,⟨by simp[Cx.put,hhp],hnx,rfl,rfl,hok.put hcs hlike hBel hsz hbb hll hlp ?_,hle⟩,hexec _ _ hrun⟩;refine⟨by simp only[Cx.put,upd_same];exact hB,(us.toList.take off++(a.eval y).cells.toList++us.toList.drop (off+(a.eval y).cells.size)).toArray, ?_, ?_, ?_⟩
    ·simp only[Cx.put,upd_same]
     grind [setRow_heap]
    ·grind [bD.append,bD.take,bD.drop,bD.le]
    grind
   ·cases h
  ·cases h
 ·rename_i id ver i off hid
  rw[hid]at hx;split at h
  ·rename_i e u xs harr
   rw[<-hhp]at harr;replace h:=dw h;obtain⟨hver,h⟩:=h;have hver:u=ver:=by simpa using hver
   subst hver;replace h:=dw h;obtain⟨hi,h⟩:=h;have hi:i<xs.length:=by simpa [Qa] using hi
   split at h
   ·rename_i cs hput
    split at h
    ·rename_i x' hmk
     simp only[bP]at hx;obtain⟨g',n',cp',q1,q2⟩:=(hx.2.2 _ _ _ harr).2 rfl;obtain⟨hpos,e0,zs,hown,hL,hty⟩:=hok.obj id _ harr;rcases hown.2 with ⟨e1,e2⟩|⟨g,cap,cur,e1,e2,e3,e4,e5,e6,e7⟩
     ·omega
     rw[q1]at e1;simp only[Value.slice.injEq,Option.some.injEq,Addr.mk.injEq,and_true]at e1;obtain⟨rfl,rfl,rfl⟩:=e1;obtain⟨d,d1,d2,l1,l2,d3,d4⟩:=gu.at_ i xs zs hi hL;have hgx:xs.getD i e.dflt=xs[i]:=by simp[List.getD,hi]
     rw[hgx]at hput;obtain⟨p1,rfl⟩:=H8 hput;have hf:=Ec (c:=c) e _ _ d2;have hfl:=bD.length _ _ hf;have hod:off+vs.length<=d.length:=by omega
     have hnew:=bD.append _ _ _ _ (bD.append _ _ _ _ (bD.take off _ _ hf) r1) (bD.drop (off+vs.length) _ _ hf);have hd':=oG hmk hnew;have hdl:=eY.length _ _ _ hd';have hcl:cur.toList=l1++d++l2++cur.toList.drop (xs.length*e.size):=by
      grind [List.take_append_drop]
     have hcs:cur.size=xs.length*e.size+(cur.toList.drop (xs.length*e.size)).length:=by
      have h1:=congrArg List.length hcl;have h2:=congrArg List.length d3;rw[hown.1]at h2
      grind
     have hzl:=congrArg List.length d3;rw[hown.1]at hzl;simp only[ai]at hzl;have hrun:=PH (o:=i*e.size+off) hT hk e3 (v:=a.eval y) (by rw[<-hl,hlen]) (by omega) r2;rw[<-q2]at hrun;have hseg:cur.toList.take (i*e.size+off)++(a.eval y).cells.toList++cur.toList.drop (i*e.size+off+(a.eval y).cells.size)=l1++(d.take off++(a.eval y).cells.toList++d.drop (off+vs.length))++l2++cur.toList.drop (xs.length*e.size):=by
      have t1:cur.toList.take (i*e.size+off)=l1++d.take off:=by
       rw[hcl,ah,ah,List.take_append,bg (by omega),d4,Nat.add_sub_cancel_left,List.take_append_of_le_length (by omega)]
      have t2:cur.toList.drop (i*e.size+off+(a.eval y).cells.size)=d.drop (off+vs.length)++l2++cur.toList.drop (xs.length*e.size):=by
       conv=>lhs;rw[hcl]
       rw[ah,ah,List.drop_append,az (by omega),aO,d4,List.drop_append,List.drop_append];have z1:i*e.size+off+(a.eval y).cells.size-i*e.size=off+vs.length:=by omega
       have z2:off+vs.length-d.length=0:=by omega
       rw[z1,z2];simp
      rw[t1,t2];simp
     rw[hseg]at hrun;have hL2:=gu.set x' (d.take off++(a.eval y).cells.toList++d.drop (off+vs.length)) hdl hd' i xs l1 d l2 hi (by grind) d4 d1;generalize d.take off++(a.eval y).cells.toList++d.drop (off+vs.length)=d' at*;have hlike:(dI.arr e u xs).like (c.mu id) (.arr e u (ig xs i x')) (c.mu id):=⟨ae _,fun _=>⟨rfl,rfl⟩⟩;have hblk:(dI.arr e u xs).blk (c.mu id)=some g':=by simp[dI.blk,q1,Value.ownBlock]
     have hsz:c.w.heap.size<=(c.w.setRow g' (l1++d'++l2++cur.toList.drop (xs.length*e.size)).toArray).heap.size:=by simp
     have hbb: ∀b,b<c.w.heap.size->(dI.arr e u xs).blk (c.mu id)≠some b->(c.w.setRow g' (l1++d'++l2++cur.toList.drop (xs.length*e.size)).toArray).heap[b]? =c.w.heap[b]? :=
      fun b _ hne=>setRow_other _ _ _ _ (fun e=>hne (by rw[hblk,e]))
     have hll: ∀b,(dI.arr e u (ig xs i x')).blk (c.mu id)=some b->(dI.arr e u xs).blk (c.mu id)=some b\/c.w.heap.size<=b:=fun b hb=>.inl hb;have hlp: ∀(b:Nat) (L:Loop),(dI.arr e u xs).blk (c.mu id)=some b->c.w.heap[b]? =some (Obj.loop L)-> ∃L':Loop,(c.w.setRow g' (l1++d'++l2++cur.toList.drop (xs.length*e.size)).toArray).heap[b]? =some (Obj.loop L'):=fun b L hb hL=>absurd hL ((hok.obj id _ harr).no_loop (by simp) hb);have hle:=Cx.Le.put (w:=c.w.setRow g' (l1++d'++l2++cur.toList.drop (xs.length*e.size)).toArray) hok harr hlike hsz hbb hll hlp;have hBel:Below W0.heap.size W0 (c.w.setRow g' (l1++d'++l2++cur.toList.drop (xs.length*e.size)).toArray):=
      hok.bel.trans ⟨rfl,rfl,rfl,by simp,fun k hk=>setRow_other _ _ _ _ (by omega)⟩
     refine⟨c.put id _ (c.mu id) _,_,h,⟨by simp[Cx.put,hhp],hnx,rfl,rfl,hok.put harr hlike hBel hsz hbb hll hlp ?_,hle⟩,hexec _ _ hrun⟩;refine⟨hpos,e0,l1++d'++l2, ?_,gu.mono (eY.mono hle.free e) _ _ hL2,hty⟩;have hlen2:(l1++d'++l2).length=xs.length*e.size:=by
      grind
     simp only[Cx.put,upd_same,ig,List.length_set];refine⟨hlen2,.inr ⟨g',cp',_,q1,e2,setRow_heap c.w _ cur _ e0 _ e3,e4,e5, ?_, ?_⟩⟩
     all_goals grind
    ·cases h
   ·cases h
  ·cases h
 ·cases h
theorem H7 {w:World} {B:Nat} {e:TypeId} {size n:Nat} {v v':Value} {zs:List Value} (h:w.ownsRow B e size v n zs) {hi:Int} (h0:0<=hi) (hn:hi<=n) (hv:iZ size v (some (0,hi)) v'):
  w.ownsRow B e size v' hi.toNat (zs.take (hi.toNat*size))/\ ∀b,v'.ownBlock=some b->v.ownBlock=some b:=by
 obtain⟨a,m,cp,e1,_,_,e4,e5⟩:=hv;have hk:hi.toNat<=n:=by omega
 have hlen:(zs.take (hi.toNat*size)).length=hi.toNat*size:=by
  rw[List.length_take,h.1];simp_all
 rcases h.2 with ⟨h1,h2⟩|⟨g,cap,cur,h1,h2,h3,h4,h5,h6,h7⟩
 ·rw[e1]at h1;cases h1;subst h2;have:hi.toNat=0:=by omega
  have hv':v'=.slice none 0 0:=by rw[e5,this];rfl
  subst hv';refine⟨⟨hlen,.inl ⟨rfl,this⟩⟩,fun b hb=>by cases hb⟩
 ·rw[e1]at h1;cases h1;have hv':v'=.slice (some ⟨g,0,none⟩) hi.toNat cp:=by
   grind [Addr.add]
  subst hv';subst e1;refine⟨⟨hlen,.inr ⟨g,cp,cur,rfl,h2,h3,by omega,h5,h6, ?_⟩⟩,fun b hb=>hb⟩
  grind
theorem ayN {st:St} {c':Cx} {st':St} (hd:DF W0 c st c' st') {id off i:Nat} {bt:TypeId} {cs:List bK} {e:Ty} {w:Nat} {xs:List e.den} {hi:Int} (hne:id≠i)
  (hbox:dK st'.hp id=some (.box bt cs)) (harr:dK st'.hp i=some (.arr e w xs)) (hcell:cs.getD off .undef=.slc i w (some (0,hi))):
  ∃c'',DF W0 c st c'' {st' with hp:=ji (ji st'.hp i (.arr e (w+1) (xs.take hi.toNat))) id (.box bt (cs.set off (.slc i (w+1) none)))}/\c''.w=c'.w:=by
 have hok:=hd.ok;rw[<-hd.hp]at hbox harr;obtain⟨hB,us,h3,h4,h5⟩:=hok.obj id _ hbox;have hlu:cs.length=us.toList.length:=bD.length _ _ h4;have hoff:off<cs.length:=by
  grind
 have hou:off<us.toList.length:=by omega
 have hv:bP c' (.slc i w (some (0,hi))) us.toList[off]:=by
  have:=bD.getD h4 off;simp_all
 obtain⟨hpos,e0,zs,hown,hL,hty⟩:=hok.obj i _ harr;have hv1:=hv;simp only[bP]at hv1;have hview:=(hv1.2.2 _ _ _ harr).2 rfl;have⟨hb1,hb2⟩:0<=hi/\hi<=bC xs:=by
  obtain⟨a1,n1,c1,e1,_,p2,p3,_⟩:=hview;obtain⟨a2,c2,e2,_⟩:=rD hown;rw[e2]at e1;cases e1;exact⟨p2,p3⟩
 obtain⟨hown',hblk⟩:=H7 hown hb1 hb2 hview;have hk:(dI.arr e w xs).like (c'.mu i) (.arr e (w+1) (xs.take hi.toNat)) ⟨(c'.mu i).blk,us.toList[off]⟩:=⟨by omega,fun e=>by omega⟩;have hle:=Cx.Le.put (w:=c'.w) hok harr hk (ae _) (fun _ _ _=>rfl) (fun b hb=>.inl (hblk b hb)) (fun b L _ hL=>⟨L,hL⟩);have hok1:=Cx.Ok.put (w:=c'.w) hok harr hk hok.bel (ae _) (fun _ _ _=>rfl) (fun b hb=>.inl (hblk b hb)) (fun b L _ hL=>⟨L,hL⟩) (by
  refine⟨hpos,e0,zs.take (hi.toNat*e.size), ?_,gu.take _ _ _ (gu.mono (eY.mono hle.free e) _ _ hL),hty⟩;simp_all [bC,Cx.put,upd_same])
 have hnew:bP (c'.put i (dI.arr e (w+1) (List.take hi.toNat xs)) ⟨(c'.mu i).blk,us.toList[off]⟩ c'.w) (.slc i (w+1) none) us.toList[off]:=by
  simp only[bP];refine⟨hv1.1,.inl ⟨_,Cx.put_get harr⟩,fun t' u' xs' hg'=> ?_⟩;rw[Cx.put_get harr]at hg';simp_all [iZ,Cx.put,upd_same]
 have hbox1:dK (c'.put i (dI.arr e (w+1) (List.take hi.toNat xs)) ⟨(c'.mu i).blk,us.toList[off]⟩ c'.w).hp id=some (.box bt cs):=by
  simp only[Cx.put,jr]
  grind
 have hmu1:(c'.put i (dI.arr e (w+1) (List.take hi.toNat xs)) ⟨(c'.mu i).blk,us.toList[off]⟩ c'.w).mu id=c'.mu id:=by
  simp_all [Cx.put,upd_ne]
 generalize hc1:c'.put i (dI.arr e (w+1) (List.take hi.toNat xs)) ⟨(c'.mu i).blk,us.toList[off]⟩ c'.w=c1 at*;have hw1:c1.w=c'.w:=by rw[<-hc1];rfl
 have hhp1:c1.hp=ji c'.hp i (.arr e (w+1) (xs.take hi.toNat)):=by rw[<-hc1];rfl
 have hnx1:c1.nxt=c'.nxt:=by rw[<-hc1];rfl
 have hk2:(dI.box bt cs).like (c1.mu id) (.box bt (cs.set off (.slc i (w+1) none))) (c1.mu id):=rfl;have hle2:=Cx.Le.put (w:=c1.w) hok1 hbox1 hk2 (ae _) (fun _ _ _=>rfl) (fun b hb=>.inl hb) (fun b L _ hL=>⟨L,hL⟩);have hok2:=Cx.Ok.put (w:=c1.w) hok1 hbox1 hk2 hok1.bel (ae _) (fun _ _ _=>rfl) (fun b hb=>.inl hb) (fun b L _ hL=>⟨L,hL⟩) (by
  refine⟨by simp_all [Cx.put,upd_same],us,by simp_all [Cx.put,upd_same], ?_,h5⟩
  grind [bD.le,bD.setL])
 refine⟨_,⟨?_, ?_,hd.fr,hd.stk,hok2,(hd.le.trans hle).trans hle2⟩,hw1⟩
 ·simp only[Cx.put];rw[hhp1,hd.hp]
 ·show c1.nxt=st'.nxt;rw[hnx1,hd.nxt]
theorem aoi {old:gI} {st:St} {x y:bK} {K:St->Option R} {c':Cx} {st':St} (hd:DF W0 c st c' st') (h:adJ old st' x y K=some r): ∃c'' st'',K st''=some r/\DF W0 c st c'' st''/\c''.w=c'.w:=by
 have same:K st'=some r-> ∃c'' st'',K st''=some r/\DF W0 c st c'' st''/\c''.w=c'.w:=fun h=>⟨c',st',h,hd,rfl⟩;unfold adJ at h;split at h
 ·split at h
  ·split at h
   ·rw[cond_eq_ite]at h;split at h
    ·rename_i hne
     simp only[af,Bool.not_eq_true']at hne;split at h
     ·rename_i hbox harr
      split at h
      ·rename_i hcell
       rw[cond_eq_ite]at h;split at h
       ·rename_i hb
        simp only[af,beq_iff_eq]at hb
        grind [aj,ayN]
       ·exact same h
      ·exact same h
     ·exact same h
    ·exact same h
   ·exact same h
  ·exact same h
 ·exact same h
theorem azH (hT:TOk P T) (hok:c.Ok W0) {cl:Bool} {call:gq R} {o:Oper} {st:St} {a:Act} {K:bK->St->Option R} {x y:Operand} (hhp:c.hp=st.hp) (hnx:c.nxt=st.nxt) (hfr:bD c st.fr a.tmps.toList)
  (ho:o.op=.store t x y) (h:dX T cl call o st K=some r):Iq P W0 c st o a K r:=by
 obtain⟨dst,op,ty,pos,after,guard⟩:=o;simp only at ho;subst ho;simp only[dX]at h;obtain⟨c',st',h1,hd,hx⟩:=auo (dst:=dst) (ty:=ty) (pos:=pos) (after:=after) (guard:=guard) hT hok hhp hnx hfr h;obtain⟨c'',st'',h2,hd2,hw⟩:=aoi hd h1;exact⟨_,undef,c'',st'',h2,hd2,by simp[bP],.inr ⟨by rw[hw];exact hx,rfl⟩⟩
theorem WM (w:World) (t et ty:TypeId) (B size n:Nat) (v:Value) (zs:List Value) (e0:TypeId) (h:w.ownsRow B e0 size v n zs) (hty:P.underlying ty=some (.pointer et)):
  ∃u w',(Builtin.unsafeSliceData_ #[t] ty #[v]).run P w=.ok u w'/\Below w.heap.size w w'/\u.oneCell'=true/\(∃p,u=.pointer p)/\ ∀a m cp,v=.slice a m cp->m≠0->u=.pointer a:=by
 rcases h.2 with ⟨rfl,rfl⟩|⟨g,cap,cur,rfl,_,hg,hnc,_⟩
 ·exact⟨_,w,Lib.run_unsafeSliceData_nil w _ _ 0 0,Below.refl _ _,rfl,⟨_,rfl⟩,fun a m cp h hm=>by simp_all⟩
 ·by_cases hc:cap=0
  ·subst hc;refine⟨_,_,Lib.run_unsafeSliceData_zero w _ _ et hty ⟨g,0,none⟩ n (e0,cur.size) (by simp[World.shape?,hg]),nM _ _,rfl,⟨_,rfl⟩,fun a m cp h hm=> ?_⟩;cases h;omega
  ·exact⟨_,w,Lib.run_unsafeSliceData_row w _ _ _ _ _ hc,Below.refl _ _,rfl,⟨_,rfl⟩,fun a m cp h _=>by cases h;rfl⟩
theorem aez (hT:TOk P T) (hok:c.Ok W0) {cl:Bool} {call:gq R} {o:Oper} {st:St} {a:Act} {K:bK->St->Option R} {args:Array Operand} {ts:Array TypeId} (hhp:c.hp=st.hp) (hnx:c.nxt=st.nxt) (hfr:bD c st.fr a.tmps.toList)
  (ho:o.op=.call {callee:=.builtin .unsafeSliceData,args:=args,argTypes:=ts}) (h:dX T cl call o st K=some r):Iq P W0 c st o a K r:=by
 obtain⟨dst,op,ty,pos,after,guard⟩:=o;simp only at ho;subst ho;simp only[dX,jV]at h;split at h<;>try (cases h;done)
 all_goals try (rename_i hb _;cases hb;done)
 rename_i id ver hb hargs
 split at h<;>try (cases h;done)
 rename_i t hts
 split at h<;>try (cases h;done)
 rename_i e v xs harr
 rw[cond_eq_ite]at h;split at h
 ·rename_i hc
  simp only[af,beq_iff_eq]at hc;obtain⟨rfl,hrow,htyk⟩:=hc;obtain⟨ts⟩:=ts;simp only at hts;subst hts;obtain⟨al⟩:=args
  match al with
  |[]=>simp at hargs
  |_::_::_=>simp at hargs
  |[s0]=>
   simp only[ak,List.map_nil,List.cons.injEq,and_true]at hargs;have hs:=dJ hfr s0;rw[hargs]at hs;simp only[bP]at hs;rw[<-hhp]at harr;have hs1:=(hs.2.2 _ _ _ harr).2 rfl;simp only[iZ]at hs1;obtain⟨_,e0,zs,hown,hL,hty⟩:=hok.obj id _ harr;obtain⟨et,hund⟩:=hT.isPtr htyk;obtain⟨u,w',hr,hbw,hone,hp,hpa⟩:=WM c.w t et ty W0.heap.size e.size xs.length (c.mu id).v zs e0 hown hund;refine⟨_,u,c.at_ w',st,h,⟨hhp,hnx,rfl,rfl,hok.ext hbw,Cx.Le.ext hbw⟩, ?_,.inl ?_⟩
   ·simp only[bP];refine⟨hone,.inl ⟨_,harr⟩,fun t' u' xs' h'=> ?_⟩;have h':dK c.hp id=some (.arr t' u' xs'):=h';rw[harr]at h';cases h';exact⟨ae _,fun _=>⟨hp,hpa⟩⟩
   ·have:(execOp a.eval ⟨dst,.call {callee:=.builtin .unsafeSliceData,args:=[s0].toArray,argTypes:=[t].toArray},ty,pos,after,guard⟩).run P c.w=
      ((Builtin.unsafeSliceData_ #[t] ty #[a.eval s0]).run P c.w).andThen fun v w'=>.ok (.value v) w':=by
     simp[execOp,resolve,invoke,builtin,Sem.run_bind]
    rw[this,hs1,hr];rfl
 ·cases h
theorem Lj (w:World): ∀(xs:List Int) (a:Addr) (acc:ByteArray),(∀j x,xs[j]? =some x->w.cell? (a.add j)=some (.int .u8 x))->(loadBytes a acc xs.length).run P w=.ok (xs.foldl (fun r n=>r.push (UInt8.ofNat n.toNat)) acc) w
 |[],a,acc,_=>by simp[loadBytes]
 |x::xs,a,acc,h=>by
  have h0:w.cell? a=some (.int .u8 x):=by
   have:=h 0 x rfl
   assumption
  have ih:=Lj w xs (a.add 1) (acc.push (UInt8.ofNat x.toNat)) fun j y hj=>by
   have:=h (j+1) y (by simpa using hj)
   grind [Addr.add]
  simp_all [loadBytes]
theorem Vb {pt it ty et:TypeId} (hp:P.underlying pt=some (.pointer et)) (hc:P.cellsOf et=1) (w:World) (g cells:Nat) (hsh:w.shape? g=some (et,cells)) (xs:List Int) (h0:xs≠[]) (hn:xs.length<=cells) (h63:xs.length<=9223372036854775807)
  (hcell: ∀j x,xs[j]? =some x->w.cell? ((⟨g,0,none⟩:Addr).add j)=some (.int .u8 x)):
  (Builtin.unsafeString_ #[pt,it] ty #[.pointer (some ⟨g,0,none⟩),.int .i64 xs.length]).run P w=.ok (.string ⟨(ofBytes xs).toArray⟩) (w.freeze ⟨g,0,none⟩ xs.length):=by
 have hl:xs.length≠0:=by simpa using h0
 have hlb:=Lj (P:=P) w xs ⟨g,0,none⟩ .empty hcell;have hlies:=Lib.liesAt_bytes (P:=P) hc (cells/P.cellsOf et) xs.length (by simp_all);have h63': ¬(9223372036854775807:Int)<(xs.length:Int):=by omega
 have hdef:Builtin.unsafeString_ #[pt,it] ty #[.pointer (some ⟨g,0,none⟩),.int .i64 xs.length]=
   (do
    let n<-asInt (.int .i64 xs.length)
    if n<0 then runtimePanic (.error "unsafe.String: len out of range")
    if n>IntKind.i64.max then unsupported (.unsafePointer "String: a length above the largest int")
    if n=0 then pure (.string .empty)
    else if<-variablesAt ⟨g,0,none⟩ (<-elemOf pt) n.toNat then do
     let s<-loadBytes ⟨g,0,none⟩ .empty n.toNat
     freeze ⟨g,0,none⟩ n.toNat
     pure (.string s)
    else unsupported (.unsafePointer "String: not so many bytes at ptr")):=rfl
 rw[hdef];have hmax:IntKind.i64.max=9223372036854775807:=rfl;have hneg: ¬(xs.length:Int)<0:=by omega
 have hfold:=MP xs [];have he:(⟨([]:List UInt8).toArray⟩:ByteArray)=.empty:=rfl;rw[he]at hfold;simp[asInt,asIntOf,hmax,h63',hneg,hl,variablesAt,hsh,elemOf,run_underlying hp,hlies,hlb];exact hfold
theorem aew (hok:c.Ok W0) {st:St} (hhp:c.hp=st.hp) (hnx:c.nxt=st.nxt) {id ver:Nat} {e:Ty} {xs:List e.den} (harr:dK c.hp id=some (.arr e ver xs)) {w':World} (hsz:c.w.heap.size<=w'.heap.size)
  (hbb: ∀b,(c.mu id).v.ownBlock≠some b->w'.heap[b]? =c.w.heap[b]?) (hos:w'.os=c.w.os/\w'.tape=c.w.tape/\w'.output=c.w.output):
  ∃c',DF W0 c st c' {st with hp:=ji st.hp id .dead}/\c'.w=w':=by
 have hlike:(dI.arr e ver xs).like (c.mu id) .dead (c.mu id):=trivial;have hlp: ∀(b:Nat) (L:Loop),(dI.arr e ver xs).blk (c.mu id)=some b->c.w.heap[b]? =some (Obj.loop L)-> ∃L':Loop,w'.heap[b]? =some (Obj.loop L'):=fun b L hb hL=>absurd hL ((hok.obj id _ harr).no_loop (by simp) hb);have hll: ∀b,dI.dead.blk (c.mu id)=some b->(dI.arr e ver xs).blk (c.mu id)=some b\/c.w.heap.size<=b:=fun b hb=>by cases hb
 have hb2: ∀b,b<c.w.heap.size->(dI.arr e ver xs).blk (c.mu id)≠some b->w'.heap[b]? =c.w.heap[b]? :=fun b _ hne=>hbb b hne;have hB:Below W0.heap.size W0 w':=by
  refine⟨hos.1.trans hok.bel.os,hos.2.1.trans hok.bel.tape,hos.2.2.trans hok.bel.output,aG hok.bel.size hsz,fun b hb=>(hbb b fun h=> ?_).trans (hok.bel.block b hb)⟩;have:=((hok.obj id _ harr).lt (b:=b) h).1;omega
 have hle:=Cx.Le.put (w:=w') hok harr hlike hsz hb2 hll hlp;exact⟨c.put id .dead (c.mu id) w',⟨by simp[Cx.put,hhp],hnx,rfl,rfl,hok.put harr hlike hB hsz hb2 hll hlp trivial,hle⟩,rfl⟩
theorem Ua (hT:TOk P T) (hok:c.Ok W0) {cl:Bool} {call:gq R} {o:Oper} {st:St} {a:Act} {K:bK->St->Option R} {args:Array Operand} {ts:Array TypeId} (hhp:c.hp=st.hp) (hnx:c.nxt=st.nxt) (hfr:bD c st.fr a.tmps.toList)
  (ho:o.op=.call {callee:=.builtin .unsafeString,args:=args,argTypes:=ts}) (h:dX T cl call o st K=some r):Iq P W0 c st o a K r:=by
 obtain⟨dst,op,ty,pos,after,guard⟩:=o;simp only at ho;subst ho;simp only[dX,jV]at h;split at h<;>try (cases h;done)
 all_goals try (rename_i hb _;cases hb;done)
 rename_i id ver n hb hargs
 split at h<;>try (cases h;done)
 rename_i pt it hts
 split at h<;>try (cases h;done)
 rename_i v xs harr
 rw[cond_eq_ite]at h;split at h
 ·rename_i hc
  simp only[af,beq_iff_eq]at hc;obtain⟨rfl,hpt⟩:=hc;replace h:=gp h;obtain⟨hn,h⟩:=h;have hn:n=(xs.length:Int):=by simpa [bJ,bC] using hn
  subst hn;obtain⟨ts⟩:=ts;simp only at hts;subst hts;obtain⟨al⟩:=args
  match al with
  |[]=>simp at hargs
  |[_]=>simp at hargs
  |_::_::_::_=>simp at hargs
  |[s0,n0]=>
   simp only[ak,List.map_nil,List.cons.injEq,and_true]at hargs;have hs:=dJ hfr s0;have hn0:=dJ hfr n0;rw[hargs.1]at hs;rw[hargs.2]at hn0;simp only[bP]at hs hn0;have hn0:=hn0.int_inv;rw[<-hhp]at harr;obtain⟨hp,hpa⟩:=(hs.2.2 _ _ _ harr).2 rfl;obtain⟨_,e0,zs,hown,hL,hty⟩:=hok.obj id _ harr;have hty:=hty rfl;obtain⟨hund,hcl⟩:=hT.isBytes hpt;have hexec:(execOp a.eval ⟨dst,.call {callee:=.builtin .unsafeString,args:=[s0,n0].toArray,argTypes:=[pt,it].toArray},ty,pos,after,guard⟩).run P c.w=
     ((Builtin.unsafeString_ #[pt,it] ty #[a.eval s0,a.eval n0]).run P c.w).andThen fun v w'=>.ok (.value v) w':=by
    simp[execOp,resolve,invoke,builtin,Sem.run_bind]
   have hzs:zs=xs.map (.int .u8):=IR xs zs hL;by_cases hx:xs=[]
   ·subst hx;obtain⟨p,hp⟩:=hp;obtain⟨c',d1,d2⟩:=aew hok hhp hnx harr (w':=c.w) (ae _) (fun _ _=>rfl) ⟨rfl,rfl,rfl⟩;refine⟨_,.string .empty,c',_,h,d1, ?_,.inl ?_⟩
    ·simp only[bP];exact VD.str_mk
    ·rw[hexec,hp,hn0];have:=Lib.run_unsafeString_none (P:=P) c.w pt it ty p;simp only[List.length_nil,Int.natCast_zero]at this ⊢;rw[this,d2];rfl
   ·have hx0:xs.length≠0:=by simpa using hx
    rcases hown.2 with ⟨_,h0⟩|⟨g,cap,cur,hv,hbg,hg,hnc,hcm,hcs,htake⟩
    ·exact absurd h0 hx0
    ·have hp:=hpa _ _ _ hv hx0;have hother: ∀b,(c.mu id).v.ownBlock≠some b->(c.w.freeze ⟨g,0,none⟩ xs.length).heap[b]? =c.w.heap[b]? :=fun b hb=>by
      have hne:g≠b:=fun e=>hb (by rw[hv,<-e];rfl);unfold World.freeze;rw[if_neg hx0];simp only[Array.getElem?_modify];rw[if_neg hne]
     have hsame:(c.w.freeze ⟨g,0,none⟩ xs.length).heap.size=c.w.heap.size:=by
      unfold World.freeze;rw[if_neg hx0];simp
     have hos:(c.w.freeze ⟨g,0,none⟩ xs.length).os=c.w.os/\(c.w.freeze ⟨g,0,none⟩ xs.length).tape=c.w.tape/\(c.w.freeze ⟨g,0,none⟩ xs.length).output=c.w.output:=by
      unfold World.freeze;rw[if_neg hx0];exact⟨rfl,rfl,rfl⟩
     obtain⟨c',d1,d2⟩:=aew hok hhp hnx harr (w':=c.w.freeze ⟨g,0,none⟩ xs.length) (Nat.le_of_eq hsame.symm) hother hos;refine⟨_,.string ⟨(ofBytes xs).toArray⟩,c',_,h,d1, ?_,.inl ?_⟩
     ·simp only[bP];exact VD.str_mk
     ·rw[hexec,hp,hn0];have hcells: ∀j x,xs[j]? =some x->c.w.cell? ((⟨g,0,none⟩:Addr).add j)=some (.int .u8 x):=fun j x hj=>by
       have:=hown.cells (g:=g) (by rw[hv];rfl) j (.int .u8 x) (by rw[hzs];simp[hj]);exact this
      have hcs:cur.size=cap:=by simpa [Ty.size] using hcs
      rw[Vb (ty:=ty) (it:=it) hund hcl c.w g cur.size (by rw[<-hty];simp[World.shape?,hg]) xs hx (by omega) (by unfold maxLen at hcm;omega) hcells,d2];rfl
 ·cases h
end
end
section
open Bool renaming and_eq_true → af
open List renaming map_cons → ak
open Go.RowKit
theorem Tt {kk vk:IntKind} {a:Int}: ∀(ms:List MapEntry) (es:List (Int×Int)) (i:Nat),ms.map (fun e=>(e.key,e.val))=es.map (fun p=>(Value.int kk p.1,Value.int vk p.2))->
  (Ez es a=none/\Instr.findNow (.int kk) (.int kk a) ms i=some none/\ ∀b cl,(ms++[(⟨.int kk a,.int vk b,cl⟩:MapEntry)]).map (fun e=>(e.key,e.val))=(uZ es a b).map (fun p=>(Value.int kk p.1,Value.int vk p.2)))\/
  ∃v j,Ez es a=some v/\Instr.findNow (.int kk) (.int kk a) ms i=some (some (i+j,.int vk v))/\(∃e0,ms[j]? =some e0/\e0.key=.int kk a)/\
   ∀b,(ms.modify j (fun e=>{e with key:=.int kk a,val:=.int vk b})).map (fun e=>(e.key,e.val))=(uZ es a b).map (fun p=>(Value.int kk p.1,Value.int vk p.2))
 |[],[],i,_=>.inl ⟨rfl,rfl,fun b cl=>rfl⟩
 |[],_::_,_,h=>by simp at h
 |_::_,[],_,h=>by simp at h
 |e::ms,(k,v)::es,i,h=>by
  simp only[ak,List.cons.injEq,Prod.mk.injEq]at h;obtain⟨⟨h1,h2⟩,h3⟩:=h;have hs:Instr.sameNow (.int kk) (.int kk a) e.key=some (a==k):=by rw[h1];simp[Instr.sameNow]
  by_cases hak:a=k
  ·subst hak;refine .inr ⟨v,0,by simp[Ez,bJ], ?_,⟨e,rfl,h1⟩,fun b=> ?_⟩
   ·simp[Instr.findNow,hs,h2]
   ·simp[uZ,bJ,h3]
  ·have hb:(a==k)=false:=by simpa using hak
   rw[hb]at hs;rcases Tt (a:=a) ms es (i+1) h3 with ⟨g1,g2,g3⟩|⟨v',j,g1,g2,⟨e0,g3,g4⟩,g5⟩
   ·refine .inl ⟨by simp[Ez,bJ,hb,g1],by simp[Instr.findNow,hs,g2],fun b cl=> ?_⟩;have:=g3 b cl;simp only[uZ,bJ,hb,cond_false,List.cons_append,ak,List.cons.injEq,Prod.mk.injEq];simp_all
   ·refine .inr ⟨v',j+1,by simp[Ez,bJ,hb,g1], ?_,⟨e0,by simpa using g3,g4⟩,fun b=> ?_⟩
    ·grind [Instr.findNow]
    ·have:=g5 b;simp only[uZ,bJ,hb,cond_false,List.modify_succ_cons,ak,List.cons.injEq,Prod.mk.injEq];simp_all
section
variable {P:Program} {T:TT} {W0:World} {c:Cx} {R:Type} {r:R} {t:TypeId}
theorem Ur (hT:TOk P T) {a b:IntKind} (h:T.mapOf t=some (a,b)): ∃k e,P.underlying t=some (.map k e)/\P.underlying k=some (.int a)/\ ∃i,P.info? e=some i/\i.zero=some (.int b 0):=by
 unfold TT.mapOf at h;replace h:=dw h;obtain⟨hk,h⟩:=h;split at h
 ·rename_i k e hke
  replace h:=dw h;obtain⟨hke2,h⟩:=h;simp only[af]at hke2;split at h
  ·rename_i a' b' ha hb
   cases h;obtain⟨i,z,hi,_⟩:=hT.info hke2.2;exact⟨k,e,hT.map hk hke,hT.int hke2.1 ha,i,hi,hT.zero_int hke2.2 hb hi⟩
  ·cases h
 ·cases h
theorem aFR (hok:c.Ok W0) {st:St} (h1:c.hp=st.hp) (h2:c.nxt=st.nxt) {id n':Nat} (h3:dK st.hp id=none) (h4:st.nxt<=id) (h5:st.nxt<=n') (kk vk:IntKind):
  ∃c',DF W0 c st c' {st with hp:=(id,.mp kk vk [])::st.hp,nxt:=n'}/\c'.w=c.w.alloc (.map #[] 0)/\bP c' (.mpv id) (.map (some c.w.heap.size)):=by
 have hk:=A7 h1 h2 h3 h4;have hb:=nM c.w (.map #[] 0);have hl: ∀b,dI.blk (.mp kk vk []) ⟨c.w.heap.size,undef⟩=some b->c.w.heap.size<=b:=fun b hb=>by
  simp_all [dI.blk]
 have hle:=Cx.Le.push (o:=.mp kk vk []) (l:=⟨c.w.heap.size,undef⟩) (nxt:=n') (w:=c.w.alloc (.map #[] 0)) hk (by omega) hb.size hb.block hl;have ho:(c.push id (.mp kk vk []) ⟨c.w.heap.size,undef⟩ n' (c.w.alloc (.map #[] 0))).ORel W0.heap.size id (.mp kk vk []):=by
  refine⟨by simp[Cx.push,upd_same];exact hok.size,#[],0, ?_,rfl⟩;simp only[Cx.push,upd_same];exact heap_alloc_new c.w _
 refine⟨_,⟨?_,rfl,rfl,rfl,hok.push hk (by omega) hb hl ho,hle⟩,rfl, ?_⟩
 ·simp[Cx.push,h1]
 ·simp only[bP];refine⟨rfl,.inl ⟨.mp kk vk [],by simp[Cx.push,dY]⟩,fun _ _ _ _=>by simp[Cx.push,upd_same]⟩
theorem aoJ (hT:TOk P T) (hok:c.Ok W0) {cl:Bool} {call:gq R} {o:Oper} {st:St} {a:Act} {K:bK->St->Option R} {res:Option Operand} (hhp:c.hp=st.hp) (hnx:c.nxt=st.nxt) (ho:o.op=.makeMap t res)
  (h:dX T cl call o st K=some r):Iq P W0 c st o a K r:=by
 obtain⟨dst,op,ty,pos,after,guard⟩:=o;simp only at ho;subst ho;simp only[dX]at h;split at h
 ·rename_i kk vk hm
  obtain⟨id,n',e1,e2,e3,e4⟩:=jb h;obtain⟨c',d1,d2,d3⟩:=aFR hok hhp hnx e1 e2 e3 kk vk;refine qV (s:=Instr.makeMap t none) rfl e4 d1 d3 (by simp_all [Instr.makeMap])
 ·cases h
theorem aun (hT:TOk P T) (hok:c.Ok W0) {cl:Bool} {call:gq R} {o:Oper} {st:St} {a:Act} {K:bK->St->Option R} {x y:Operand} {ok:Bool} (hhp:c.hp=st.hp) (hnx:c.nxt=st.nxt) (hfr:bD c st.fr a.tmps.toList) (ho:o.op=.lookup t x y ok)
  (h:dX T cl call o st K=some r):Iq P W0 c st o a K r:=by
 obtain⟨dst,op,ty,pos,after,guard⟩:=o;simp only at ho;subst ho;simp only[dX]at h;split at h
 ·rename_i kk vk id hm hid
  split at h
  ·rename_i kk' vk' es kk'' n hg hn
   replace h:=dw h;obtain⟨hk,h⟩:=h;simp only[af,decide_eq_true_eq]at hk;obtain⟨rfl,rfl,rfl⟩:=hk;obtain⟨kt,et,u1,u2,i,u3,u4⟩:=Ur hT hm;have hx:=dJ hfr x;rw[hid]at hx;simp only[bP]at hx;rw[<-hhp]at hg;have hv:=hx.2.2 _ _ _ hg;obtain⟨hB,ms,clock,h3,h4⟩:=hok.obj id _ hg;have hy:=dJ hfr y;rw[hn]at hy;simp only[bP]at hy;have hyv:=hy.int_inv;have hz:(zeroValue et).run P c.w=.ok (.int vk' 0) c.w:=by simp[zeroValue,typeInfo,u3,u4]
   have hkey:MapKept.IsKey (.int kk'') (.int kk'' n):=rfl;rcases Tt (a:=n) ms.toList es 0 h4 with ⟨g1,g2,_⟩|⟨v,j,g1,g2,_,_⟩
   ·simp only[qG,avi,g1]at h;refine qV (s:=Instr.lookup t (a.eval x) (a.eval y) ok) (u:=if ok then .tuple #[.int vk' 0,.bool false]else .int vk' 0) rfl h (DF.refl hok hhp hnx) ?_ ?_
    ·cases ok
     ·simp_all [bP,VD.int_mk]
     ·simp only[cond_true,bP,if_true];exact⟨_,rfl,by simp_all [bD,bP,VD.int_mk,VD.bool_mk]⟩
    ·rw[hv,hyv];simp[Instr.lookup,run_underlying u1,MapKept.run_getObj_map h3,MapKept.run_checkKey u2 hkey,MapKept.run_findKey u2 g2,hz,Result.andThen]
   ·simp only[qG,avi,g1]at h;refine qV (s:=Instr.lookup t (a.eval x) (a.eval y) ok) (u:=if ok then .tuple #[.int vk' v,.bool true]else .int vk' v) rfl h (DF.refl hok hhp hnx) ?_ ?_
    ·cases ok
     ·simp_all [bP,VD.int_mk]
     ·simp only[cond_true,bP,if_true];exact⟨_,rfl,by simp_all [bD,bP,VD.int_mk,VD.bool_mk]⟩
    ·rw[hv,hyv];simp[Instr.lookup,run_underlying u1,MapKept.run_getObj_map h3,MapKept.run_checkKey u2 hkey,MapKept.run_findKey u2 g2,Result.andThen]
  ·cases h
 ·cases h
theorem aey (hT:TOk P T) (hok:c.Ok W0) {cl:Bool} {call:gq R} {o:Oper} {st:St} {a:Act} {K:bK->St->Option R} {x y z:Operand} (hhp:c.hp=st.hp) (hnx:c.nxt=st.nxt) (hfr:bD c st.fr a.tmps.toList) (ho:o.op=.mapUpdate t x y z)
  (h:dX T cl call o st K=some r):Iq P W0 c st o a K r:=by
 obtain⟨dst,op,ty,pos,after,guard⟩:=o;simp only at ho;subst ho;simp only[dX]at h;split at h
 ·rename_i kk vk id hm hid
  split at h
  ·rename_i kk' vk' es kk'' n vk'' b hg hn hb
   replace h:=dw h;obtain⟨hk,h⟩:=h;simp only[af,decide_eq_true_eq]at hk;obtain⟨rfl,rfl,rfl,rfl⟩:=hk;obtain⟨kt,et,u1,u2,i,u3,u4⟩:=Ur hT hm;have hx:=dJ hfr x;rw[hid]at hx;simp only[bP]at hx;rw[<-hhp]at hg;have hv:=hx.2.2 _ _ _ hg;obtain⟨hB,ms,clock,h3,h4⟩:=hok.obj id _ hg;have hy:=dJ hfr y;rw[hn]at hy;simp only[bP]at hy;have hyv:=hy.int_inv;have hzz:=dJ hfr z;rw[hb]at hzz;simp only[bP]at hzz;have hzv:=hzz.int_inv;have hkey:MapKept.IsKey (.int kk'') (.int kk'' n):=rfl;have hrun: ∃ms' cl',(Instr.mapUpdate t (a.eval x) (a.eval y) (a.eval z)).run P c.w=.ok () {c.w with heap:=c.w.heap.setIfInBounds (c.mu id).blk (.map ms' cl')}/\ms'.toList.map (fun e=>(e.key,e.val))=(uZ es n b).map (fun p=>(Value.int kk'' p.1,Value.int vk'' p.2)):=by
    rw[hv,hyv,hzv];rcases Tt (a:=n) ms.toList es 0 h4 with ⟨g1,g2,g3⟩|⟨v,j,g1,g2,⟨e0,g3,g4⟩,g5⟩
    ·exact⟨ms.push ⟨.int kk'' n,.int vk'' b,clock⟩,clock+1,by
      simp[Instr.mapUpdate,run_underlying u1,MapKept.run_getObj_map h3,MapKept.run_checkKey u2 hkey,MapKept.run_findKey u2 g2,MapKept.run_setObj_map _ h3,Result.andThen],by
      simp_all⟩
    ·have hj:ms[j]? =some e0:=by simpa using g3
     exact⟨ms.modify j (fun e'=>{e' with key:=.int kk'' n,val:=.int vk'' b}),clock,by
      simp[Instr.mapUpdate,run_underlying u1,MapKept.run_getObj_map h3,MapKept.run_checkKey u2 hkey,MapKept.run_findKey u2 g2,hj,g4,MapKept.run_keyThatStays hkey,MapKept.run_setObj_map _ h3,Result.andThen],by
      simp_all⟩
   obtain⟨ms',cl',hrun,hrow⟩:=hrun;have hexec:(execOp a.eval ⟨dst,.mapUpdate t x y z,ty,pos,after,guard⟩).run P c.w=.ok .skip {c.w with heap:=c.w.heap.setIfInBounds (c.mu id).blk (.map ms' cl')}:=by
    simp_all [execOp]
   have ji:=MapKept.heap_set (o':=Obj.map ms' cl') h3;have hlike:(dI.mp kk'' vk'' es).like (c.mu id) (.mp kk'' vk'' (uZ es n b)) (c.mu id):=rfl;have hsz:c.w.heap.size<=({c.w with heap:=c.w.heap.setIfInBounds (c.mu id).blk (.map ms' cl')}:World).heap.size:=by simp
   have hbb: ∀b',b'<c.w.heap.size->(dI.mp kk'' vk'' es).blk (c.mu id)≠some b'->({c.w with heap:=c.w.heap.setIfInBounds (c.mu id).blk (.map ms' cl')}:World).heap[b']? =c.w.heap[b']? :=
    fun b' _ hne=>ji.2 b' (fun e=>hne (by simp[dI.blk,e]))
   have hll: ∀b',(dI.mp kk'' vk'' (uZ es n b)).blk (c.mu id)=some b'->(dI.mp kk'' vk'' es).blk (c.mu id)=some b'\/c.w.heap.size<=b':=fun b' hb=>.inl hb;have hlp: ∀(b':Nat) (L:Loop),(dI.mp kk'' vk'' es).blk (c.mu id)=some b'->c.w.heap[b']? =some (Obj.loop L)-> ∃L':Loop,({c.w with heap:=c.w.heap.setIfInBounds (c.mu id).blk (.map ms' cl')}:World).heap[b']? =some (Obj.loop L'):=fun b' L hb hL=>absurd hL ((hok.obj id _ hg).no_loop (by simp) hb);have hle:=Cx.Le.put (w:={c.w with heap:=c.w.heap.setIfInBounds (c.mu id).blk (.map ms' cl')}) hok hg hlike hsz hbb hll hlp;have hBel:Below W0.heap.size W0 {c.w with heap:=c.w.heap.setIfInBounds (c.mu id).blk (.map ms' cl')}:=
    hok.bel.trans ⟨rfl,rfl,rfl,by simp,fun k hk=>ji.2 k (by omega)⟩
   refine⟨_,undef,c.put id _ (c.mu id) _,_,h,⟨by simp[Cx.put,hhp],hnx,rfl,rfl,hok.put hg hlike hBel hsz hbb hll hlp ?_,hle⟩,by simp[bP],.inr ⟨hexec,rfl⟩⟩;refine⟨by simp only[Cx.put,upd_same];exact hB,ms',cl', ?_,hrow⟩;simp_all [Cx.put,upd_same]
  ·cases h
 ·cases h
end
end
section
open Nat renaming le_refl → ae, le_trans → aG
open Go.RowKit
def FW (rd:Option Nat):Fence:={Fence.wide with round:=rd}
theorem ui (rd:Option Nat) {n:Nat}:(FW rd).depth.isSome=true->1<=n:=fun h=>by simp[FW,Fence.wide]at h
def mkD (r:Nat):Deferred:={target:=.collected r,args:= #[]}
def DI (c:Cx):List (List bK)->List (Array Value)->Prop
 |[],[]=>True
 |f::fs,t::ts=>bD c f t.toList/\DI c fs ts
 |_,_=>False
theorem DI.le {c c':Cx} (h:c.Le c'): ∀(fs:List (List bK)) (ts:List (Array Value)),DI c fs ts->DI c' fs ts
 |[],[],_=>trivial
 |f::fs,t::ts,hh=>⟨bD.le h _ _ hh.1,DI.le h fs ts hh.2⟩
 |[],_::_,hh=>hh.elim
 |_::_,[],hh=>hh.elim
structure Cx.Mono (c c':Cx):Prop where
 mks: ∀r,r∈c.mks->r∈c'.mks
 lp: ∀(b:Nat) (L:Loop),c.w.heap[b]? =some (Obj.loop L)-> ∃L':Loop,c'.w.heap[b]? =some (Obj.loop L')
 size:c.w.heap.size<=c'.w.heap.size
 bar:c'.bar=c.bar
 out: ∀b,c.out b->c'.out b/\c'.w.heap[b]? =c.w.heap[b]?
theorem Cx.Le.mono {c c':Cx} (h:c.Le c'):c.Mono c':=⟨h.mks,h.lp,h.size,h.bar,h.out⟩
theorem Cx.Mono.refl (c:Cx):c.Mono c:=⟨fun _ h=>h,fun b L h=>⟨L,h⟩,ae _,rfl,fun _ h=>⟨h,rfl⟩⟩
theorem Cx.Mono.trans {a b c:Cx} (h:a.Mono b) (k:b.Mono c):a.Mono c:=
 ⟨fun r hr=>k.mks r (h.mks r hr),fun b L hL=>let⟨L1,h1⟩:=h.lp b L hL;k.lp b L1 h1,aG h.size k.size,k.bar.trans h.bar,fun x hx=>⟨(k.out x (h.out x hx).1).1,(k.out x (h.out x hx).1).2.trans (h.out x hx).2⟩⟩
structure iO (W0:World) (b0:Nat) (rd:Option Nat) (c:Cx) (st:St) (a:Act) (ats:List (Array Value)):Prop where
 hp:c.hp=st.hp
 nxt:c.nxt=st.nxt
 ok:c.Ok W0
 fr:bD c st.fr a.tmps.toList
 stk:DI c st.stk ats
 df: ∃ds:List Nat,a.defers=ds.map mkD/\ds.Nodup/\ ∀r∈ds,r∈c.mks/\b0<=r
 rd: ∀l,rd=some l-> ∃L:Loop,c.w.heap[l]? =some (Obj.loop L)
section
variable {P:Program} {T:TT} {W0:World} {b0 n:Nat} {rd:Option Nat} {c:Cx} {R:Type} {r:R} {st:St} {a:Act} {ats:List (Array Value)}
theorem avP (a:Act) (dst:Option Nat) (v:Value) (fr:List bK) (z:bK) (h:bD c fr a.tmps.toList) (hz:bP c z v):bD c (match dst with|some d=>fr.set d z|none=>fr) (a.put dst v).tmps.toList:=by
 grind [Act.put,bD.set]
theorem aGz (st:St) (dst:Option Nat) (z:bK):(st.put dst z).fr=(match dst with|some d=>st.fr.set d z|none=>st.fr)/\(st.put dst z).hp=st.hp/\(st.put dst z).nxt=st.nxt/\(st.put dst z).stk=st.stk:=by
 cases dst<;>exact⟨rfl,rfl,rfl,rfl⟩
theorem put_defers (a:Act) (dst:Option Nat) (v:Value):(a.put dst v).defers=a.defers:=by cases dst<;>rfl
theorem iO.put (h:iO W0 b0 rd c st a ats) {dst:Option Nat} {z:bK} {v:Value} (hz:bP c z v):iO W0 b0 rd c (st.put dst z) (a.put dst v) ats:=by
 obtain⟨e1,e2,e3,e4⟩:=aGz st dst z;exact⟨h.hp.trans e2.symm,h.nxt.trans e3.symm,h.ok,by rw[e1];exact avP a dst v _ z h.fr hz,by rw[e4];exact h.stk,by rw[put_defers];exact h.df,h.rd⟩
theorem iO.did (h:iO W0 b0 rd c st a ats) {c':Cx} {st':St} (hd:DF W0 c st c' st'):iO W0 b0 rd c' st' a ats:=
 ⟨hd.hp,hd.nxt,hd.ok,by rw[hd.fr];exact bD.le hd.le _ _ h.fr,by rw[hd.stk];exact DI.le hd.le _ _ h.stk,
  let⟨ds,h1,h2,h3⟩:=h.df;⟨ds,h1,h2,fun r hr=>⟨hd.le.mks r (h3 r hr).1,(h3 r hr).2⟩⟩,fun l hl=>let⟨L,hL⟩:=h.rd l hl;hd.le.lp l L hL⟩
def lV (P:Program) (W0:World) (n:Nat) (call:gq R):Prop:=
 ∀(b0:Nat) (rd:Option Nat) (fv:bK) (args:List bK) (dst:Option Nat) (st:St) (K:bK->St->Option R) (r:R),call fv args dst st K=some r->
  ∀(c:Cx) (a:Act) (ats:List (Array Value)) (fv':Value) (args':Array Value),iO W0 b0 rd c st a ats->bP c fv fv'->bD c args args'.toList->
   ∀(o:Oper) (next:Act->World->Prop) (Q:Exit->Act->World->Prop),(∀c' z u st',K z st'=some r->iO W0 b0 rd c' st' a ats->bP c' z u->c.Mono c'->next (a.put o.dst u) c'.w)->
    o.uponIn (FW rd) n P a next Q ((do let d<-Deferred.ofValue fv' args';invoke d.target d.args:Sem Next).run P c.w)
def qQ:Op->Bool
 |.defer _=>true
 |_=>false
theorem xF {o:Oper} (h:qQ o.op=false) (rd:Option Nat) (ρ:Operand->Value):Oper.semAt rd ρ o=execOp ρ o:=
 Oper.semAt_eq rd ρ o fun c hc=>by rw[hc]at h;cases h
theorem qK (o:Oper) (w:World) (ρ:Operand->Value): ∀f,o.about P w ρ=some f->(FW rd).fn f:=fun _ _=>trivial
theorem nC {o:Oper} {K:bK->St->Option R} (hd:qQ o.op=false) (h:Iq P W0 c st o a K r) (hr:iO W0 b0 rd c st a ats) {next:Act->World->Prop} {Q:Exit->Act->World->Prop}
  (hn: ∀c' z u st',K z st'=some r->iO W0 b0 rd c' st' a ats->bP c' z u->c.Mono c'->next (a.put o.dst u) c'.w):o.wpIn (FW rd) n P a c.w next Q:=by
 obtain⟨z,u,c',st',h1,h2,h3,h4⟩:=h;refine⟨qK o c.w _, ?_⟩;rw[xF hd];have:=hn c' z u st' h1 (hr.did h2) h3 h2.le.mono;rcases h4 with h4|⟨h4,rfl⟩
 ·rw[h4];exact this
 ·rw[h4];exact this
theorem UE (hT:TOk P T) {cl:Bool} {call:gq R} (hcall:lV P W0 n call) {o:Oper} {K:bK->St->Option R} (h:dX T cl call o st K=some r) (hr:iO W0 b0 rd c st a ats) {next:Act->World->Prop} {Q:Exit->Act->World->Prop}
  (hn: ∀c' z u st',K z st'=some r->iO W0 b0 rd c' st' a ats->bP c' z u->c.Mono c'->next (a.put o.dst u) c'.w):o.wpIn (FW rd) n P a c.w next Q:=by
 by_cases hq:ik o.op=true
 ·obtain⟨z,u,h1,h2,h3⟩:=Ba hT hr.ok hq hr.hp hr.fr h;have hd:qQ o.op=false:=by cases ho:o.op<;>simp_all [ik,jK,qQ]
  exact nC hd ⟨z,u,c,st,h1,DF.refl hr.ok hr.hp hr.nxt,h2,.inl (h3 c.w (Below.refl _ _))⟩ hr hn
 ·cases ho:o.op with
  |alloc t=>exact nC (by rw[ho];rfl) (azG hT hr.ok hr.hp hr.nxt ho h) hr hn
  |box t x=>exact nC (by rw[ho];rfl) (aIj hT hr.ok hr.hp hr.nxt hr.fr ho h) hr hn
  |buildSlice t k parts=>exact nC (by rw[ho];rfl) (ZQ hT hr.ok hr.hp hr.nxt hr.fr ho h) hr hn
  |makeSlice t l cp=>exact nC (by rw[ho];rfl) (aex hT hr.ok hr.hp hr.nxt hr.fr ho h) hr hn
  |store t x y=>exact nC (by rw[ho];rfl) (azH hT hr.ok hr.hp hr.nxt hr.fr ho h) hr hn
  |makeFunc fn first caps=>
   obtain⟨dst,op,ty,pos,after,guard⟩:=o;simp only at ho;subst ho;simp only[dX]at h;split at h
   ·rename_i f hf
    obtain⟨fl⟩:=first
    simp only at hf;subst hf;refine nC rfl ⟨_,.func (.func f) #[] (caps.map a.eval),c,st,h,DF.refl hr.ok hr.hp hr.nxt, ?_,.inl ?_⟩ hr hn
    ·simp only[bP];refine⟨_,rfl, ?_⟩;have:=bD.map_eval (c:=c) hr.fr caps.toList;simpa using this
    simp_all [execOp,Instr.makeFunc]
   ·rename_i l f hne
    replace h:=dw h;obtain⟨hcaps,h⟩:=h;have hc0:caps= #[]:=by
     simp_all
    subst hc0;refine nC rfl ⟨_,.func (.func f) (first.map a.eval) #[],c,st,h,DF.refl hr.ok hr.hp hr.nxt, ?_,.inl ?_⟩ hr hn
    ·simp only[bP];refine⟨_,rfl, ?_⟩;have:=bD.map_eval (c:=c) hr.fr first.toList;simpa using this
    simp_all [execOp,Instr.makeFunc]
   ·cases h
  |makeMap t res=>exact nC (by rw[ho];rfl) (aoJ hT hr.ok hr.hp hr.nxt ho h) hr hn
  |lookup t x y k=>exact nC (by rw[ho];rfl) (aun hT hr.ok hr.hp hr.nxt hr.fr ho h) hr hn
  |mapUpdate t x y z=>exact nC (by rw[ho];rfl) (aey hT hr.ok hr.hp hr.nxt hr.fr ho h) hr hn
  |call cc=>
   obtain⟨callee,args,argTypes⟩:=cc;cases callee with
   |builtin b=>
    cases b with
    |append=>exact nC (by rw[ho];rfl) (aum hT hr.ok hr.hp hr.nxt hr.fr ho h) hr hn
    |unsafeSliceData=>exact nC (by rw[ho];rfl) (aez hT hr.ok hr.hp hr.nxt hr.fr ho h) hr hn
    |unsafeString=>exact nC (by rw[ho];rfl) (Ua hT hr.ok hr.hp hr.nxt hr.fr ho h) hr hn
    |len=>rw[ho]at hq;exact absurd rfl hq
    |min=>rw[ho]at hq;exact absurd rfl hq
    |max=>rw[ho]at hq;exact absurd rfl hq
    |_=>
     obtain⟨dst,op,ty,pos,after,guard⟩:=o;simp only at ho;subst ho;simp[dX,jV]at h
   |invoke x m=>
    simp_all [dX]
   |value f=>
    obtain⟨dst,op,ty,pos,after,guard⟩:=o;simp only at ho;subst ho;simp only[dX]at h;refine⟨qK _ c.w _, ?_⟩;rw[xF rfl];have h2:=hcall b0 rd _ _ dst st K r h c a ats (a.eval f) (args.map a.eval) hr (dJ hr.fr f) (by
     have:=bD.map_eval (c:=c) hr.fr args.toList;simpa using this) ⟨dst,.call {callee:=.value f,args:=args,argTypes:=argTypes},ty,pos,after,guard⟩ next Q hn
    exact h2
  |_=>
   obtain⟨dst,op,ty,pos,after,guard⟩:=o;simp only at ho;subst ho
   first
    |(simp[ik,jK]at hq;done)
    |(simp[dX]at h;done)
theorem Jn (ops:Array Oper) (j d:Nat) (h:(ops[j]?).bind (·.dst)=some d) (tmps:Array Value):yielded ops tmps j=(match tmps[d]? with|some (.bool b)=>some b|_=>none):=by
 grind [yielded]
theorem ND (hT:TOk P T) {cl:Bool} {call:gq R} (hcall:lV P W0 n call) (ops:Array Oper) {K:St->Option R} {Q:Exit->Act->World->Prop}: ∀(l:List Oper) (c:Cx) (st:St) (a:Act),gZ T cl call ops K l st=some r->iO W0 b0 rd c st a ats->
  (∀c' st' a',K st'=some r->iO W0 b0 rd c' st' a' ats->c.Mono c'->Q .normal a' c'.w)->wpListIn (FW rd) n P ops Q l a c.w
 |[],c,st,a,h,hr,hQ=>by
  simp only[gZ]at h;exact hQ c st a h hr (Cx.Mono.refl c)
 |o::l,c,st,a,h,hr,hQ=>by
  simp only[gZ]at h;have step: ∀(c:Cx) (st:St) (a:Act),iO W0 b0 rd c st a ats->(∀c' st' a',K st'=some r->iO W0 b0 rd c' st' a' ats->c.Mono c'->Q .normal a' c'.w)->dX T cl call o st (fun v st=>gZ T cl call ops K l (st.put o.dst v))=some r->
    o.wpIn (FW rd) n P a c.w (wpListIn (FW rd) n P ops Q l) Q:=fun c st a hr hQ h=>
   UE hT hcall h hr fun c' z u st' h1 h2 h3 h4=>ND hT hcall ops l c' (st'.put o.dst z) (a.put o.dst u) h1 (h2.put h3) fun c'' st'' a'' k1 k2 k3=>hQ c'' st'' a'' k1 k2 (h4.trans k3)
  have skip: ∀(st:St),iO W0 b0 rd c st a ats->gZ T cl call ops K l (st.put o.dst (.tup []))=some r->(∀f,o.about P c.w a.eval=some f->(FW rd).fn f)/\wpListIn (FW rd) n P ops Q l (a.put o.dst undef) c.w:=fun st hr h=>
   ⟨qK o c.w _,ND hT hcall ops l c (st.put o.dst (.tup [])) (a.put o.dst undef) h (hr.put (by simp only[bP];exact⟨#[],rfl,by simp[bD]⟩)) hQ⟩
  simp only[wpListIn];cases hg:o.guard with
  |none=>
   rw[hg]at h;rw[if_pos (by simp[Region.wanted,hg])]
   grind
  |some jw=>
   obtain⟨j,want⟩:=jw;rw[hg]at h;simp only at h;split at h
   ·cases h
   ·rename_i d hd
    have hy:=Jn ops j d hd a.tmps;have hsl:=hr.fr.getD d;have hsz:=bD.length _ _ hr.fr;rw[Array.length_toList]at hsz;split at h
    ·rename_i b hb
     rw[hb]at hsl;simp only[bP]at hsl;have hv:=hsl.bool_inv;have hdl:d<a.tmps.size:=by
      grind
     have hv2:a.tmps[d]? =some (.bool b):=by
      simp_all
     rw[hv2]at hy;simp only at hy;have hself:a.put (some d) (.bool b)=a:=by
      simp only[Act.put];obtain⟨hh1,hh2⟩:=Array.getElem?_eq_some_iff.1 hv2;have:a.tmps.setIfInBounds d (.bool b)=a.tmps:=by
       grind
      rw[this]
     have hr2:iO W0 b0 rd c (st.put (some d) (.val .bool b)) a ats:=by
      have:=hr.put (dst:=some d) (z:=.val .bool b) (v:=.bool b) (by simp_all [bP]);rwa [hself]at this
     cases b<;>cases want<;>(try simp only[cond_true,cond_false]at h)
     ·rw[if_pos (by simp[Region.wanted,hg,hy])]
      grind
     ·rw[if_neg (by simp[Region.wanted,hg,hy])];exact skip _ hr2 h
     ·rw[if_neg (by simp[Region.wanted,hg,hy])];exact skip _ hr2 h
     ·rw[if_pos (by simp[Region.wanted,hg,hy])]
      grind
    ·rename_i hb
     rw[hb]at hsl;simp only[bP]at hsl;obtain⟨vs,hv,_⟩:=hsl;have hy2:yielded ops a.tmps j=none:=by
      rw[hy];cases he:a.tmps[d]? with
      |none=>rfl
      |some x=>
       simp_all
     rw[if_neg (by simp[Region.wanted,hg,hy2])];exact skip st hr h
    ·cases h
end
end
section
open List renaming map_cons → ak, mem_cons_of_mem → au
open Nat renaming le_refl → ae
open Go.RowKit
structure Cx.Keeps (c c':Cx) (l:List Nat):Prop where
 free: ∀b,c.free b->c'.free b/\c'.w.heap[b]? =c.w.heap[b]?
 ref: ∀id∈l,c.known id->c'.known id
 obj: ∀id∈l,∀o',dK c'.hp id=some o'-> ∃o,dK c.hp id=some o/\o.like (c.mu id) o' (c'.mu id)
theorem Cx.Keeps.sub {c c':Cx} {l m:List Nat} (h:c.Keeps c' l) (hs: ∀i∈m,i∈l):c.Keeps c' m:=⟨h.free,fun i hi=>h.ref i (hs i hi),fun i hi=>h.obj i (hs i hi)⟩
theorem Cx.Keeps.left {c c':Cx} {l m:List Nat} (h:c.Keeps c' (l++m)):c.Keeps c' l:=h.sub fun i hi=>List.mem_append_left _ hi
theorem Cx.Keeps.right {c c':Cx} {l m:List Nat} (h:c.Keeps c' (l++m)):c.Keeps c' m:=h.sub fun i hi=>List.mem_append_right _ hi
mutual
theorem bP.keeps {c c':Cx}: ∀(v:bK) (x:Value),c.Keeps c' (refs v)->bP c v x->bP c' v x
 |.undef,_,_,_=>by simp[bP]
 |.val t x,v,h,hv=>by
  simp only[bP]at hv ⊢;exact⟨fun e=>let⟨cs,h1,h2⟩:=hv.1 e;⟨cs,h1,eY.mono h.free t x _ h2⟩,fun e=>eY.mono h.free t x _ (hv.2 e)⟩
 |.nils,_,_,hv=>by assumption
 |.emp,_,_,hv=>by assumption
 |.lst t x b,v,h,hv=>by
  simp only[bP]at hv ⊢;exact⟨⟨fun e=>let⟨cs,h1,h2⟩:=hv.1.1 e;⟨cs,h1,eY.mono h.free (.list t) x _ h2⟩,fun e=>eY.mono h.free (.list t) x _ (hv.1.2 e)⟩,hv.2⟩
 |.nilp,_,_,hv=>by assumption
 |.nilfn,_,_,hv=>by assumption
 |.tup l,v,h,hv=>by simp only[bP]at hv ⊢;obtain⟨vs,h1,h2⟩:=hv;exact⟨vs,h1,bD.keeps l _ (by simpa [refs] using h) h2⟩
 |.agg l,v,h,hv=>by simp only[bP]at hv ⊢;obtain⟨vs,h1,h2,h3⟩:=hv;exact⟨vs,h1,bD.keeps l _ (by simpa [refs] using h) h2,h3⟩
 |.cellp t x,v,h,hv=>by
  simp only[bP]at hv ⊢;obtain⟨b,o,zs,h1,h2,h3,h4⟩:=hv;exact⟨b,o,zs,h1,(h.free b h2).1,h3.of_block (h.free b h2).2,eY.mono h.free t x _ h4⟩
 |.ptr id off,v,h,hv=>by
  simp only[bP]at hv ⊢;obtain⟨hone,hv⟩:=hv;refine⟨hone,h.ref id (by simp[refs]) hv.1,fun t cs hc=> ?_⟩;obtain⟨o,h1,h2⟩:=h.obj id (by simp[refs]) _ hc;cases o<;>simp only[dI.like]at h2;simp_all
 |.slf id,v,h,hv=>by
  simp only[bP]at hv ⊢;obtain⟨hone,hv⟩:=hv;refine⟨hone,h.ref id (by simp[refs]) hv.1,fun t cs hc=> ?_⟩;obtain⟨o,h1,h2⟩:=h.obj id (by simp[refs]) _ hc;cases o<;>simp only[dI.like]at h2;simp_all
 |.sd id ver,v,h,hv=>by
  simp only[bP]at hv ⊢;obtain⟨hone,hv⟩:=hv;refine⟨hone,h.ref id (by simp[refs]) hv.1,fun t u xs hc=> ?_⟩;obtain⟨o,h1,h2⟩:=h.obj id (by simp[refs]) _ hc;cases o with
  |arr t' v' xs'=>
   grind [dI.like]
  |box _ _=>simp[dI.like]at h2
  |lp _ _ _ _ _ _ _ _=>simp[dI.like]at h2
  |dead=>simp[dI.like]at h2
  |mp _ _ _=>simp[dI.like]at h2
 |.slc id ver vw,v,h,hv=>by
  simp only[bP]at hv ⊢;obtain⟨hone,hv⟩:=hv;refine⟨hone,h.ref id (by simp[refs]) hv.1,fun t u xs hc=> ?_⟩;obtain⟨o,h1,h2⟩:=h.obj id (by simp[refs]) _ hc;cases o with
  |arr t' v' xs'=>
   grind [dI.like]
  |box _ _=>simp[dI.like]at h2
  |lp _ _ _ _ _ _ _ _=>simp[dI.like]at h2
  |dead=>simp[dI.like]at h2
  |mp _ _ _=>simp[dI.like]at h2
 |.ep id ver i off,v,h,hv=>by
  simp only[bP]at hv ⊢;obtain⟨hone,hv⟩:=hv;refine⟨hone,h.ref id (by simp[refs]) hv.1,fun t u xs hc=> ?_⟩;obtain⟨o,h1,h2⟩:=h.obj id (by simp[refs]) _ hc;cases o with
  |arr t' v' xs'=>
   grind [dI.like]
  |box _ _=>simp[dI.like]at h2
  |lp _ _ _ _ _ _ _ _=>simp[dI.like]at h2
  |dead=>simp[dI.like]at h2
  |mp _ _ _=>simp[dI.like]at h2
 |.fn f l,v,h,hv=>by simp only[bP]at hv ⊢;obtain⟨vs,h1,h2⟩:=hv;exact⟨vs,h1,bD.keeps l _ (by simpa [refs] using h) h2⟩
 |.mfn f l,v,h,hv=>by simp only[bP]at hv ⊢;obtain⟨vs,h1,h2⟩:=hv;exact⟨vs,h1,bD.keeps l _ (by simpa [refs] using h) h2⟩
 |.mpv id,v,h,hv=>by
  simp only[bP]at hv ⊢;obtain⟨hone,hv⟩:=hv;refine⟨hone,h.ref id (by simp[refs]) hv.1,fun kk vk es hc=> ?_⟩;obtain⟨o,h1,h2⟩:=h.obj id (by simp[refs]) _ hc;cases o<;>simp only[dI.like]at h2;simp_all
 |.yld id,v,h,hv=>by
  simp only[bP]at hv ⊢;obtain⟨hone,hv⟩:=hv;refine⟨hone,h.ref id (by simp[refs]) hv.1,fun f fr ps jy bd ky n p hc=> ?_⟩;obtain⟨o,h1,h2⟩:=h.obj id (by simp[refs]) _ hc;cases o<;>simp only[dI.like]at h2;simp_all
theorem bD.keeps {c c':Cx}: ∀(l:List bK) (xs:List Value),c.Keeps c' (oN l)->bD c l xs->bD c' l xs
 |[],[],_,_=>by simp[bD]
 |v::l,x::xs,h,hv=>by
  simp only[oN]at h;simp only[bD]at hv ⊢;exact⟨bP.keeps v x h.left hv.1,bD.keeps l xs h.right hv.2⟩
 |[],_::_,_,hv=>by simp[bD]at hv
 |_::_,[],_,hv=>by simp[bD]at hv
end
theorem DI.keeps {c c':Cx}: ∀(fs:List (List bK)) (ts:List (Array Value)),c.Keeps c' (zQ fs)->DI c fs ts->DI c' fs ts
 |[],[],_,_=>trivial
 |f::fs,t::ts,h,hh=>by
  simp only[zQ]at h;exact⟨bD.keeps _ _ h.left hh.1,DI.keeps fs ts h.right hh.2⟩
 |[],_::_,_,hh=>hh.elim
 |_::_,[],_,hh=>hh.elim
theorem kS (p:Nat->Bool): ∀(h:gI) (i:Nat),dK (h.filter fun e=>p e.1) i=if p i=true then dK h i else none
 |[],i=>by simp[dK]
 |(k,o)::h,i=>by
  rw[List.filter_cons];by_cases hk:p k=true
  ·simp only[hk,if_true,dY,kS p h i]
   grind
  ·rw[if_neg hk,kS p h i,dY]
   grind
theorem Aw: ∀(h:gI) (i:Nat) (o:dI),dK h i=some o->(i,o)∈h
 |[],i,o,hh=>by simp[dK]at hh
 |(k,o')::h,i,o,hh=>by
  rw[dY]at hh;split at hh
  ·simp_all
  ·exact au _ (Aw h i o hh)
theorem GH: ∀(h:gI) (e:Nat×dI),e∈h-> ∀i∈e.2.refs,i∈DC h
 |[],e,he,i,hi=>by simp at he
 |(k,o)::h,e,he,i,hi=>by
  simp only[DC,List.mem_append];rcases List.mem_cons.1 he with e1|e1
  ·simp_all
  ·right;exact GH h e e1 i hi
theorem yJ {d l:List Nat} (h:Nw d l=true): ∀i∈l,i∉d:=by
 intro i hi hd;have:=List.all_eq_true.1 h i hi;simp only[Bool.not_eq_true',ZY]at this;have h2:d.any (Nat.beq i)=true:=List.any_eq_true.2 ⟨i,hd,by simp⟩;simp_all
theorem Cx.keeps_filter {c:Cx} {p:Nat->Bool} {l:List Nat} (hno: ∀i∈l,i∉((c.hp.filter fun e=> !p e.1).map (·.1))):c.Keeps {c with hp:=c.hp.filter fun e=>p e.1} l:=by
 refine⟨fun b hb=>⟨⟨hb.1, ?_,hb.2.2⟩,rfl⟩,fun i hi hk=> ?_,fun i hi o' ho=> ?_⟩
 ·rintro ⟨i,o,h1,h2⟩;rw[kS]at h1;split at h1
  ·exact hb.2.1 ⟨i,o,h1,h2⟩
  ·cases h1
 ·rcases hk with ⟨o,ho⟩|hk
  ·left;refine⟨o, ?_⟩;rw[kS];split
   ·exact ho
   ·rename_i hp
    exfalso;refine hno i hi (List.mem_map.2 ⟨(i,o),List.mem_filter.2 ⟨Aw _ _ _ ho,by simp[hp]⟩,rfl⟩)
  ·exact .inr hk
 ·rw[kS]at ho;split at ho
  ·exact⟨o',ho,o'.like_refl _⟩
  ·cases ho
section
variable {P:Program} {T:TT} {W0:World} {b0 n:Nat} {rd:Option Nat} {c:Cx} {R:Type} {r:R} {st:St} {a:Act} {ats:List (Array Value)}
theorem UF (c:Cx) (p:Nat->Bool): ∀b,c.out b->({c with hp:=c.hp.filter fun e=>p e.1}:Cx).out b/\({c with hp:=c.hp.filter fun e=>p e.1}:Cx).w.heap[b]? =c.w.heap[b]? :=fun b hb=>⟨⟨hb.1,(by
 rintro ⟨i,o,h1,h2⟩;simp only at h1 h2;rw[kS]at h1;split at h1
 ·exact hb.2.1 ⟨i,o,h1,h2⟩
 ·cases h1),hb.2.2⟩,rfl⟩
theorem Cx.Ok.filter (hc:c.Ok W0) {p:Nat->Bool} (hk:c.Keeps {c with hp:=c.hp.filter fun e=>p e.1} (DC (c.hp.filter fun e=>p e.1))):({c with hp:=c.hp.filter fun e=>p e.1}:Cx).Ok W0:=by
 have sub: ∀i o,dK (c.hp.filter fun e=>p e.1) i=some o->dK c.hp i=some o:=fun i o h=>by
  simp_all [kS]
 refine⟨hc.bel,fun i o ho=> ?_,fun i j o q b h1 h2=>hc.inj i j o q b (sub i o h1) (sub j q h2),hc.mks,fun b hb=>⟨(hc.bar b hb).1,(fun⟨i,o,h1,h2⟩=>(hc.bar b hb).2.1 ⟨i,o,sub i o h1,h2⟩),(hc.bar b hb).2.2⟩,hc.phi⟩;have h0:=hc.obj i o (sub i o ho);have hm:=Aw _ _ _ ho;cases o with
 |box e cs=>
  obtain⟨h1,vs,h2,h3,h4⟩:=h0;exact⟨h1,vs,h2,bD.keeps _ _ (hk.sub fun j hj=>GH _ _ hm j hj) h3,h4⟩
 |arr t ver xs=>
  obtain⟨h0,e,zs,h1,h2,h3⟩:=h0;exact⟨h0,e,zs,h1,gu.mono (eY.mono hk.free t) _ _ h2,h3⟩
 |lp f fr ps jy bd ky n p=>
  obtain⟨h0,h1,L,h2,h3,h4⟩:=h0;exact⟨h0,h1,L,h2,bD.keeps _ _ (hk.sub fun j hj=>GH _ _ hm j hj) h3,h4⟩
 |dead=>trivial
 |mp kk vk es=>exact h0
theorem iO.gc (hr:iO W0 b0 rd c st a ats) {mark:Nat} {v:bK} {u:Value} (hv:bP c v u) {st':St} (h:gc mark v st=some st'):
  ∃c',iO W0 b0 rd c' st' a ats/\bP c' v u/\c.Mono c'/\c'.w=c.w/\st'.stk=st.stk/\st'.fr=st.fr:=by
 obtain⟨fr,stk,hp,nxt⟩:=st;simp only[Go.Proofs.YtldbkoijjlaaeaaGreatDoor.gc]at h;rw[cond_eq_ite]at h;split at h
 ·rename_i hno
  cases h;have hhp:=hr.hp;simp only at hhp;subst hhp;have key: ∀p:Nat->Bool,Nw ((c.hp.filter fun e=> !p e.1).map (·.1)) (refs v++oN fr++zQ stk++DC (c.hp.filter fun e=>p e.1))=true->
    ∃c',iO W0 b0 rd c' ⟨fr,stk,c.hp.filter fun e=>p e.1,nxt⟩ a ats/\bP c' v u/\c.Mono c'/\c'.w=c.w/\stk=stk/\fr=fr:=fun p hno=>by
   have hno':=yJ hno;have hk:=Cx.keeps_filter (c:=c) (p:=p) hno';exact⟨{c with hp:=c.hp.filter fun e=>p e.1},⟨rfl,hr.nxt,hr.ok.filter (p:=p) hk.right,bD.keeps _ _ hk.left.left.right hr.fr,DI.keeps _ _ hk.left.right hr.stk,hr.df,hr.rd⟩,bP.keeps _ _ hk.left.left.left hv,⟨fun _ h=>h,fun b L h=>⟨L,h⟩,ae _,rfl,UF c p⟩,rfl,rfl,rfl⟩
  exact key (fun i=>Nat.blt i mark||ZY (avT (c.hp.filter fun e=> !Nat.blt e.1 mark) 3 (refs v++oN fr++zQ stk++DC (c.hp.filter fun e=>Nat.blt e.1 mark))) i) hno
 ·cases h
theorem aec (f:dI->dI): ∀(h:gI) (i:Nat),dK (h.map fun e=>(e.1,f e.2)) i=(dK h i).map f
 |[],i=>rfl
 |(k,o)::h,i=>by
  simp only[ak,dY,aec f h i];split<;>rfl
def Cx.anew (c:Cx):Cx:={c with hp:=c.hp.map fun e=>(e.1,e.2.anew c.hp)}
theorem dI.anew_blk (h:gI) (o:dI) (l:Loc):(o.anew h).blk l=o.blk l:=by cases o<;>rfl
theorem Cx.anew_get (c:Cx) (i:Nat):dK c.anew.hp i=(dK c.hp i).map (dI.anew c.hp):=aec _ _ _
theorem Cx.anew_free (c:Cx): ∀b,c.free b->c.anew.free b/\c.anew.w.heap[b]? =c.w.heap[b]? :=fun b hb=>⟨⟨hb.1,by
 rintro ⟨i,o,h1,h2⟩;rw[Cx.anew_get]at h1;obtain⟨o',h3,rfl⟩:=Option.map_eq_some_iff.1 h1;rw[dI.anew_blk]at h2;exact hb.2.1 ⟨i,o',h3,h2⟩,hb.2.2⟩,rfl⟩
theorem Cx.anew_out (c:Cx): ∀b,c.out b->c.anew.out b/\c.anew.w.heap[b]? =c.w.heap[b]? :=fun b hb=>⟨⟨hb.1,(by
 rintro ⟨i,o,h1,h2⟩;rw[Cx.anew_get]at h1;obtain⟨o',h3,rfl⟩:=Option.map_eq_some_iff.1 h1;rw[dI.anew_blk]at h2;exact hb.2.1 ⟨i,o',h3,h2⟩),hb.2.2⟩,rfl⟩
theorem Cx.anew_known (c:Cx) {i:Nat} (h:c.known i):c.anew.known i:=by
 rcases h with ⟨o,ho⟩|h
 ·exact .inl ⟨_,by rw[Cx.anew_get,ho];rfl⟩
 ·exact .inr h
theorem Eh {h:gI} {id ver:Nat} (hf:TJ h id ver=true): ∃t xs,dK h id=some (.arr t ver xs):=by
 simp only[TJ,aDu]at hf
 grind
mutual
theorem bP.anew {c:Cx}: ∀(v:bK) (x:Value),bP c v x->bP c.anew (Go.Proofs.YtldbkoijjlaaeaaGreatDoor.anew c.hp v) x
 |.undef,_,_=>by simp[bP,Go.Proofs.YtldbkoijjlaaeaaGreatDoor.anew]
 |.val t x,v,hv=>by
  simp only[bP,Go.Proofs.YtldbkoijjlaaeaaGreatDoor.anew]at hv ⊢;exact⟨fun e=>let⟨cs,h1,h2⟩:=hv.1 e;⟨cs,h1,eY.mono c.anew_free t x _ h2⟩,fun e=>eY.mono c.anew_free t x _ (hv.2 e)⟩
 |.nils,_,hv=>by simpa only[bP,Go.Proofs.YtldbkoijjlaaeaaGreatDoor.anew] using hv
 |.emp,_,hv=>by simpa only[bP,Go.Proofs.YtldbkoijjlaaeaaGreatDoor.anew] using hv
 |.lst t x b,v,hv=>by
  simp only[bP,Go.Proofs.YtldbkoijjlaaeaaGreatDoor.anew]at hv ⊢;exact⟨⟨fun e=>let⟨cs,h1,h2⟩:=hv.1.1 e;⟨cs,h1,eY.mono c.anew_free (.list t) x _ h2⟩,fun e=>eY.mono c.anew_free (.list t) x _ (hv.1.2 e)⟩,hv.2⟩
 |.nilp,_,hv=>by simpa only[bP,Go.Proofs.YtldbkoijjlaaeaaGreatDoor.anew] using hv
 |.nilfn,_,hv=>by simpa only[bP,Go.Proofs.YtldbkoijjlaaeaaGreatDoor.anew] using hv
 |.tup l,v,hv=>by simp only[bP,Go.Proofs.YtldbkoijjlaaeaaGreatDoor.anew]at hv ⊢;obtain⟨vs,h1,h2⟩:=hv;exact⟨vs,h1,bD.anew l _ h2⟩
 |.agg l,v,hv=>by simp only[bP,Go.Proofs.YtldbkoijjlaaeaaGreatDoor.anew]at hv ⊢;obtain⟨vs,h1,h2,h3⟩:=hv;exact⟨vs,h1,bD.anew l _ h2,h3⟩
 |.cellp t x,v,hv=>by
  simp only[bP,Go.Proofs.YtldbkoijjlaaeaaGreatDoor.anew]at hv ⊢;obtain⟨b,o,zs,h1,h2,h3,h4⟩:=hv;exact⟨b,o,zs,h1,(c.anew_free b h2).1,h3.of_block (c.anew_free b h2).2,eY.mono c.anew_free t x _ h4⟩
 |.ptr id off,v,hv=>by
  simp only[bP,Go.Proofs.YtldbkoijjlaaeaaGreatDoor.anew]at hv ⊢;obtain⟨hone,hv⟩:=hv;refine⟨hone,c.anew_known hv.1,fun t cs hc=> ?_⟩;rw[Cx.anew_get]at hc;obtain⟨o,h1,h2⟩:=Option.map_eq_some_iff.1 hc;cases o<;>simp only[dI.anew,reduceCtorEq]at h2;exact hv.2 _ _ h1
 |.slf id,v,hv=>by
  simp only[bP,Go.Proofs.YtldbkoijjlaaeaaGreatDoor.anew]at hv ⊢;obtain⟨hone,hv⟩:=hv;refine⟨hone,c.anew_known hv.1,fun t cs hc=> ?_⟩;rw[Cx.anew_get]at hc;obtain⟨o,h1,h2⟩:=Option.map_eq_some_iff.1 hc;cases o<;>simp only[dI.anew,reduceCtorEq]at h2;exact hv.2 _ _ h1
 |.sd id ver,v,hv=>by
  simp only[bP,Go.Proofs.YtldbkoijjlaaeaaGreatDoor.anew]at hv ⊢;rw[cond_eq_ite];split
  ·rename_i hf
   obtain⟨t0,xs0,h0⟩:=Eh hf;simp only[bP];obtain⟨hone,hv⟩:=hv;refine⟨hone,c.anew_known hv.1,fun t u xs hc=>⟨Nat.zero_le _,fun hu=> ?_⟩⟩;exact(hv.2 _ _ _ h0).2 rfl
  ·simp[bP]
 |.slc id ver vw,v,hv=>by
  simp only[bP,Go.Proofs.YtldbkoijjlaaeaaGreatDoor.anew]at hv ⊢;rw[cond_eq_ite];split
  ·rename_i hf
   obtain⟨t0,xs0,h0⟩:=Eh hf;simp only[bP];obtain⟨hone,hv⟩:=hv;refine⟨hone,c.anew_known hv.1,fun t u xs hc=>⟨Nat.zero_le _,fun hu=> ?_⟩⟩;rw[Cx.anew_get,h0]at hc;simp only[Option.map_some,dI.anew,Option.some.injEq,dI.arr.injEq]at hc;obtain⟨e1,_,_⟩:=hc;rw[<-e1];exact(hv.2 _ _ _ h0).2 rfl
  ·simp[bP]
 |.ep id ver i off,v,hv=>by
  simp only[bP,Go.Proofs.YtldbkoijjlaaeaaGreatDoor.anew]at hv ⊢;rw[cond_eq_ite];split
  ·rename_i hf
   obtain⟨t0,xs0,h0⟩:=Eh hf;simp only[bP];obtain⟨hone,hv⟩:=hv;refine⟨hone,c.anew_known hv.1,fun t u xs hc=>⟨Nat.zero_le _,fun hu=> ?_⟩⟩;rw[Cx.anew_get,h0]at hc;simp only[Option.map_some,dI.anew,Option.some.injEq,dI.arr.injEq]at hc;obtain⟨e1,_,_⟩:=hc;rw[<-e1];exact(hv.2 _ _ _ h0).2 rfl
  ·simp[bP]
 |.fn f l,v,hv=>by simp only[bP,Go.Proofs.YtldbkoijjlaaeaaGreatDoor.anew]at hv ⊢;obtain⟨vs,h1,h2⟩:=hv;exact⟨vs,h1,bD.anew l _ h2⟩
 |.mfn f l,v,hv=>by simp only[bP,Go.Proofs.YtldbkoijjlaaeaaGreatDoor.anew]at hv ⊢;obtain⟨vs,h1,h2⟩:=hv;exact⟨vs,h1,bD.anew l _ h2⟩
 |.mpv id,v,hv=>by
  simp only[bP,Go.Proofs.YtldbkoijjlaaeaaGreatDoor.anew]at hv ⊢;obtain⟨hone,hv⟩:=hv;refine⟨hone,c.anew_known hv.1,fun kk vk es hc=> ?_⟩;rw[Cx.anew_get]at hc;obtain⟨o,h1,h2⟩:=Option.map_eq_some_iff.1 hc;cases o<;>simp only[dI.anew,reduceCtorEq]at h2;exact hv.2 _ _ _ h1
 |.yld id,v,hv=>by
  simp only[bP,Go.Proofs.YtldbkoijjlaaeaaGreatDoor.anew]at hv ⊢;obtain⟨hone,hv⟩:=hv;refine⟨hone,c.anew_known hv.1,fun f fr ps jy bd ky n p hc=> ?_⟩;rw[Cx.anew_get]at hc;obtain⟨o,h1,h2⟩:=Option.map_eq_some_iff.1 hc;cases o<;>simp only[dI.anew,reduceCtorEq]at h2;exact hv.2 _ _ _ _ _ _ _ _ h1
theorem bD.anew {c:Cx}: ∀(l:List bK) (xs:List Value),bD c l xs->bD c.anew (zZ c.hp l) xs
 |[],[],_=>by simp[bD,zZ]
 |v::l,x::xs,hv=>by
  simp only[bD,zZ]at hv ⊢;exact⟨bP.anew v x hv.1,bD.anew l xs hv.2⟩
 |[],_::_,hv=>by simp[bD]at hv
 |_::_,[],hv=>by simp[bD]at hv
end
theorem DI.anew {c:Cx}: ∀(fs:List (List bK)) (ts:List (Array Value)),DI c fs ts->DI c.anew (fs.map (zZ c.hp)) ts
 |[],[],_=>trivial
 |f::fs,t::ts,hh=>⟨bD.anew _ _ hh.1,DI.anew fs ts hh.2⟩
 |[],_::_,hh=>hh.elim
 |_::_,[],hh=>hh.elim
theorem iO.anew (hr:iO W0 b0 rd c st a ats): ∃c',iO W0 b0 rd c' (YN st) a ats/\c.Mono c'/\c'.w=c.w:=by
 obtain⟨fr,stk,hp,nxt⟩:=st;have hhp:=hr.hp;simp only at hhp;subst hhp;refine⟨c.anew,⟨rfl,hr.nxt,⟨hr.ok.bel,fun i o ho=> ?_,fun i j o q b h1 h2 h3 h4=> ?_,hr.ok.mks,fun b hb=>(Cx.anew_out c b (hr.ok.bar b hb)).1,hr.ok.phi⟩,bD.anew _ _ hr.fr,DI.anew _ _ hr.stk,hr.df,hr.rd⟩,⟨fun _ h=>h,fun b L h=>⟨L,h⟩,ae _,rfl,Cx.anew_out c⟩,rfl⟩
 ·rw[Cx.anew_get]at ho;obtain⟨o',h1,rfl⟩:=Option.map_eq_some_iff.1 ho;have h0:=hr.ok.obj i o' h1;cases o' with
  |box e cs=>
   obtain⟨h1,vs,h2,h3,h4⟩:=h0;exact⟨h1,vs,h2,bD.anew _ _ h3,h4⟩
  |arr t ver xs=>
   obtain⟨h0,e,zs,h1,h2,h3⟩:=h0;exact⟨h0,e,zs,h1,gu.mono (eY.mono c.anew_free t) _ _ h2,h3⟩
  |lp f fr ps jy bd ky n p=>
   obtain⟨h0,h1,L,h2,h3,h4⟩:=h0;exact⟨h0,h1,L,h2,bD.anew _ _ h3,h4⟩
  |dead=>trivial
  |mp kk vk es=>exact h0
 ·rw[Cx.anew_get]at h1 h2;obtain⟨o1,h5,rfl⟩:=Option.map_eq_some_iff.1 h1;obtain⟨q1,h6,rfl⟩:=Option.map_eq_some_iff.1 h2;rw[dI.anew_blk]at h3 h4;exact hr.ok.inj i j o1 q1 b h5 h6 h3 h4
theorem AA {l:List Nat}: ∀(i:Nat) (fr:List bK) (xs:List Value),bD c fr xs->bD c (HY l i fr) xs
 |i,[],[],_=>by simp[bD,HY]
 |i,v::fr,x::xs,h=>by
  simp only[bD,HY]at h ⊢;refine⟨?_,AA (i+1) fr xs h.2⟩;rw[cond_eq_ite]
  grind [bP]
 |i,[],_::_,h=>by simp[bD]at h
 |i,_::_,[],h=>by simp[bD]at h
end
end
end Go.Proofs.YtldbkoijjlaaeaaGreatDoor
