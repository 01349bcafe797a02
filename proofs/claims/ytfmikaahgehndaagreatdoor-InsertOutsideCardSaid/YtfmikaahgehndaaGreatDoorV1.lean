/- Parts of the proof, joined and shortened by a program: the plain machine, the functions as it prints them, and the mathematics over them. -/
import Derived.Calls
import Derived.Still
import Derived.Orders
import Derived.Laws.Sem
import Derived.Test.YtfmikaahgehndaaGreatDoorProg
import Derived.WalkKit
import Derived.WalkSmall
import Derived.Below
import Derived.Laws.AppendOwn
import Derived.Lib.LaidTab
import Derived.Lib.ItoaNum
import Derived.KernelRfl
import Derived.Laws.StructEq
import Derived.Laws.Slices
import Derived.Laws.Cells
import Derived.Laws.Strings
import Derived.Laws.MakeOwn
import Derived.Laws.BytesString
import Derived.Maps.AppendAt
import Derived.Lib.AppendStr
import Derived.Lib.UnsafeStr
import Derived.MapKept
import Derived.TacticsIn
import Derived.RangeFuncIn
import Derived.RangeFuncLeaves
import Derived.Sort.QuietThIn
set_option linter.unusedVariables false
set_option linter.unusedSimpArgs false
set_option maxRecDepth 100000
set_option maxHeartbeats 4000000
namespace Go.Proofs.YtfmikaahgehndaaGreatDoor
section
inductive Ty where
 |unit
 |bool
 |int (k:IntKind)
 |str
 |list (t:Ty)
 |pair (a b:Ty)
 deriving DecidableEq
@[reducible] def Ty.den:Ty->Type
 |.unit=>Unit
 |.bool=>Bool
 |.int _=>Int
 |.str=>List UInt8
 |.list t=>List t.den
 |.pair a b=>a.den×b.den
def Ty.dflt:(t:Ty)->t.den
 |.unit=>()
 |.bool=>false
 |.int _=>0
 |.str=>[]
 |.list _=>[]
 |.pair a b=>(a.dflt,b.dflt)
def Ty.size:Ty->Nat
 |.unit=>0
 |.pair a b=>a.size+b.size
 |_=>1
def Ty.isAgg:Ty->Bool
 |.unit=>true
 |.pair _ _=>true
 |_=>false
def jX {t':Ty} (t:Ty) (x:t'.den):Option t.den:=if h:t'=t then some (cast (congrArg Ty.den h) x)else none
def Ty.same:(t:Ty)->t.den->t.den->Bool
 |.unit,_,_=>true
 |.bool,x,y=>x==y
 |.int _,x,y=>x==y
 |.str,x,y=>x==y
 |.list _,_,_=>false
 |.pair a b,x,y=>a.same x.1 y.1&&b.same x.2 y.2
def sub {α:Type} (l:List α) (lo hi:Int):List α:=(l.take hi.toNat).drop lo.toNat
inductive bG where
 |undef
 |val (t:Ty) (x:t.den)
 |nils
 |nilp
 |nilfn
 |tup (l:List bG)
 |agg (l:List bG)
 |cellp (t:Ty) (x:t.den)
 |ptr (id off:Nat)
 |slc (id ver:Nat) (view:Option (Int×Int))
 |ep (id ver:Nat) (i:Nat) (off:Nat)
 |fn (f:FuncId) (caps:List bG)
 |mfn (f:FuncId) (fst:List bG)
 |mpv (id:Nat)
 |yld (id:Nat)
 |emp
 |lst (t:Ty) (x:List t.den) (nil:Bool)
 |slf (id:Nat)
 |sd (id ver:Nat)
inductive Ex where
 |normal
 |exit (id:Nat)
 |goto (l:Nat)
 |ret
inductive dD where
 |box (t:TypeId) (cells:List bG)
 |arr (t:Ty) (ver:Nat) (xs:List t.den)
 |lp (f:FuncId) (fr:List bG) (ps:List Nat) (iY bd:Code) (key:Option Nat) (state:Nat) (pend:Option Ex)
 |dead
 |mp (kk vk:IntKind) (es:List (Int×Int))
abbrev gz:=List (Nat×dD)
def dH:gz->Nat->Option dD
 |[],_=>none
 |(k,o)::h,i=>bif k==i then some o else dH h i
def iV:gz->Nat->dD->gz
 |[],_,_=>[]
 |(k,o)::h,i,o'=>bif k==i then(k,o')::h else(k,o)::iV h i o'
structure St where
 fr:List bG
 stk:List (List bG)
 hp:gz
 nxt:Nat
inductive TK where
 |bool|str|other
 |int (k:IntKind)
 |slice (e:TypeId)
 |struct (fs:List (Nat×TypeId))
 |fn
 |ptr (e:TypeId)
 |map (k e:TypeId)
structure TI where
 known:Bool
 k:TK
 size:Nat
 bytes:Nat
 ty:Option Ty
 zero:List bG
 eq:Bool
 bld:Bool:=false
 keep:Bool:=false
instance:Inhabited TI:=⟨⟨false,.other,0,0,none,[],false,false,false⟩⟩
inductive TT where
 |nil
 |node (k:Nat) (i:TI) (l r:TT)
def TT.at:TT->TypeId->TI
 |.nil,_=>default
 |.node k i l r,t=>bif Nat.beq k t then i else bif Nat.blt t k then l.at t else r.at t
def TI.isAgg (i:TI):Bool:=match i.k with|.struct _=>true|_=>false
def flat:(t:Ty)->t.den->List bG
 |.unit,_=>[]
 |.pair a b,x=>flat a x.1++flat b x.2
 |.bool,x=>[.val .bool x]
 |.int k,x=>[.val (.int k) x]
 |.str,x=>[.val .str x]
 |.list t,x=>[.val (.list t) x]
def bG.cells:bG->Option (List bG)
 |.val t x=>some (flat t x)
 |.agg l=>some l
 |.undef=>none
 |.tup _=>none
 |v=>some [v]
def leaf (t:Ty):bG->Option t.den
 |.val t' x=>jX t x
 |.nils=>match t with|.list _=>some []|_=>none
 |_=>none
def mk:(t:Ty)->List bG->Option (t.den×List bG)
 |.unit,l=>some ((),l)
 |.pair a b,l=>
  match mk a l with
  |some (x,l1)=>match mk b l1 with
   |some (y,l2)=>some ((x,y),l2)
   |none=>none
  |none=>none
 |.bool,c::l=>match leaf .bool c with|some x=>some (x,l)|none=>none
 |.int k,c::l=>match leaf (.int k) c with|some x=>some (x,l)|none=>none
 |.str,c::l=>match leaf .str c with|some x=>some (x,l)|none=>none
 |.list t,c::l=>match leaf (.list t) c with|some x=>some (x,l)|none=>none
 |_,[]=>none
def Gt (t:Ty) (l:List bG):Option t.den:=
 match mk t l with
 |some (x,[])=>some x
 |_=>none
def bG.isNils:bG->Bool
 |.nils=>true
 |_=>false
def norm (i:TI) (l:List bG):bG:=
 match i.k with
 |.struct _=>match i.ty with
  |some t=>match Gt t l with
   |some x=>bif i.keep&&l.any bG.isNils then .agg l else .val t x
   |none=>.agg l
  |none=>.agg l
 |_=>match l with
  |[v]=>v
  |_=>.undef
def Zn {α:Type} (xs:List α):Option (Int×Int)->List α
 |none=>xs
 |some (lo,hi)=>sub xs lo hi
def AP (hp:gz) (t:Ty) (id ver:Nat) (vw:Option (Int×Int)):Option (List t.den):=
 match dH hp id with
 |some (.arr t' v xs)=>bif v==ver then(match jX (.list t) (t':=.list t') xs with|some ys=>some (Zn ys vw)|none=>none)else none
 |_=>none
def bG.as (hp:gz) (t:Ty):bG->Option t.den
 |.val t' x=>jX t x
 |.nils=>match t with|.list _=>some []|_=>none
 |.emp=>match t with|.list _=>some []|_=>none
 |.lst e xs _=>jX (t':=.list e) t xs
 |.slc id ver vw=>match t with|.list e=>AP hp e id ver vw|_=>none
 |.agg l=>bif t.isAgg then Gt t l else none
 |_=>none
def WG:(t:Ty)->t.den->Nat->bG
 |.pair a _,x,0=>.val a x.1
 |.pair _ b,x,n+1=>WG b x.2 n
 |_,_,_=>.undef
def P5:(t:Ty)->t.den->Nat->bG
 |.pair a _,x,0=>.cellp a x.1
 |.pair _ b,x,n+1=>P5 b x.2 n
 |_,_,_=>.undef
def wz:Value->bG
 |.bool b=>.val .bool b
 |.int k n=>.val (.int k) n
 |.string s=>.val .str s.data.toList
 |.slice none 0 0=>.nils
 |.pointer none=>.nilp
 |.nilFunc=>.nilfn
 |_=>.undef
def Wu:Value->bG
 |.agg cs=>bif cs.toList.all Value.oneCell' then .agg (cs.toList.map wz)else .undef
 |.tuple _=>.undef
 |v=>wz v
def gK (fr:List bG):Operand->bG
 |.tmp t=>fr.getD t .undef
 |.const v=>Wu v
 |.global _=>.undef
 |.func f=>.fn f []
def ni:Nat:=140737488355328
def bU (k:IntKind) (a b:Int):Int:=k.wrap (a+b)
def ed (k:IntKind) (a b:Int):Int:=k.wrap (a-b)
def akM (k:IntKind) (a b:Int):Int:=k.wrap (a*b)
def aBb (k:IntKind) (a b:Int):Int:=k.wrap (a.tdiv b)
def al5 (op:BinOp) (k:IntKind) (a b:Int):Int:=
 let x:=BitVec.ofInt k.bits a
 let y:=BitVec.ofInt k.bits b
 match op with
 |.and=>k.wrap (x&&& y).toNat
 |.or=>k.wrap (x|||y).toNat
 |.xor=>k.wrap (x^^^y).toNat
 |_=>k.wrap (x&&& ~~~y).toNat
def avm (k:IntKind) (a b:Int):Int:=k.wrap (a*2^(min b.toNat k.bits))
def avn (k:IntKind) (a b:Int):Int:=a.fdiv (2^(min b.toNat k.bits))
def iw (a b:Int):Bool:=decide (a<b)
def leI (a b:Int):Bool:=decide (a<=b)
def bM (a b:Int):Bool:=a==b
def bC {α:Type} (l:List α):Int:=(l.length:Int)
def NZ (a b:Nat):Bool:=decide (a<b)
def eqN (a b:Nat):Bool:=Nat.beq a b
def leN (a b:Nat):Bool:=decide (a<=b)
def HY (a b:Int):Int:=if b<a then b else a
def Bf (a b:Int):Int:=if b>a then b else a
def bV (s:List UInt8) (i:Int):Int:=((s.getD i.toNat 0).toNat:Int)
def dN {α:Type} (l:List α) (d:α) (i:Int):α:=l.getD i.toNat d
def gU (a b:List UInt8):Bool:=a==b
def ltS (a b:List UInt8):Bool:=Op.bytesLess a b
def bI (l:List UInt8):List Int:=l.map fun b=>(b.toNat:Int)
def ofBytes (l:List Int):List UInt8:=l.map fun n=>UInt8.ofNat n.toNat
def aD5 (l:List UInt8):Bool:=decide (l.length<=ni)
def eH {α:Type} (l:List α) (bytes:Nat):Bool:=decide (l.length*bytes<=ni)
def gI {α:Type} (l:List α) (i:Int):Bool:=decide (0<=i)&&decide (i<(l.length:Int))
def fF (n lo hi:Int):Bool:=decide (0<=lo)&&(decide (lo<=hi)&&decide (hi<=n))
def ik {α:Type} (l:List α) (i:Nat) (x:α):List α:=l.set i x
def yB (op:BinOp) (k:IntKind) (a b:Int):bG:=
 match op with
 |.add=>.val (.int k) (bU k a b)
 |.sub=>.val (.int k) (ed k a b)
 |.mul=>.val (.int k) (akM k a b)
 |.eql=>.val .bool (bM a b)
 |.neq=>.val .bool (!bM a b)
 |.lss=>.val .bool (iw a b)
 |.leq=>.val .bool (leI a b)
 |.gtr=>.val .bool (iw b a)
 |.geq=>.val .bool (leI b a)
 |_=>.undef
def We (op:BinOp) (a b:List UInt8):bG:=
 match op with
 |.eql=>.val .bool (gU a b)
 |.neq=>.val .bool (!gU a b)
 |.lss=>.val .bool (ltS a b)
 |.leq=>.val .bool (ltS a b||gU a b)
 |.gtr=>.val .bool (!(ltS a b||gU a b))
 |.geq=>.val .bool (!ltS a b)
 |_=>.undef
def TT.eqOk (T:TT):Nat->TypeId->Bool
 |0,_=>false
 |n+1,t=>(T.at t).known&&(match(T.at t).k with
  |.bool|.int _|.str=>true
  |.struct fs=>(T.at t).eq&&fs.all fun f=>T.eqOk n f.2
  |_=>false)
section
variable {R:Type}
def mg (b:Bool) (k:Option R):Option R:=bif b then k else none
def aah (T:TT) (op:BinOp) (t:TypeId) (x y:bG) (K:bG->Option R):Option R:=
 match x,y with
 |.val (.int k) a,.val (.int k') b=>
  if k=k' then
   match op with
   |.quo=>mg (!bM b 0) (K (.val (.int k) (aBb k a b)))
   |.rem=>mg (!bM b 0) (K (.val (.int k) (a.tmod b)))
   |.add|.sub|.mul|.eql|.neq|.lss|.leq|.gtr|.geq=>K (yB op k a b)
   |.and|.or|.xor|.andNot=>K (.val (.int k) (al5 op k a b))
   |.shl=>mg (leI 0 b) (K (.val (.int k) (avm k a b)))
   |.shr=>mg (leI 0 b) (K (.val (.int k) (avn k a b)))
  else
   match op with
   |.shl=>mg (leI 0 b) (K (.val (.int k) (avm k a b)))
   |.shr=>mg (leI 0 b) (K (.val (.int k) (avn k a b)))
   |_=>none
 |.val .bool a,.val .bool b=>
  bif(T.at t).known then
   match(T.at t).k,op with
   |.bool,.eql=>K (.val .bool (a==b))
   |.bool,.neq=>K (.val .bool (!(a==b)))
   |_,_=>none
  else none
 |.val .str a,.val .str b=>
  match op with
  |.add=>mg (decide (a.length+b.length<=ni)) (K (.val .str (a++b)))
  |.eql|.neq|.lss|.leq|.gtr|.geq=>K (We op a b)
  |_=>none
 |.lst _ _ b,.nils=>bif(T.at t).known then(match(T.at t).k,op with
  |.slice _,.eql=>K (.val .bool b)
  |.slice _,.neq=>K (.val .bool (!b))
  |_,_=>none)else none
 |x,y=>
  bif !T.eqOk 6 t then none else
  match(T.at t).k,(T.at t).ty with
  |.struct _,some ty=>
   match x.as [] ty,y.as [] ty,op with
   |some a,some b,.eql=>K (.val .bool (ty.same a b))
   |some a,some b,.neq=>K (.val .bool (!ty.same a b))
   |_,_,_=>none
  |_,_=>none
def DR:List (Int×Int)->Int->Option Int
 |[],_=>none
 |(k,v)::l,a=>bif bM a k then some v else DR l a
def lV (l:List (Int×Int)) (a:Int):Int:=match DR l a with
 |some v=>v
 |none=>0
def apu (l:List (Int×Int)) (a:Int):Bool:=match DR l a with
 |some _=>true
 |none=>false
def tN:List (Int×Int)->Int->Int->List (Int×Int)
 |[],a,b=>[(a,b)]
 |(k,v)::l,a,b=>bif bM a k then(k,b)::l else(k,v)::tN l a b
def TT.mapOf (T:TT) (t:TypeId):Option (IntKind×IntKind):=bif(T.at t).known then(match(T.at t).k with
 |.map k e=>bif(T.at k).known&&(T.at e).known then(match(T.at k).k,(T.at e).k with
  |.int a,.int b=>some (a,b)
  |_,_=>none)else none
 |_=>none)else none
def aqv (hp:gz) (x y:bG):Bool:=match x with
 |.slc id ver _=>(match y with
  |.nils=>(match dH hp id with
   |some (.arr _ v ys)=>v==ver&&NZ 0 ys.length
   |_=>false)
  |_=>false)
 |_=>false
def apV (hp:gz) (x y:bG):Bool:=match x with
 |.ptr id _=>(match y with
  |.nilp=>(match dH hp id with
   |some (.box _ _)=>true
   |_=>false)
  |_=>false)
 |_=>false
def PX (T:TT) (hp:gz) (op:BinOp) (t:TypeId) (x y:bG) (K:bG->Option R):Option R:=
 bif aqv hp x y then(bif(T.at t).known then(match(T.at t).k,op with
  |.slice _,.eql=>K (.val .bool false)
  |.slice _,.neq=>K (.val .bool true)
  |_,_=>none)else none)else bif apV hp x y then(bif(T.at t).known then(match(T.at t).k,op with
  |.ptr _,.eql=>K (.val .bool false)
  |.ptr _,.neq=>K (.val .bool true)
  |_,_=>none)else none)else aah T op t x y K
def anS (op:UnOp) (x:bG) (K:bG->Option R):Option R:=
 match op,x with
 |.not,.val .bool b=>K (.val .bool (!b))
 |.neg,.val (.int k) a=>K (.val (.int k) (ed k 0 a))
 |_,_=>none
def DT (cl:Bool) (st:St) (dst:Option Nat):Nat:=bif cl then st.nxt else 1000000*st.stk.length+dst.getD 0
def alloc (cl:Bool) (dst:Option Nat) (o:dD) (st:St) (K:Nat->St->Option R):Option R:=
 match dH st.hp (DT cl st dst)with
 |some _=>none
 |none=>bif st.nxt.ble (DT cl st dst)then K (DT cl st dst) {st with hp:=(DT cl st dst,o)::st.hp,nxt:=bif cl then DT cl st dst+1 else st.nxt}else none
def IM (cs:List bG) (off k:Nat):Option (List bG):=bif(off+k).ble cs.length then some ((cs.drop off).take k)else none
def putCells (cs:List bG) (off:Nat) (vs:List bG):Option (List bG):=
 bif(off+vs.length).ble cs.length then some (cs.take off++vs++cs.drop (off+vs.length))else none
def KI (T:TT) (hp:gz) (t:TypeId) (a:bG) (K:bG->Option R):Option R:=
 bif !(T.at t).known then none else
 match a with
 |.cellp u x=>match(T.at t).ty with
  |some u'=>match jX u' x with
   |some y=>K (.val u' y)
   |none=>none
  |none=>none
 |.ptr id off=>match dH hp id with
  |some (.box _ cs)=>match IM cs off (T.at t).size with
   |some l=>K (norm (T.at t) l)
   |none=>none
  |_=>none
 |.ep id ver i off=>match dH hp id with
  |some (.arr u v xs)=>bif v==ver then
    (bif NZ i xs.length then
     (match IM (flat u (xs.getD i u.dflt)) off (T.at t).size with
     |some l=>K (norm (T.at t) l)
     |none=>none)else none)else none
  |_=>none
 |_=>none
def I9 (T:TT) (st:St) (t:TypeId) (a v:bG) (K:St->Option R):Option R:=
 match v.cells with
 |none=>none
 |some vs=>
  bif(T.at t).known&&vs.length==(T.at t).size then
   match a with
   |.ptr id off=>match dH st.hp id with
    |some (.box bt cs)=>match putCells cs off vs with
     |some cs'=>K {st with hp:=iV st.hp id (.box bt cs')}
     |none=>none
    |_=>none
   |.ep id ver i off=>match dH st.hp id with
    |some (.arr u w xs)=>bif w==ver then
      (bif NZ i xs.length then
       (match putCells (flat u (xs.getD i u.dflt)) off vs with
       |some cs=>match Gt u cs with
        |some x=>K {st with hp:=iV st.hp id (.arr u w (ik xs i x))}
        |none=>none
       |none=>none)else none)else none
    |_=>none
   |_=>none
  else none
def aai (old:gz) (st:St) (a v:bG) (K:St->Option R):Option R:=
 match a,v with
 |.ptr id off,.slc i _ (some _)=>match dH old id with
  |some (.box _ cs0)=>match cs0.getD off .undef with
   |.slc i0 _ none=>bif Nat.beq i0 i&& !Nat.beq i id then
     (match dH st.hp id,dH st.hp i with
     |some (.box bt cs),some (.arr e w xs)=>match cs.getD off .undef with
      |.slc i1 w1 (some (lo,hi))=>bif Nat.beq i1 i&&(w1==w&&lo==0)then
        K {st with hp:=iV (iV st.hp i (.arr e (w+1) (xs.take hi.toNat))) id (.box bt (cs.set off (.slc i (w+1) none)))}else K st
      |_=>K st
     |_,_=>K st)else K st
   |_=>K st
  |_=>K st
 |_,_=>K st
def I4 (T:TT) (fs:List (Nat×TypeId)) (cs:List bG):List (Nat×bG)->Option (List bG)
 |[]=>some cs
 |(i,v)::rest=>match fs[i]?,v.cells with
  |some (off,ft),some vs=>bif(T.at ft).known&&vs.length==(T.at ft).size then
    (match putCells cs off vs with
    |some cs'=>I4 T fs cs' rest
    |none=>none)else none
  |_,_=>none
def I7 (e:Ty) (xs:List e.den):List (Nat×bG)->Option (List e.den)
 |[]=>some xs
 |(i,v)::rest=>match v.as [] e with
  |some x=>bif NZ i xs.length then I7 e (xs.set i x) rest else none
  |none=>none
def intOf:bG->Option Int
 |.val (.int _) n=>some n
 |_=>none
def bound (d:Int):Option bG->Option Int
 |none=>some d
 |some v=>intOf v
def TT.rowOf (T:TT) (t:TypeId) (size:Nat):Bool:=
 match(T.at t).k with
 |.slice e=>(T.at t).known&&((T.at e).known&&((T.at e).size==size&&(NZ 0 size&&NZ 0 (T.at e).bytes)))
 |_=>false
def TT.isPtr (T:TT) (t:TypeId):Bool:=
 match(T.at t).k with
 |.ptr _=>(T.at t).known
 |_=>false
def TT.isBytes (T:TT) (t:TypeId):Bool:=
 match(T.at t).k with
 |.ptr e=>(T.at t).known&&((T.at e).known&&(match(T.at e).ty with|some (.int .u8)=>Nat.beq (T.at e).size 1|_=>false))
 |_=>false
def TT.isStr (T:TT) (t:TypeId):Bool:=
 match(T.at t).k with
 |.str=>(T.at t).known
 |_=>false
def I8 (T:TT) (hp:gz) (t:TypeId) (x:bG) (lo hi mx:Option bG) (K:bG->Option R):Option R:=
 match x,mx with
 |.val .str s,none=>match bound 0 lo,bound (bC s) hi with
  |some l,some h=>mg (T.isStr t&&fF (bC s) l h) (K (.val .str (sub s l h)))
  |_,_=>none
 |.val (.list e) xs,none=>match bound 0 lo,bound (bC xs) hi with
  |some l,some h=>mg (T.rowOf t e.size&&fF (bC xs) l h) (K (.val (.list e) (sub xs l h)))
  |_,_=>none
 |.val (.list e) xs,some m=>match bound 0 lo,hi.bind intOf,intOf m with
  |some l,some h,some k=>mg (T.rowOf t e.size&&(l==0&&(h==0&&k==0))) (K .emp)
  |_,_,_=>none
 |.nils,none=>match bound 0 lo,bound 0 hi with
  |some l,some h=>mg (T.rowOf t (T.at (match(T.at t).k with|.slice e=>e|_=>0)).size&&(bM l 0&&bM h 0)) (K .nils)
  |_,_=>none
 |.slc id ver none,none=>match dH hp id with
  |some (.arr e v xs)=>bif v==ver then
    (match bound 0 lo,bound (bC xs) hi with
    |some l,some h=>mg (T.rowOf t e.size&&fF (bC xs) l h) (K (.slc id ver (some (l,h))))
    |_,_=>none)else none
  |_=>none
 |_,_=>none
def TT.fieldAt (T:TT) (t:TypeId) (f:Nat):Option (Nat×TypeId):=
 match(T.at t).k with
 |.struct fs=>bif(T.at t).known then
   (match fs[f]? with
   |some (off,ft)=>bif(T.at ft).known&&NZ 0 (T.at ft).size then some (off,ft)else none
   |none=>none)else none
 |_=>none
def tu (T:TT) (hp:gz) (t:TypeId) (x:bG) (f:Nat) (K:bG->Option R):Option R:=
 match T.fieldAt t f with
 |some (off,_)=>match x with
  |.cellp u x=>match(T.at t).ty with
   |some u'=>match jX u' x with
    |some y=>K (P5 u' y f)
    |none=>none
   |none=>none
  |.ptr id o=>match dH hp id with
   |some (.box _ _)=>K (.ptr id (o+off))
   |_=>none
  |.ep id ver i o=>match dH hp id with
   |some (.arr _ v _)=>bif v==ver then K (.ep id ver i (o+off))else none
   |_=>none
  |_=>none
 |none=>none
def I5 (T:TT) (t:TypeId) (x:bG) (f:Nat) (K:bG->Option R):Option R:=
 match T.fieldAt t f with
 |some (off,ft)=>match x with
  |.val u x=>match(T.at t).ty with
   |some u'=>match jX u' x with
    |some y=>K (WG u' y f)
    |none=>none
   |none=>none
  |.agg l=>match IM l off (T.at ft).size with
   |some cs=>K (norm (T.at ft) cs)
   |none=>none
  |_=>none
 |none=>none
def tC (T:TT) (hp:gz) (t:TypeId) (x i:bG) (K:bG->Option R):Option R:=
 match intOf i with
 |none=>none
 |some i=>match x with
  |.val (.list e) xs=>mg (T.rowOf t e.size&&gI xs i) (K (.cellp e (dN xs e.dflt i)))
  |.slc id ver vw=>match dH hp id with
   |some (.arr e v xs)=>bif v==ver then
     (match vw with
     |none=>mg (T.rowOf t e.size&&gI xs i) (K (.ep id ver i.toNat 0))
     |some (lo,hi)=>mg (T.rowOf t e.size&&(decide (0<=i)&&iw (lo+i) hi)) (K (.ep id ver (lo+i).toNat 0)))else none
   |_=>none
  |_=>none
def aaj (T:TT) (hp:gz) (t:TypeId) (x:bG) (K:bG->Option R):Option R:=
 match x with
 |.val .str s=>mg (T.isStr t) (K (.val (.int .i64) (bC s)))
 |.val (.list e) xs=>mg (T.rowOf t e.size) (K (.val (.int .i64) (bC xs)))
 |.nils=>mg (T.rowOf t (T.at (match(T.at t).k with|.slice e=>e|_=>0)).size) (K (.val (.int .i64) 0))
 |.slc id ver vw=>match dH hp id with
  |some (.arr e v xs)=>bif v==ver then
    mg (T.rowOf t e.size) (match vw with
    |none=>K (.val (.int .i64) (bC xs))
    |some (lo,hi)=>K (.val (.int .i64) (hi-lo)))else none
  |_=>none
 |_=>none
def IZ (T:TT) (cl:Bool) (dst:Option Nat) (t:TypeId) (s x:bG) (st:St) (K:bG->St->Option R):Option R:=
 match(T.at t).k with
 |.slice et=>match(T.at et).ty with
  |some e=>match x.as st.hp (.list e)with
   |none=>none
   |some ys=>match s with
    |.nils=>mg (T.rowOf t e.size&&eH ys (T.at et).bytes) (alloc cl dst (.arr e 0 ys) st fun id st=>K (.slc id 0 none) st)
    |.emp=>mg (T.rowOf t e.size&&eH ys (T.at et).bytes) (bif NZ 0 ys.length then alloc cl dst (.arr e 0 ys) st fun id st=>K (.slc id 0 none) st else K .emp st)
    |.slc id ver vw=>match dH st.hp id with
     |some (.arr e' v xs)=>bif v==ver then
       (match jX (t':=.list e') (.list e) xs with
       |some xs=>match vw with
        |none=>mg (T.rowOf t e.size&&eH (xs++ys) (T.at et).bytes) (K (.slc id (ver+1) none) {st with hp:=iV st.hp id (.arr e (ver+1) (xs++ys))})
        |some (lo,hi)=>mg (T.rowOf t e.size&&(bM lo 0&&eH (xs.take hi.toNat++ys) (T.at et).bytes))
          (K (.slc id (ver+1) none) {st with hp:=iV st.hp id (.arr e (ver+1) (xs.take hi.toNat++ys))})
       |none=>none)else none
     |_=>none
    |_=>none
  |none=>none
 |_=>none
def zG (T:TT) (cl:Bool) (dst:Option Nat) (t t':TypeId) (s x:bG) (st:St) (K:bG->St->Option R):Option R:=
 match(T.at t).k,x with
 |.slice et,.val .str y=>match(T.at et).ty with
  |some (.int .u8)=>bif T.isStr t'&&T.rowOf t 1&&Nat.beq (T.at et).bytes 1 then
    (match s with
    |.nils=>mg (aD5 y) (alloc cl dst (.arr (.int .u8) 0 (bI y)) st fun id st=>K (.slc id 0 none) st)
    |.slc id ver vw=>match dH st.hp id with
     |some (.arr (.int .u8) v xs)=>bif v==ver then
       (match vw with
       |none=>mg (eH (xs++bI y) 1) (K (.slc id (ver+1) none) {st with hp:=iV st.hp id (.arr (.int .u8) (ver+1) (xs++bI y))})
       |some _=>none)else none
     |_=>none
    |_=>none)else none
  |_=>none
 |_,_=>none
def zH (T:TT) (s d:TypeId) (x:bG) (hp:gz) (K:bG->Option R):Option R:=
 bif !((T.at s).known&&(T.at d).known)then none else
 match(T.at s).k,(T.at d).k,x with
 |.int _,.int k,.val (.int _) n=>K (.val (.int k) (k.wrap n))
 |.str,.str,.val .str s=>K (.val .str s)
 |.slice e,.str,x=>match(T.at e).k with
  |.int .u8=>match x.as hp (.list (.int .u8))with
   |some xs=>mg (T.at e).known (K (.val .str (ofBytes xs)))
   |none=>none
  |_=>none
 |_,_,_=>none
abbrev fV (R:Type):=bG->List bG->Option Nat->St->(bG->St->Option R)->Option R
def Az (k:IntKind):List bG->Option (List Int)
 |[]=>some []
 |.val (.int k') a::l=>if k=k' then match Az k l with
   |some l=>some (a::l)
   |none=>none
  else none
 |_=>none
def jV (T:TT) (cl:Bool) (o:Oper) (b:Builtin) (ts:List TypeId) (args:List bG) (st:St) (K:bG->St->Option R):Option R:=
 match b,args with
 |.len,[x]=>match ts with
  |[t]=>aaj T st.hp t x fun v=>K v st
  |_=>none
 |.min,.val (.int k) a::l=>match Az k l with
  |some l=>K (.val (.int k) (l.foldl HY a)) st
  |none=>none
 |.max,.val (.int k) a::l=>match Az k l with
  |some l=>K (.val (.int k) (l.foldl Bf a)) st
  |none=>none
 |.append,[s,x]=>match ts with
  |[t,t']=>bif t==t' then IZ T cl o.dst t s x st K else zG T cl o.dst t t' s x st K
  |_=>none
 |.unsafeSliceData,[.slc id ver none]=>match ts with
  |[t]=>match dH st.hp id with
   |some (.arr e v _)=>bif v==ver&&(T.rowOf t e.size&&T.isPtr o.type)then K (.sd id ver) st else none
   |_=>none
  |_=>none
 |.unsafeString,[.sd id ver,.val (.int .i64) n]=>match ts with
  |[pt,_]=>match dH st.hp id with
   |some (.arr (.int .u8) v xs)=>bif v==ver&&T.isBytes pt then mg (bM n (bC xs)) (K (.val .str (ofBytes xs)) {st with hp:=iV st.hp id .dead})else none
   |_=>none
  |_=>none
 |_,_=>none
def dW (T:TT) (cl:Bool) (call:fV R) (o:Oper) (st:St) (K:bG->St->Option R):Option R:=
 match o.op with
 |.move x|.assign x=>K (gK st.fr x) st
 |.pick c a b=>match gK st.fr c with
  |.val .bool t=>bif t then K (gK st.fr a) st else K (gK st.fr b) st
  |_=>none
 |.alloc t=>bif(T.at t).known then
   (match(T.at t).k,(T.at t).zero with
   |.slice et,[.nils]=>match(T.at et).ty with
    |some e=>bif NZ 0 e.size then alloc cl (some (o.dst.getD 0+500000)) (.arr e 0 []) st fun i st=>alloc cl o.dst (.box t [.slc i 0 none]) st fun id st=>K (.ptr id 0) st
     else none
    |none=>alloc cl o.dst (.box t (T.at t).zero) st fun id st=>K (.ptr id 0) st
   |.struct _,[.nilp,.nils]=>bif(T.at t).bld then
     alloc cl (some (o.dst.getD 0+500000)) (.arr (.int .u8) 0 []) st fun i st=>alloc cl o.dst (.box t [.slf (DT cl st o.dst),.slc i 0 none]) st fun id st=>K (.ptr id 0) st
    else alloc cl o.dst (.box t (T.at t).zero) st fun id st=>K (.ptr id 0) st
   |_,z=>alloc cl o.dst (.box t z) st fun id st=>K (.ptr id 0) st)else none
 |.box t x=>match(gK st.fr x).cells with
  |some vs=>bif(T.at t).known&&vs.length==(T.at t).size then alloc cl o.dst (.box t vs) st fun id st=>K (.ptr id 0) st else none
  |none=>none
 |.build t parts=>bif !(T.at t).known then none else
  match(T.at t).k with
  |.struct fs=>match I4 T fs (T.at t).zero (parts.toList.map fun p=>(p.1,gK st.fr p.2))with
   |some cs=>K (norm (T.at t) cs) st
   |none=>none
  |_=>none
 |.buildSlice t n parts=>match(T.at t).k with
  |.slice et=>match(T.at et).ty with
   |some e=>match Gt e (T.at et).zero with
    |some d=>bif T.rowOf t e.size&&leN (n*e.size) 1000000 then
      (match I7 e (List.replicate n d) (parts.toList.map fun p=>(p.1,gK st.fr p.2))with
      |some xs=>alloc cl o.dst (.arr e 0 xs) st fun id st=>K (.slc id 0 none) st
      |none=>none)else none
    |none=>none
   |none=>none
  |_=>none
 |.load t a=>KI T st.hp t (gK st.fr a) fun v=>K v st
 |.store t a v=>I9 T st t (gK st.fr a) (gK st.fr v) fun st'=>aai st.hp st' (gK st.fr a) (gK st.fr v) fun st=>K .undef st
 |.nilCheck x=>match gK st.fr x with
  |.ptr id off=>match dH st.hp id with
   |some (.box _ _)=>K (.ptr id off) st
   |_=>none
  |.cellp t x=>K (.cellp t x) st
  |.ep id ver i off=>match dH st.hp id with
   |some (.arr _ v _)=>bif v==ver then K (.ep id ver i off) st else none
   |_=>none
  |_=>none
 |.binOp op t x y _=>PX T st.hp op t (gK st.fr x) (gK st.fr y) fun v=>K v st
 |.unOp op _ x=>anS op (gK st.fr x) fun v=>K v st
 |.makeMap t r=>match r,T.mapOf t with
  |none,some (kk,vk)=>alloc cl o.dst (.mp kk vk []) st fun id st=>K (.mpv id) st
  |_,_=>none
 |.mapUpdate t m k x=>match T.mapOf t,gK st.fr m with
  |some (kk,vk),.mpv id=>match dH st.hp id,gK st.fr k,gK st.fr x with
   |some (.mp kk' vk' es),.val (.int kk'') a,.val (.int vk'') b=>
    bif decide (kk'=kk)&&(decide (kk''=kk)&&(decide (vk'=vk)&&decide (vk''=vk)))then K .undef {st with hp:=iV st.hp id (.mp kk vk (tN es a b))}else none
   |_,_,_=>none
  |_,_=>none
 |.lookup t m k ok=>match T.mapOf t,gK st.fr m with
  |some (kk,vk),.mpv id=>match dH st.hp id,gK st.fr k with
   |some (.mp kk' vk' es),.val (.int kk'') a=>
    bif decide (kk'=kk)&&(decide (kk''=kk)&&decide (vk'=vk))then
     K (bif ok then .tup [.val (.int vk) (lV es a),.val .bool (apu es a)]else .val (.int vk) (lV es a)) st else none
   |_,_=>none
  |_,_=>none
 |.convert s d x=>zH T s d (gK st.fr x) st.hp fun v=>K v st
 |.makeFunc f first caps=>match f,first.toList with
  |.func f,[]=>K (.fn f (caps.toList.map (gK st.fr))) st
  |.func f,l=>bif caps.toList.isEmpty then K (.mfn f (l.map (gK st.fr))) st else none
  |_,_=>none
 |.makeSlice t l c=>match(T.at t).k with
  |.slice et=>match(T.at et).ty,intOf (gK st.fr l),intOf (gK st.fr c)with
   |some e,some l,some c=>match Gt e (T.at et).zero with
    |some d=>mg (T.rowOf t e.size&&(decide (0<=l)&&(decide (l<=c)&&decide (c.toNat*(T.at et).bytes<=ni))))
      (alloc cl o.dst (.arr e 0 (List.replicate l.toNat d)) st fun id st=>K (.slc id 0 none) st)
    |none=>none
   |_,_,_=>none
  |_=>none
 |.slice t x lo hi mx=>I8 T st.hp t (gK st.fr x) (lo.map (gK st.fr)) (hi.map (gK st.fr)) (mx.map (gK st.fr)) fun v=>K v st
 |.fieldAddr t x f=>tu T st.hp t (gK st.fr x) f fun v=>K v st
 |.field t x f=>I5 T t (gK st.fr x) f fun v=>K v st
 |.indexAddr t x i=>tC T st.hp t (gK st.fr x) (gK st.fr i) fun v=>K v st
 |.index t x i=>match gK st.fr x,intOf (gK st.fr i)with
  |.val .str s,some i=>mg (T.isStr t&&gI s i) (K (.val (.int .u8) (bV s i)) st)
  |_,_=>none
 |.extract x n=>match gK st.fr x with
  |.tup l=>match l[n]? with
   |some v=>K v st
   |none=>none
  |_=>none
 |.call c=>match c.callee with
  |.builtin b=>jV T cl o b c.argTypes.toList (c.args.toList.map (gK st.fr)) st K
  |.value f=>call (gK st.fr f) (c.args.toList.map (gK st.fr)) o.dst st K
  |_=>none
 |_=>none
def St.put (st:St) (dst:Option Nat) (v:bG):St:=
 match dst with
 |some d=>{st with fr:=st.fr.set d v}
 |none=>st
def gZ (T:TT) (cl:Bool) (call:fV R) (ops:Array Oper) (K:St->Option R):List Oper->St->Option R
 |[],st=>K st
 |o::rest,st=>
  match o.guard with
  |none=>dW T cl call o st fun v st=>gZ T cl call ops K rest (st.put o.dst v)
  |some (j,want)=>match(ops[j]?).bind (·.dst)with
   |none=>none
   |some d=>match st.fr.getD d .undef with
    |.val .bool b=>
     bif b then
      (bif want then dW T cl call o (st.put (some d) (.val .bool true)) fun v st=>gZ T cl call ops K rest (st.put o.dst v)
      else gZ T cl call ops K rest ((st.put (some d) (.val .bool true)).put o.dst (.tup [])))
     else
      (bif want then gZ T cl call ops K rest ((st.put (some d) (.val .bool false)).put o.dst (.tup []))
      else dW T cl call o (st.put (some d) (.val .bool false)) fun v st=>gZ T cl call ops K rest (st.put o.dst v))
    |.tup []=>gZ T cl call ops K rest (st.put o.dst (.tup []))
    |_=>none
mutual
def refs:bG->List Nat
 |.ptr id _=>[id]
 |.slc id _ _=>[id]
 |.ep id _ _ _=>[id]
 |.slf id=>[id]
 |.sd id _=>[id]
 |.yld id=>[id]
 |.tup l=>lw l
 |.agg l=>lw l
 |.fn _ l=>lw l
 |.mfn _ l=>lw l
 |.mpv id=>[id]
 |_=>[]
def lw:List bG->List Nat
 |[]=>[]
 |v::l=>refs v++lw l
end
def rC:List (List bG)->List Nat
 |[]=>[]
 |l::ls=>lw l++rC ls
def dD.refs:dD->List Nat
 |.box _ cs=>lw cs
 |.lp _ fr _ _ _ _ _ _=>lw fr
 |_=>[]
def wQ:gz->List Nat
 |[]=>[]
 |(_,o)::h=>o.refs++wQ h
def Xt (l:List Nat) (i:Nat):Bool:=l.any (Nat.beq i)
def apZ (h:gz):Nat->List Nat->List Nat
 |0,l=>l
 |n+1,l=>apZ h n (l++wQ (h.filter fun e=>Xt l e.1))
def DV (d l:List Nat):Bool:=l.all fun i=> !Xt d i
def gc (mark:Nat) (v:bG) (st:St):Option St:=
 let old:=st.hp.filter fun e=>Nat.blt e.1 mark
 let new:=st.hp.filter fun e=> !Nat.blt e.1 mark
 let live:=apZ new 3 (refs v++lw st.fr++rC st.stk++wQ old)
 let kept:=st.hp.filter fun e=>Nat.blt e.1 mark||Xt live e.1
 let gone:=((st.hp.filter fun e=> !(Nat.blt e.1 mark||Xt live e.1)).map (·.1))
 bif DV gone (refs v++lw st.fr++rC st.stk++wQ kept)then some {st with hp:=kept}else none
def axb (h:gz) (id:Nat):Option Nat:=
 match dH h id with
 |some (.arr _ v _)=>some v
 |_=>none
def Qh (h:gz) (id ver:Nat):Bool:=match axb h id with
 |some v=>v==ver
 |none=>false
mutual
def anew (h:gz):bG->bG
 |.slc id ver vw=>bif Qh h id ver then .slc id 0 vw else .undef
 |.ep id ver i off=>bif Qh h id ver then .ep id 0 i off else .undef
 |.sd id ver=>bif Qh h id ver then .sd id 0 else .undef
 |.tup l=>.tup (zt h l)
 |.agg l=>.agg (zt h l)
 |.fn f l=>.fn f (zt h l)
 |.mfn f l=>.mfn f (zt h l)
 |v=>v
def zt (h:gz):List bG->List bG
 |[]=>[]
 |v::l=>anew h v::zt h l
end
def dD.anew (h:gz):dD->dD
 |.box t cs=>.box t (zt h cs)
 |.lp f fr ps a b k n p=>.lp f (zt h fr) ps a b k n p
 |.arr t _ xs=>.arr t 0 xs
 |o=>o
def VY (st:St):St:=
 {st with fr:=zt st.hp st.fr,stk:=st.stk.map (zt st.hp),hp:=st.hp.map fun e=>(e.1,e.2.anew st.hp)}
structure dM where
 slots:List Nat
 owns:List (Nat×Ty)
 after:List Nat
 aowns:List (Nat×Ty)
 rets:List Nat
 give:List (Nat×Ty)
def Gs (l:List Nat):Nat->List bG->List bG
 |_,[]=>[]
 |i,v::r=>(bif Xt l i then v else .undef)::Gs l (i+1) r
def xU (s:Nat) (t:Ty) (st:St):Option St:=
 match st.fr.getD s .undef with
 |.nils=>match dH st.hp (1000000*st.stk.length+800000+s)with
  |some _=>none
  |none=>bif st.nxt.ble (1000000*st.stk.length+800000+s)&&Nat.blt 0 t.size then
    some {st with fr:=st.fr.set s (.slc (1000000*st.stk.length+800000+s) 0 none),hp:=(1000000*st.stk.length+800000+s,.arr t 0 [])::st.hp}else none
 |.slc id ver vw=>match dH st.hp id with
  |some (.arr u w xs)=>bif w==ver then
    (match vw with
    |none=>some st
    |some (lo,hi)=>bif lo==0 then
      some {st with fr:=st.fr.set s (.slc id (ver+1) none),hp:=iV st.hp id (.arr u (ver+1) (xs.take hi.toNat))}else none)else none
  |_=>none
 |_=>none
def aoA (k:Nat) (o:dD):gz->gz
 |[]=>[(k,o)]
 |(j,p)::h=>bif Nat.ble j k then(k,o)::(j,p)::h else(j,p)::aoA k o h
def lC:gz->gz
 |[]=>[]
 |(k,o)::h=>aoA k o (lC h)
def Q4 (id off:Nat) (t:Ty) (st:St):Option St:=
 match dH st.hp id with
 |some (.box bt cs)=>match cs.getD off .undef with
  |.nils=>match t with
   |.pair .unit t'=>some {st with hp:=iV st.hp id (.box bt (cs.set off (.val (.list t') [])))}
   |t=>match dH st.hp (id+500000+2000*off)with
    |some _=>none
    |none=>bif st.nxt.ble (id+500000+2000*off)&&Nat.blt 0 t.size then
      some {st with hp:=iV ((id+500000+2000*off,.arr t 0 [])::st.hp) id (.box bt (cs.set off (.slc (id+500000+2000*off) 0 none)))}else none
  |_=>some st
 |_=>some st
def Ov (id off:Nat) (t:Ty) (st:St):Option St:=
 match Q4 id off t st with
 |some st=>some {st with hp:=lC st.hp}
 |none=>none
def Du (s:Nat) (t:Ty) (st:St):Option St:=
 match st.fr.getD s .undef with
 |.nils=>some {st with fr:=st.fr.set s (.val (.list t) [])}
 |.emp=>some {st with fr:=st.fr.set s (.val (.list t) [])}
 |.slc id ver none=>match dH st.hp id with
  |some (.arr u w xs)=>bif w==ver&&DV ((st.hp.filter fun e=> !(!Nat.beq e.1 id)).map (·.1)) (lw (st.fr.set s .undef)++rC st.stk++wQ (st.hp.filter fun e=> !Nat.beq e.1 id))then
    some {st with fr:=st.fr.set s (.val (.list u) xs),hp:=st.hp.filter fun e=> !Nat.beq e.1 id}else none
  |_=>none
 |.slc _ _ (some _)=>none
 |_=>some st
def OC (s:Nat) (t:Ty) (st:St):Option St:=
 match st.fr.getD s .undef with
 |.slc id ver none=>bif Nat.beq id (1000000*st.stk.length+800000+s)then some {st with hp:=lC st.hp}else
  match dH st.hp id with
  |some (.arr u w xs)=>bif st.nxt.ble (1000000*st.stk.length+800000+s)&&DV [id,1000000*st.stk.length+800000+s] (lw (st.fr.set s .undef)++rC st.stk++wQ (st.hp.filter fun e=> !(Nat.beq e.1 id||Nat.beq e.1 (1000000*st.stk.length+800000+s))))then
    some {st with fr:=st.fr.set s (.slc (1000000*st.stk.length+800000+s) ver none),hp:=lC ((1000000*st.stk.length+800000+s,.arr u w xs)::st.hp.filter fun e=> !(Nat.beq e.1 id||Nat.beq e.1 (1000000*st.stk.length+800000+s)))}else none
  |_=>none
 |.ptr id 0=>bif Nat.beq id (1000000*st.stk.length+800000+s)then some {st with hp:=lC st.hp}else
  match dH st.hp id with
  |some (.box u xs)=>bif st.nxt.ble (1000000*st.stk.length+800000+s)&&DV [id,1000000*st.stk.length+800000+s] (lw (st.fr.set s .undef)++rC st.stk++(lw xs++wQ (st.hp.filter fun e=> !(Nat.beq e.1 id||Nat.beq e.1 (1000000*st.stk.length+800000+s)))))then
    some {st with fr:=st.fr.set s (.ptr (1000000*st.stk.length+800000+s) 0),hp:=lC ((1000000*st.stk.length+800000+s,.box u xs)::st.hp.filter fun e=> !(Nat.beq e.1 id||Nat.beq e.1 (1000000*st.stk.length+800000+s)))}else none
  |_=>none
 |_=>match xU s t st with
  |some st=>some {st with hp:=lC st.hp}
  |none=>none
def ET:List (Nat×Ty)->St->Option St
 |[],st=>some st
 |(s,t)::l,st=>match Du s t st with
  |some st=>ET l st
  |none=>none
def jy:List (Nat×Ty)->St->Option St
 |[],st=>some st
 |(s,.pair .unit t)::l,st=>match Du s t st with
  |some st=>jy l st
  |none=>none
 |(s,.pair (.list .unit) t)::l,st=>match Ov (s/100) (s %100) t st with
  |some st=>jy l st
  |none=>none
 |(s,.pair (.list .bool) t)::l,st=>match OC s t st with
  |some st=>jy l st
  |none=>none
 |(s,t)::l,st=>match xU s t st with
  |some st=>jy l st
  |none=>none
def Ku (slots:List Nat) (owns:List (Nat×Ty)) (st:St):Option St:=
 match(match owns with
  |[]=>some {st with fr:=Gs slots 0 st.fr}
  |_=>gc (1000000*st.stk.length) .undef {st with fr:=Gs slots 0 st.fr})with
 |some st=>match jy owns st with
  |some st=>match gc (1000000*st.stk.length) .undef st with
   |some st=>some (VY st)
   |none=>none
  |none=>none
 |none=>none
def ar6 (k:dM) (st:St):Option St:=
 match ET k.give {st with fr:=Gs k.rets 0 st.fr}with
 |some st=>match gc (1000000*st.stk.length) .undef st with
  |some st=>some (VY st)
  |none=>none
 |none=>none
def iter (kp:Option dM) (F:St->(Ex->St->Option R)->Option R):Nat->St->(Ex->St->Option R)->Option R
 |0,_,_=>none
 |n+1,st,K=>F st fun ex st=>match ex with
  |.normal=>match kp with
   |none=>iter kp F n st K
   |some k=>match Ku k.slots k.owns st with
    |some st=>iter kp F n st K
    |none=>none
  |.ret=>match kp with
   |none=>K .ret st
   |some k=>match ar6 k st with
    |some st=>K .ret st
    |none=>none
  |ex=>match kp with
   |none=>K ex st
   |some k=>match Ku k.after k.aowns st with
    |some st=>K ex st
    |none=>none
def cZ:Code->Nat
 |.region id _ _=>id
 |.seq a _=>cZ a
 |.block _ c=>cZ c
 |.loop c=>cZ c
 |.scope c=>cZ c
 |.cond _ a _=>cZ a
 |_=>0
def bP:Nat:=10000000000000000000000000000000000000000
def Ty.rigid:Ty->Bool
 |.list _=>false
 |.pair a b=>a.rigid&&b.rigid
 |_=>true
structure Sum where
 ps:List Ty
 rs:List (Ty×Bool)
 f:(ps.foldr Ty.pair Ty.unit).den->Option ((rs.map (·.1)).foldr Ty.pair Ty.unit).den
def zu (hp:gz):(ps:List Ty)->List bG->Option (ps.foldr Ty.pair Ty.unit).den
 |[],[]=>some ()
 |t::ts,v::vs=>match v.as hp t with
  |some x=>match zu hp ts vs with
   |some y=>some (x,y)
   |none=>none
  |none=>none
 |_,_=>none
def Ty.elem:Ty->Ty
 |.list t=>t
 |t=>t
def oI (id:Nat):(rs:List (Ty×Bool))->((rs.map (·.1)).foldr Ty.pair Ty.unit).den->List bG
 |[],_=>[]
 |(t,false)::rs,y=>.val t y.1::oI id rs y.2
 |(_,true)::rs,y=>.slc id 0 none::oI id rs y.2
def xR:(rs:List (Ty×Bool))->((rs.map (·.1)).foldr Ty.pair Ty.unit).den->Option (Σ e:Ty,List e.den)
 |[],_=>none
 |(_,false)::rs,y=>xR rs y.2
 |(.list e,true)::_,y=>some ⟨e,y.1⟩
 |(_,true)::_,_=>none
def mr:bG->Bool
 |.slc _ _ _=>true
 |.agg _=>true
 |_=>false
def LQ:List bG->bG
 |[v]=>v
 |vs=>.tup vs
def news:List (Ty×Bool)->Nat
 |[]=>0
 |(_,false)::rs=>news rs
 |(_,true)::rs=>news rs+1
def bz {α β:Type} (o:Option α) (k:α->Option β):Option β:=
 match o with
 |some x=>k x
 |none=>none
def Sum.call (s:Sum) (cl:Bool) (args:List bG) (dst:Option Nat) (st:St) (K:bG->St->Option R):Option R:=
 bif s.rs.all (fun r=>r.1.rigid||(r.2&&r.1.elem.rigid))|| !args.any mr then
  match zu st.hp s.ps args with
  |some x=>bz (s.f x) fun y=>match xR s.rs y with
   |none=>bif Nat.beq (news s.rs) 0 then K (LQ (oI 0 s.rs y)) st else none
   |some ⟨e,xs⟩=>bif Nat.beq (news s.rs) 1 then alloc cl (some (dst.getD 0+100000)) (.arr e 0 xs) st fun id st=>K (LQ (oI id s.rs y)) st else none
  |none=>none
 else none
structure gY where
 bt:TypeId
 cs:List (Ty×Bool)
 ps:List Ty
 rs:List Ty
 f:((cs.map (·.1)).foldr Ty.pair Ty.unit).den->(ps.foldr Ty.pair Ty.unit).den->Option (((cs.map (·.1)).foldr Ty.pair Ty.unit).den×(rs.foldr Ty.pair Ty.unit).den)
def IW:(ps:List Ty)->(ps.foldr Ty.pair Ty.unit).den->List bG
 |[],_=>[]
 |t::ps,x=>.val t x.1::IW ps x.2
def nU:List (Ty×Bool)->List bG->List (Nat×Nat)
 |(_,true)::cs,.slc id ver _::vs=>(id,ver)::nU cs vs
 |_::cs,_::vs=>nU cs vs
 |_,_=>[]
def sZ:List (Ty×Bool)->List bG->List Nat
 |(_,false)::cs,v::vs=>refs v++sZ cs vs
 |_::cs,_::vs=>sZ cs vs
 |_,_=>[]
def jF (hp:gz) (strict:Bool):(cs:List (Ty×Bool))->List bG->Option ((cs.map (·.1)).foldr Ty.pair Ty.unit).den
 |[],[]=>some ()
 |(t,false)::cs,v::vs=>bif strict&&(mr v&& !t.rigid)then none else match v.as hp t with
  |some x=>match jF hp strict cs vs with
   |some y=>some (x,y)
   |none=>none
  |none=>none
 |(.list e,true)::cs,.slc id ver none::vs=>match dH hp id with
  |some (.arr t v xs)=>bif v==ver then(match jX (.list e) (t':=.list t) xs with
   |some x=>match jF hp strict cs vs with
    |some y=>some (x,y)
    |none=>none
   |none=>none)else none
  |_=>none
 |_,_=>none
def F6:(cs:List (Ty×Bool))->List (Nat×Nat)->((cs.map (·.1)).foldr Ty.pair Ty.unit).den->List bG
 |[],_,_=>[]
 |(t,false)::cs,l,y=>.val t y.1::F6 cs l y.2
 |(_,true)::cs,(i,v)::l,y=>.slc i v none::F6 cs l y.2
 |(_,true)::cs,[],y=>.undef::F6 cs [] y.2
def sU:(cs:List (Ty×Bool))->List (Nat×Nat)->((cs.map (·.1)).foldr Ty.pair Ty.unit).den->gz
 |[],_,_=>[]
 |(_,false)::cs,l,y=>sU cs l y.2
 |(.list e,true)::cs,(i,v)::l,y=>(i,.arr e v y.1)::sU cs l y.2
 |(_,true)::cs,l,y=>sU cs l y.2
def Nb:gz->gz->gz
 |[],h=>h
 |(i,o)::l,h=>Nb l (iV h i o)
def iU:List (Ty×Bool)->Nat->List (Nat×Nat)
 |[],_=>[]
 |(_,true)::cs,n=>(n,0)::iU cs (n+1)
 |(_,false)::cs,n=>iU cs n
def QV:List Nat->Bool
 |[]=>true
 |i::l=> !Xt l i&&QV l
def gY.rigid (s:gY):Bool:=s.cs.all (fun c=>c.1.rigid||(c.2&&c.1.elem.rigid))&&s.rs.all Ty.rigid
def rP (cl:Bool):Nat->List (Ty×Bool)->List bG->St->(List bG->St->Option R)->Option R
 |n,(.list e,true)::cs,.nils::vs,st,K=>bif NZ 0 e.size then alloc cl (some n) (.arr e 0 []) st fun id st=>rP cl (n+1) cs vs st fun l st=>K (.slc id 0 none::l) st else none
 |n,_::cs,v::vs,st,K=>rP cl (n+1) cs vs st fun l st=>K (v::l) st
 |_,_,l,st,K=>K l st
def gY.go (s:gY) (id:Nat) (as_:List bG) (st:St) (K:bG->St->Option R):Option R:=
 match dH st.hp id with
 |some (.box t cells)=>
  bif Nat.beq t s.bt&&((QV ((nU s.cs cells).map (·.1))&&DV (id::(nU s.cs cells).map (·.1)) (lw as_++sZ s.cs cells))&&(s.rigid|| !as_.any mr))then
   match jF st.hp (!s.rigid) s.cs cells with
   |some x=>match zu st.hp s.ps as_ with
    |some y=>bz (s.f x y) fun z=>K (LQ (IW s.rs z.2))
      {st with hp:=iV (Nb (sU s.cs ((nU s.cs cells).map fun p=>(p.1,p.2+1)) z.1) st.hp) id (.box t (F6 s.cs ((nU s.cs cells).map fun p=>(p.1,p.2+1)) z.1))}
    |none=>none
   |none=>none
  else none
 |_=>none
def gY.call (s:gY) (cl:Bool) (args:List bG) (st:St) (K:bG->St->Option R):Option R:=
 match args with
 |.ptr id 0::as_=>match dH st.hp id with
  |some (.box t cells)=>bif cells.any (fun v=>match v with|.nils=>true|_=>false)then
    rP cl (200000+20*(id %5000)) s.cs cells st fun cells st=>s.go id as_ {st with hp:=iV st.hp id (.box t cells)} K
   else s.go id as_ st K
  |_=>none
 |_=>none
inductive Job where
 |call (f:FuncId) (args:List bG)
 |yield (id:Nat) (args:List bG)
structure dC where
 V:Type
 A:V->Type
 B:V->Type
 get:St->Option V
 spec:(v:V)->Option (A v⊕B v)
 exA:V->Ex
 stA:St->(v:V)->A v->St
 stB:St->(v:V)->B v->St
 dep:Nat:=0
 exB:V->Ex:=fun _=>.ret
def dL {α β γ:Type} (o:α⊕β) (f:α->γ) (g:β->γ):γ:=
 match o with
 |.inl a=>f a
 |.inr b=>g b
structure Env where
 P:Program
 T:TT
 cl:Bool
 kp:FuncId->Nat->Option dM
 sg:FuncId->Option Sum
 lp:FuncId->Nat->Option dC
 rf:FuncId->Nat->Bool:=fun _ _=>false
 bf:FuncId->Bool:=fun _=>false
 dp:Nat:=0
 sb:FuncId->Option gY:=fun _=>none
def Env.at (E:Env) (n:Nat):Env:={E with dp:=n}
def Pv (T:TT) (args:List bG) (st:St) (K:bG->St->Option R):Option R:=
 match args with
 |[.ptr id 0]=>match dH st.hp id with
  |some (.box t (.slf i:: .slc _ _ _::[]))=>bif Nat.beq i id&&((T.at t).known&&(T.at t).bld)then K (.tup []) st else none
  |_=>none
 |_=>none
abbrev mP (R:Type):=Job->St->(bG->St->Option R)->Option R
structure VW where
 q:Job->St->Option bG
 s:mP St
 u:mP Unit
def wu (E:Env) (ex:mP R):fV R:=fun fv args dst st K=>
 match fv with
 |.fn g caps=>match E.sg g with
  |some s=>s.call E.cl (args++caps) dst st K
  |none=>match E.sb g with
   |some s=>s.call E.cl (args++caps) st K
   |none=>bif E.bf g then Pv E.T (args++caps) st K else ex (.call g (args++caps)) st K
 |.mfn g fst=>match E.sb g with
  |some s=>s.call E.cl (fst++args) st K
  |none=>ex (.call g (fst++args)) st K
 |.yld id=>ex (.yield id args) st K
 |_=>none
def bG.rigid:bG->Bool
 |.val t _=>t.rigid
 |_=>false
def bG.calm:bG->Bool
 |.val _ _=>true
 |_=>false
def bG.rigidR:bG->Bool
 |.tup l=>l.all bG.rigid
 |v=>v.rigid
def Uh (hp:gz):bG->Option bG
 |.val t x=>some (.val t x)
 |.nils=>some .nils
 |.slc id ver vw=>match dH hp id with
  |some (.arr t v xs)=>bif v==ver then some (.val (.list t) (Zn xs vw))else none
  |_=>none
 |_=>none
def O9 (hp:gz):List bG->Option (List bG)
 |[]=>some []
 |v::l=>match Uh hp v with
  |some v=>match O9 hp l with
   |some l=>some (v::l)
   |none=>none
  |none=>none
def PH (E:Env) (exd:Job->St->Option bG):fV R:=fun fv args dst st K=>
 match fv with
 |.fn g []=>match E.sg g with
  |some s=>bif s.rs.all (fun r=> !r.2&&r.1.rigid)then s.call E.cl args dst st K else none
  |none=>match O9 st.hp args with
   |some args=>match exd (.call g args) ⟨[],[],[],st.nxt⟩with
    |some v=>bif v.rigidR then K v st else none
    |none=>none
   |none=>none
 |_=>none
def jE:Op->Bool
 |.move _|.assign _|.pick _ _ _|.load _ _|.nilCheck _|.binOp _ _ _ _ _|.unOp _ _ _|.slice _ _ _ _ _|.fieldAddr _ _ _|.field _ _ _|.indexAddr _ _ _|.index _ _ _|.extract _ _|.build _ _|.convert _ _ _=>true
 |.call c=>match c.callee with
  |.builtin .len=>true
  |.builtin .min=>true
  |.builtin .max=>true
  |.value _=>true
  |_=>false
 |_=>false
def iq:Op->Bool
 |.call c=>match c.callee with
  |.builtin .len=>true
  |.builtin .min=>true
  |.builtin .max=>true
  |_=>false
 |o=>jE o
def Ij:Op->Bool
 |.move _|.assign _|.pick _ _ _|.nilCheck _|.binOp _ _ _ _ _|.unOp _ _ _|.slice _ _ _ _ _|.fieldAddr _ _ _|.field _ _ _|.indexAddr _ _ _|.index _ _ _|.extract _ _=>true
 |.call c=>match c.callee with
  |.builtin .len=>true
  |.builtin .min=>true
  |.builtin .max=>true
  |_=>false
 |_=>false
def Oj:Op->Bool
 |.move _|.assign _|.pick _ _ _|.load _ _|.index _ _ _|.extract _ _|.alloc _|.box _ _=>true
 |.call c=>match c.callee with
  |.builtin .len=>true
  |.builtin .unsafeSliceData=>true
  |_=>false
 |_=>false
def mi (ops:Array Oper):Bool:=ops.toList.all fun o=>match o.op with|.defer _=>false|.select _ _=>false|_=>true
def U6 (l:List Nat) (i:Nat):Bool:=l.any (Nat.beq i)
def EH (ops:Array Oper) (j:Nat) (D:List Nat):Bool:=match ops[j]? with
 |some oj=>oj.after.any fun e=>Region.binds .any e&&U6 D e.on
 |none=>false
def aBU (ops:Array Oper) (listed:Array Bool) (n:Nat) (D:List Nat):List Nat:=
 (List.range n).foldl (fun D j=>bif !listed.getD j true&&(!U6 D j&&EH ops j D)then j::D else D) D
def SB (ops:Array Oper) (listed:Array Bool) (i:Nat) (pure:Bool):Bool:=match ops[i]? with
 |some oi=>let D:=aBU ops listed ops.size [i]
  U6 D i&&(D.all (fun j=> !listed.getD j true&&(Nat.beq j i||EH ops j D))&&(List.range ops.size).all fun j=>listed.getD j true||(U6 D j||(match ops[j]? with
   |some oj=>oi.apart ops oj&&(pure||Oj oj.op)
   |none=>true)))
 |none=>false
def aeJ (ops:Array Oper) (f:Op->Bool) (i:Nat):Bool:=match ops[i]? with
 |some o=>f o.op
 |none=>false
def wB {α:Type} (f:α->α->Bool):List α->List α->Bool
 |[],[]=>true
 |x::l,y::m=>f x y&&wB f l m
 |_,_=>false
def WB:(t:Ty)->t.den->t.den->Bool
 |.unit,_,_=>true
 |.bool,x,y=>x==y
 |.int _,x,y=>bM x y
 |.str,x,y=>gU x y
 |.list t,x,y=>wB (WB t) x y
 |.pair a b,x,y=>WB a x.1 y.1&&WB b x.2 y.2
def adJ:Option (Int×Int)->Option (Int×Int)->Bool
 |none,none=>true
 |some a,some b=>bM a.1 b.1&&bM a.2 b.2
 |_,_=>false
mutual
def Tc (a b:bG):Bool:=
 match a with
 |.undef=>match b with|.undef=>true|_=>false
 |.val t x=>match b with
  |.val u y=>(match jX t y with|some y=>WB t x y|none=>false)
  |_=>false
 |.nils=>match b with|.nils=>true|_=>false
 |.nilp=>match b with|.nilp=>true|_=>false
 |.nilfn=>match b with|.nilfn=>true|_=>false
 |.emp=>match b with|.emp=>true|_=>false
 |.tup l=>match b with|.tup m=>He l m|_=>false
 |.agg l=>match b with|.agg m=>He l m|_=>false
 |.cellp t x=>match b with
  |.cellp u y=>(match jX t y with|some y=>WB t x y|none=>false)
  |_=>false
 |.lst t x n=>match b with
  |.lst u y m=>n==m&&(match jX (.list t) (t':=.list u) y with|some y=>WB (.list t) x y|none=>false)
  |_=>false
 |.ptr i o=>match b with|.ptr j p=>Nat.beq i j&&Nat.beq o p|_=>false
 |.slc i v w=>match b with|.slc j u x=>Nat.beq i j&&(Nat.beq v u&&adJ w x)|_=>false
 |.ep i v n o=>match b with|.ep j u m p=>Nat.beq i j&&(Nat.beq v u&&(eqN n m&&Nat.beq o p))|_=>false
 |.fn f l=>match b with|.fn g m=>Nat.beq f g&&He l m|_=>false
 |.mfn f l=>match b with|.mfn g m=>Nat.beq f g&&He l m|_=>false
 |.mpv i=>match b with|.mpv j=>Nat.beq i j|_=>false
 |.yld i=>match b with|.yld j=>Nat.beq i j|_=>false
 |.slf i=>match b with|.slf j=>Nat.beq i j|_=>false
 |.sd i v=>match b with|.sd j u=>Nat.beq i j&&Nat.beq v u|_=>false
def He:List bG->List bG->Bool
 |[],m=>match m with|[]=>true|_=>false
 |a::l,m=>match m with|b::m=>Tc a b&&He l m|_=>false
end
def ayA (a b:Ex):Bool:=match a with
 |.normal=>match b with|.normal=>true|_=>false
 |.exit i=>match b with|.exit j=>Nat.beq i j|_=>false
 |.goto i=>match b with|.goto j=>Nat.beq i j|_=>false
 |.ret=>match b with|.ret=>true|_=>false
def anN:Option Ex->Option Ex->Bool
 |none,none=>true
 |some a,some b=>ayA a b
 |_,_=>false
def eqO (a b:dD):Bool:=
 match a with
 |.box t l=>match b with|.box u m=>Nat.beq t u&&He l m|_=>false
 |.arr t v x=>match b with
  |.arr u w y=>Nat.beq v w&&(match jX (.list t) (t':=.list u) y with|some y=>WB (.list t) x y|none=>false)
  |_=>false
 |.lp f fr ps _ _ k n p=>match b with
  |.lp g fs qs _ _ h m q=>Nat.beq f g&&(He fr fs&&(wB Nat.beq ps qs&&((match k,h with|some k,some h=>Nat.beq k h|_,_=>false)&&(Nat.beq n m&&anN p q))))
  |_=>false
 |.dead=>match b with|.dead=>true|_=>false
 |.mp k v l=>match b with
  |.mp k' v' m=>decide (k=k')&&(decide (v=v')&&decide (l=m))
  |_=>false
def eqH:gz->gz->Bool
 |[],h=>match h with|[]=>true|_=>false
 |(i,a)::h,g=>match g with
  |(j,b)::g=>Nat.beq i j&&(eqO a b&&eqH h g)
  |[]=>false
def anP (a b:St):Bool:=He a.fr b.fr&&(wB He a.stk b.stk&&(eqH a.hp b.hp&&Nat.beq a.nxt b.nxt))
def SI (old:gz) (i:Nat) (a:dD):Option dD:=match a with
 |.lp f fr ps _ _ (some k) n p=>match dH old i with
  |some (.lp g _ _ iY bd (some h) _ _)=>bif Nat.beq f g&&Nat.beq k h then some (.lp f fr ps iY bd (some k) n p)else none
  |_=>none
 |.lp _ _ _ _ _ none _ _=>none
 |a=>some a
def SE (old:gz):gz->Option gz
 |[]=>some []
 |(i,a)::h=>match SI old i a with
  |some a=>match SE old h with
   |some h=>some ((i,a)::h)
   |none=>none
  |none=>none
def rW:gz->Bool
 |[]=>true
 |(k,_)::h=> !h.any (fun e=>Nat.beq e.1 k)&&rW h
def QN (old:gz):List (Option St)->Option St
 |some a::l=>bif(some a::l).all (fun b=>match b with|some b=>anP a b&&rW b.hp|none=>false)then
   (match SE old a.hp with|some h=>some {a with hp:=h}|none=>none)else none
 |_=>none
def tidy (cl:Bool) (st:St):St:=bif cl then st else {st with hp:=lC st.hp}
def sK (ops:Array Oper) (i k:Nat):Bool:=match ops[i]? with
 |some oi=>oi.after.any fun e=>Region.binds .any e&&Nat.beq e.on k
 |none=>false
def EW (ops:Array Oper) (x y:Oper):Bool:=match y.dst with
 |some d=> !(x.looksAt ops).contains d&&x.dst !=some d
 |none=>true
def Ls (ops:Array Oper) (log:List Nat) (i:Nat):Bool:=match ops[i]? with
 |some oi=>EW ops {oi with dst:=none} oi&&log.all fun k=>match ops[k]? with
  |some ok=>EW ops ok oi&&(sK ops i k||ok.apart ops oi)
  |none=>false
 |none=>false
def apD (ops:Array Oper) (log:List Nat) (i:Nat):Bool:=match ops[i]? with
 |some oi=>log.all fun k=>match ops[k]? with
  |some ok=>sK ops i k||ok.apart ops oi
  |none=>false
 |none=>false
def oC (ops:Array Oper):List Nat->List bG->List bG
 |[],fr=>fr
 |i::l,fr=>match(ops[i]?).bind (·.dst)with
  |some d=>(oC ops l fr).set d .undef
  |none=>oC ops l fr
def sameAt (dst:Option Nat) (z:bG) (st:St):Bool:=match dst with
 |some d=>Tc z (st.fr.getD d .undef)
 |none=>true
def JW (s:Sum):Bool:=s.rs.all fun r=> !r.2&&r.1.rigid
def Gh (sg:FuncId->Option Sum) (cl:Bool):fV R:=fun fv args dst st K=>match fv with
 |.fn g []=>match sg g with
  |some s=>bif JW s&&args.all bG.calm then s.call cl args dst st K else none
  |none=>none
 |_=>none
def ve (sg:FuncId->Option Sum) (o:Op):Bool:=match o with
 |.call c=>match c.callee with
  |.builtin _=>true
  |.value (.func g)=>match sg g with
   |some s=>JW s
   |none=>false
  |_=>false
 |_=>true
def O3:List (Option Unit)->Option R->Option R
 |[],k=>k
 |o::l,k=>bz o fun _=>O3 l k
def settle (old:gz) (a:St):Option St:=match SE old a.hp with
 |some h=>some {a with hp:=h}
 |none=>none
def jr (o:Oper) (fr:List bG):List bG:=match o.op with
 |.call c=>match c.callee with
  |.value v=>gK fr v::c.args.toList.map (gK fr)
  |_=>[]
 |_=>[]
def WZ (sg:FuncId->Option Sum) (ops:Array Oper) (fr:List bG) (i:Nat):Bool:=match ops[i]? with
 |some o=>match jr o fr with
  |.fn g []::args=>match sg g with
   |some s=>(JW s&&args.all bG.calm)&&(match o.dst with|some d=>NZ d fr.length|none=>true)
   |none=>false
  |_=>false
 |none=>false
def zk (dst:Option Nat) (fr:List bG):List bG:=match dst with
 |some d=>[fr.getD d .undef]
 |none=>[]
def xY (T:TT) (cl:Bool) (call:fV R) (ops:Array Oper) (old:List bG):List Nat->St->(St->Option R)->Option R
 |[],st,K=>K st
 |i::l,st,K=>match ops[i]? with
  |some oi=>bif iq oi.op then(dW T cl call oi st fun z _=>bif sameAt oi.dst z st then xY T cl call ops old l st K else none)
   else bif He (jr oi old) (jr oi st.fr)&&He (zk oi.dst old) (zk oi.dst st.fr)then xY T cl call ops old l st K else none
  |none=>none
def tJ (T:TT) (cl:Bool) (call:fV R) (ops:Array Oper) (j:Nat) (log:List Nat) (st:St) (K:St->Option R):Option R:=
 match ops[j]? with
 |some oj=>bif oj.guard.isNone&&apD ops log j then
   dW T cl call oj {st with fr:=oC ops (log.filter fun i=> !sK ops j i) st.fr,stk:=st.fr::st.stk} fun z st1=>match st1.stk with
    |fr::stk=>xY T cl call ops st.fr (log.filter fun i=> !sK ops j i).reverse ({st1 with fr:=fr,stk:=stk}.put oj.dst z) K
    |[]=>none
  else none
 |none=>none
def lY (T:TT) (cl:Bool) (sg:FuncId->Option Sum) (callS:fV St) (callU:fV Unit) (ops:Array Oper):Nat->{R:Type}->fV R->Array Bool->List Nat->St->(St->Option R)->Option R
  |0,_,_,_,_,_,_=>none
  |n+1,_,call,listed,log,st,K=>match Region.ready .any ops listed with
    |[]=>K st
    |k::rs=>match(k::rs).find? fun i=>aeJ ops iq i&&Ls ops log i with
      |some i=>match ops[i]? with
        |some oi=>bif oi.guard.isNone&&Ls ops log i then
            dW T cl call oi st fun z st=>lY T cl sg callS callU ops n call (listed.setIfInBounds i true) (i::log) (st.put oi.dst z) K else none
        |none=>none
      |none=>match(k::rs).find? fun i=>WZ sg ops st.fr i with
       |some i=>match ops[i]? with
        |some oi=>bif oi.guard.isNone&&Ls ops log i then
            dW T cl (Gh sg cl) oi st fun z st=>lY T cl sg callS callU ops n call (listed.setIfInBounds i true) (i::log) (st.put oi.dst z) K else none
        |none=>none
       |none=>match rs with
        |[]=>tJ T cl call ops k log st fun st=>lY T cl sg callS callU ops n call (listed.setIfInBounds k true) log st K
        |_=>bif cl|| !ops.toList.all (fun o=>ve sg o.op)then(match QN st.hp ((k::rs).map fun j=>tJ T cl callS ops j log st fun st=>lY T cl sg callS callU ops n callS (listed.setIfInBounds j true) log st fun st=>some (tidy cl st))with
          |some st=>K st
          |none=>none)else
          tJ T cl call ops k log st fun st'=>lY T cl sg callS callU ops n call (listed.setIfInBounds k true) log st' fun st1=>
            bif rW (tidy cl st1).hp then(match settle st.hp (tidy cl st1)with
              |some m=>O3 (rs.map fun j=>tJ T cl callU ops j log st fun st'=>lY T cl sg callS callU ops n callU (listed.setIfInBounds j true) log st' fun b=>
                  bif anP (tidy cl st1) (tidy cl b)&&rW (tidy cl b).hp then some ()else none) (K m)
              |none=>none)else none
def tZ (ops:Array Oper):Nat->Array Bool->Option (List Nat)
 |0,listed=>bif(Region.ready .any ops listed).isEmpty then some []else none
 |n+1,listed=>match Region.ready .any ops listed with
  |[]=>some []
  |k::rs=>match(k::rs).find? fun i=>aeJ ops Ij i&&SB ops listed i true with
   |some i=>match tZ ops n (listed.setIfInBounds i true)with
    |some l=>some (i::l)
    |none=>none
   |none=>match(k::rs).find? fun i=>aeJ ops iq i&&SB ops listed i false with
    |some i=>match tZ ops n (listed.setIfInBounds i true)with
     |some l=>some (i::l)
     |none=>none
    |none=>match rs with
     |[]=>match tZ ops n (listed.setIfInBounds k true)with
      |some l=>some (k::l)
      |none=>none
     |_=>none
def afc (ops:Array Oper):Option (List Oper):=bif mi ops then(match tZ ops ops.size (Array.replicate ops.size false)with
 |some l=>some (l.filterMap fun i=>ops[i]?)
 |none=>none)else none
def aAs (sb:FuncId->Option gY) (o:Op):Bool:=match o with
 |.call c=>match c.callee with
  |.value (.func g)=>(sb g).isNone
  |.value _=>false
  |_=>true
 |_=>true
def JV (ops:Array Oper):Bool:=ops.toList.all (fun o=>jE o.op)&&Region.lexB .any ops
def aCm (rb:St->(Ex->St->Option R)->Option R) (K:Ex->St->Option R):Ex->St->Option R:=fun e st=>match e with
 |.normal=>rb st K
 |e=>K e st
def uq (id:Nat) (K:Ex->St->Option R):Ex->St->Option R:=fun e st=>match e with
 |.exit i=>bif i==id then K .normal st else K (.exit i) st
 |e=>K e st
def yD (F:St->(Ex->St->Option R)->Option R):St->(Ex->St->Option R)->Option R:=fun st K=>F st fun e st=>match e with
 |.normal=>K (.exit 999999) st
 |.exit i=>bif Nat.beq i 999999 then none else K (.exit i) st
 |e=>K e st
def cutAt (E:Env) (f:FuncId) (k:Nat) (F:St->(Ex->St->Option R)->Option R) (st:St) (K:Ex->St->Option R):Option R:=
 match E.lp f k with
 |some L=>bif L.dep.ble E.dp then(match L.get st with
  |some v=>bz (L.spec v) fun o=>dL o (fun a=>uq 999999 K (L.exA v) (L.stA st v a)) fun b=>uq 999999 K (L.exB v) (L.stB st v b)
  |none=>none)else none
 |none=>match E.kp f k with
  |none=>F st K
  |some kp=>match Ku kp.slots kp.owns st with
   |some st=>iter (some kp) (yD F) bP st (uq 999999 K)
   |none=>none
def ao1 (K:Ex->St->Option R):Ex->St->Option R:=fun e st=>match e with
 |.goto _=>none
 |e=>K e st
def FH (k:Option dM) (st:St):St:=match k with
 |some k=>{st with fr:=Gs k.slots 0 st.fr}
 |none=>st
def run (E:Env) (ex:mP R) (exd:VW) (f:FuncId):Code->St->(Ex->St->Option R)->Option R
 |.skip,st,K=>K .normal st
 |.label _,st,K=>K .normal st
 |.region id ops draw,st,K=>
  let st:=FH (E.kp f (600000+id)) st
  bif draw then(bif JV ops&&ops.toList.all (fun o=>iq o.op)then gZ E.T E.cl (PH E exd.q) ops (K .normal) ops.toList st else match afc ops with
   |some l=>gZ E.T E.cl (wu E ex) ops (K .normal) l st
   |none=>bif JV ops&&ops.toList.all (fun o=>aAs E.sb o.op)then gZ E.T E.cl (PH E exd.q) ops (K .normal) ops.toList st else bif mi ops then lY E.T E.cl E.sg (wu E exd.s) (wu E exd.u) ops (ops.size+1) (wu E ex) (Array.replicate ops.size false) [] st (K .normal)else none)
  else gZ E.T E.cl (wu E ex) ops (K .normal) ops.toList st
 |.seq a b,st,K=>run E ex exd f a st (aCm (cutAt E f (800000+cZ b) (run E ex exd f b)) K)
 |.cond c x y,st,K=>match gK st.fr c with
  |.val .bool b=>bif b then run E ex exd f x st K else run E ex exd f y st K
  |_=>none
 |.block id c,st,K=>run E ex exd f c st (uq id K)
 |.loop c,st,K=>match E.lp f (cZ c)with
  |some L=>bif L.dep.ble E.dp then(match L.get st with
   |some v=>bz (L.spec v) fun o=>dL o (fun a=>K (L.exA v) (L.stA st v a)) fun b=>K (L.exB v) (L.stB st v b)
   |none=>none)else none
  |none=>match E.kp f (cZ c)with
   |none=>iter none (run E ex exd f c) bP st K
   |some k=>match Ku k.slots k.owns st with
    |some st=>iter (some k) (run E ex exd f c) bP st K
    |none=>none
 |.exit id,st,K=>K (.exit id) st
 |.goto l,st,K=>K (.goto l) st
 |.ret,st,K=>K .ret st
 |.scope c,st,K=>run E ex exd f c st (ao1 K)
 |.rangeFunc fv ps iY bd,st,K=>match gK st.fr fv with
  |.fn g caps=>
   let st:=FH (E.kp f (500000+cZ bd)) st
   alloc E.cl (some (700000+ps.toList.headD 0)) (.lp f st.fr ps.toList iY bd (bif E.rf f (cZ bd)then some (cZ bd)else none) 0 none) st fun id st=>
    ex (.call g (.yld id::caps)) {st with stk:=[.yld id]::st.stk} fun _ st=>match st.stk with
     |[.yld id]::stk=>match dH st.hp id with
      |some (.lp _ _ _ _ _ _ 0 none)=>K .normal {st with stk:=stk,hp:=iV st.hp id .dead}
      |some (.lp _ _ _ _ _ _ 1 (some e))=>K e {st with stk:=stk,hp:=iV st.hp id .dead}
      |_=>none
     |_=>none
  |_=>none
 |.refuse _,_,_=>none
def rD (T:TT) (st:St):List ResultVar->(List bG->Option R)->Option R
 |[],K=>K []
 |.tmp t::l,K=>rD T st l fun vs=>K (st.fr.getD t .undef::vs)
 |.cell a t::l,K=>KI T st.hp t (st.fr.getD a .undef) fun v=>rD T st l fun vs=>K (v::vs)
def vT (fr:List bG):List Nat->List bG->List bG
 |p::ps,v::vs=>vT (fr.set p v) ps vs
 |_,_=>fr
def pop (st:St) (K:St->Option R):Option R:=
 match st.stk with
 |fr::stk=>K {st with fr:=fr,stk:=stk}
 |[]=>none
def Env.keyed (E:Env):Option Nat->Env
 |some _=>E
 |none=>{E with lp:=fun _ _=>none,rf:=fun _ _=>false}
def lF (E:Env):Nat->{R:Type}->mP R
 |0,_,_,_,_=>none
 |n+1,R,.call f args,st,K=>match E.P.funcs[f]? with
  |none=>none
  |some fn=>match fn.body with
   |none=>none
   |some c=>bif args.length.ble fn.ntmps then
     (run (E.at n) (lF E n) ⟨fun j st=>lF E n (R:=bG) j st fun v _=>some v,lF E n,lF E n⟩ f c {fr:=args++List.replicate (fn.ntmps-args.length) (.tup []),stk:=st.fr::st.stk,hp:=st.hp,nxt:=st.nxt} fun e st1=>
      match e with
      |.normal|.ret=>rD E.T st1 fn.results.toList fun vs=>
       let v:=match vs with
        |[v]=>v
        |vs=>.tup vs
       match gc (bif E.cl then st.nxt else 1000000*st1.stk.length) v {st1 with fr:=[]}with
       |some st2=>pop st2 (K v)
       |none=>none
      |_=>none)else none
 |n+1,R,.yield id args,st,K=>match dH st.hp id with
  |some (.lp f fr0 ps iY bd ky 0 none)=>bif args.length==ps.length then
    (run ((E.at n).keyed ky) (lF E n) ⟨fun j st=>lF E n (R:=bG) j st fun v _=>some v,lF E n,lF E n⟩ f iY {fr:=vT fr0 ps args,stk:=[.yld id]::st.fr::st.stk,hp:=st.hp,nxt:=st.nxt} fun e st1=>match e,st1.stk with
     |.normal,[.yld id]::_=>match dH st1.hp id with
      |some (.lp f1 fr1 ps1 asg1 bd1 ky1 0 none)=>run ((E.at n).keyed ky) (lF E n) ⟨fun j st=>lF E n (R:=bG) j st fun v _=>some v,lF E n,lF E n⟩ f bd {st1 with hp:=iV st1.hp id (.lp f1 fr1 ps1 asg1 bd1 ky1 2 none)} fun e st2=>match st2.stk with
       |[.yld id]::stk=>match dH st2.hp id with
        |some (.lp f2 fr2 ps2 asg2 bd2 ky2 2 none)=>
         match gc (bif E.cl then st.nxt else 1000000*st2.stk.length) .undef {st2 with fr:=[],stk:=stk,hp:=iV st2.hp id (match e with|.normal=>.lp f2 fr2 ps2 asg2 bd2 ky2 0 none|e=>.lp f2 fr2 ps2 asg2 bd2 ky2 1 (some e))}with
         |some st3=>pop st3 (K (.val .bool (match e with|.normal=>true|_=>false)))
         |none=>none
        |_=>none
       |_=>none
      |_=>none
     |_,_=>none)else none
  |_=>none
end
end
section
open List renaming length_append → ag, append_assoc → ai, length_cons → aB, nil_append → aH, drop_of_length_le → aJ, eq_nil_of_length_eq_zero → bg
open Nat renaming le_refl → ae, lt_or_ge → aP
open Tryz
open Go.RowKit
def oD:TypeId:=5
def Uk:TypeId:=108
def Io:Code->Nat->Option (Code×Code)
 |.rangeFunc _ _ iY bd,k=>if cZ bd=k then some (iY,bd)else match Io iY k with
  |some x=>some x
  |none=>Io bd k
 |.seq a b,k=>match Io a k with
  |some x=>some x
  |none=>Io b k
 |.cond _ a b,k=>match Io a k with
  |some x=>some x
  |none=>Io b k
 |.block _ c,k=>Io c k
 |.loop c,k=>Io c k
 |.scope c,k=>Io c k
 |_,_=>none
def aAC (P:Program) (f:FuncId) (k:Nat):Option (Code×Code):=
 match P.funcs[f]? with
 |some fn=>match fn.body with
  |some c=>Io c k
  |none=>none
 |none=>none
noncomputable def qJ (f:FuncId) (k:Nat):Option (Code×Code):=aAC prog f k
def gV (w:World) (b o:Nat) (zs:List Value):Prop:= ∀j (h:j<zs.length),w.cell? ⟨b,o+j,none⟩=some zs[j]
theorem gV.of_block {w w':World} {b o:Nat} {zs:List Value} (h:gV w b o zs) (hb:w'.heap[b]? =w.heap[b]?):gV w' b o zs:=
 fun j hj=>(World.cell?_of_block (w:=w) (a:=⟨b,o+j,none⟩) hb).trans (h j hj)
theorem gV.append {w:World} {b o:Nat} {xs ys:List Value}:gV w b o (xs++ys)↔gV w b o xs/\gV w b (o+xs.length) ys:=by
 constructor
 ·intro h;refine⟨fun j hj=> ?_,fun j hj=> ?_⟩
  ·have:=h j (by simp;omega);simp_all
  ·have:=h (xs.length+j) (by simp;omega)
   grind
 ·rintro ⟨h1,h2⟩ j hj;rcases aP j xs.length with h|h
  ·rw[List.getElem_append_left h];exact h1 j h
  ·rw[List.getElem_append_right h];have:=h2 (j-xs.length) (by simp at hj;omega)
   grind
def fQ {α:Type} (R:α->List Value->Prop) (size:Nat):List α->List Value->Prop
 |[],zs=>zs=[]
 |x::xs,zs=> ∃c rest,zs=c++rest/\c.length=size/\R x c/\fQ R size xs rest
theorem fQ.mono {α:Type} {R R':α->List Value->Prop} {size:Nat} (h: ∀x c,R x c->R' x c): ∀(xs:List α) (zs:List Value),fQ R size xs zs->fQ R' size xs zs
 |[],_,hh=>hh
 |_::xs,_,⟨c,rest,h1,h2,h3,h4⟩=>⟨c,rest,h1,h2,h _ _ h3,fQ.mono h xs rest h4⟩
theorem fQ.length {α:Type} {R:α->List Value->Prop} {size:Nat}: ∀(xs:List α) (zs:List Value),fQ R size xs zs->zs.length=xs.length*size
 |[],_,hh=>by cases hh;simp
 |_::xs,_,⟨c,rest,h1,h2,h3,h4⟩=>by
  subst h1;simp only[ag,aB,h2,fQ.length xs rest h4,Nat.add_mul,Nat.one_mul];omega
theorem fQ.append {α:Type} {R:α->List Value->Prop} {size:Nat}: ∀(xs:List α) (zs:List Value) (ys:List α) (us:List Value),fQ R size xs zs->fQ R size ys us->fQ R size (xs++ys) (zs++us)
 |[],_,ys,us,hh,h=>by cases hh;exact h
 |x::xs,_,ys,us,⟨c,rest,h1,h2,h3,h4⟩,h=>by
  subst h1;exact⟨c,rest++us,by simp,h2,h3,fQ.append xs rest ys us h4 h⟩
theorem fQ.take {α:Type} {R:α->List Value->Prop} {size:Nat}: ∀(k:Nat) (xs:List α) (zs:List Value),fQ R size xs zs->fQ R size (xs.take k) (zs.take (k*size))
 |0,_,_,_=>by simp[fQ]
 |k+1,[],_,hh=>by cases hh;simp[fQ]
 |k+1,x::xs,_,⟨c,rest,h1,h2,h3,h4⟩=>by
  subst h1;refine⟨c,rest.take (k*size), ?_,h2,h3,fQ.take k xs rest h4⟩;simp_all [List.take_append,List.take_of_length_le,Nat.add_mul]
theorem fQ.drop {α:Type} {R:α->List Value->Prop} {size:Nat}: ∀(k:Nat) (xs:List α) (zs:List Value),fQ R size xs zs->fQ R size (xs.drop k) (zs.drop (k*size))
 |0,_,_,h=>by simpa using h
 |k+1,[],_,hh=>by cases hh;simp[fQ]
 |k+1,x::xs,_,⟨c,rest,h1,h2,h3,h4⟩=>by
  subst h1;have:(c++rest).drop ((k+1)*size)=rest.drop (k*size):=by
   rw[List.drop_append,aJ (by rw[h2,Nat.add_mul];omega),aH,h2,Nat.add_mul];congr 1;omega
  rw[this,List.drop_succ_cons];exact fQ.drop k xs rest h4
theorem fQ.at_ {α:Type} {R:α->List Value->Prop} {size:Nat}: ∀(i:Nat) (xs:List α) (zs:List Value) (hi:i<xs.length),fQ R size xs zs->
  ∃c,c.length=size/\R xs[i] c/\ ∃l1 l2,zs=l1++c++l2/\l1.length=i*size
 |i,[],_,hi,_=>by simp at hi
 |0,x::xs,_,_,⟨c,rest,h1,h2,h3,h4⟩=>⟨c,h2,h3,[],rest,by simp[h1],by simp⟩
 |i+1,x::xs,_,hi,⟨c,rest,h1,h2,h3,h4⟩=>by
  obtain⟨c',e1,e2,l1,l2,e3,e4⟩:=fQ.at_ i xs rest (by simpa using hi) h4
  grind
theorem fQ.set {α:Type} {R:α->List Value->Prop} {size:Nat} (y:α) (d:List Value) (hd:d.length=size) (hy:R y d): ∀(i:Nat) (xs:List α) (l1 c l2:List Value),
  i<xs.length->fQ R size xs (l1++c++l2)->l1.length=i*size->c.length=size->fQ R size (xs.set i y) (l1++d++l2)
 |i,[],_,_,_,hi,_,_,_=>by simp at hi
 |0,x::xs,l1,c,l2,_,⟨c0,rest,h1,h2,h3,h4⟩,hl,hc=>by
  have:l1=[]:=bg (by simpa using hl);subst this;simp only[aH]at h1 ⊢;obtain⟨e1,e2⟩:=List.append_inj h1 (by rw[hc,h2]);subst e2;exact⟨d,l2,rfl,hd,hy,h4⟩
 |i+1,x::xs,l1,c,l2,hi,⟨c0,rest,h1,h2,h3,h4⟩,hl,hc=>by
  have hl':size<=l1.length:=by grind
  have e0:l1=l1.take size++l1.drop size:=(List.take_append_drop size l1).symm;rw[e0,ai,ai]at h1;obtain⟨e1,e2⟩:=List.append_inj h1 (by grind);have:=fQ.set y d hd hy i xs (l1.drop size) c l2 (by simpa using hi) (by grind) (by grind) hc;refine⟨c0,l1.drop size++d++l2, ?_,h2,h3,this⟩
  grind
def eY (w:World) (fr:Nat->Prop):(t:Ty)->t.den->List Value->Prop
 |.unit,_,cs=>cs=[]
 |.bool,x,cs=>cs=[.bool x]
 |.int k,x,cs=>cs=[.int k x]
 |.str,x,cs=>cs=[.string ⟨x.toArray⟩]
 |.list t,xs,cs=> ∃a c zs,cs=[.slice a xs.length c]/\xs.length<=c/\fQ (eY w fr t) t.size xs zs/\(zs=[]\/ ∃b off,a=some ⟨b,off,none⟩/\fr b/\gV w b off zs)
 |.pair a b,x,cs=> ∃l1 l2,cs=l1++l2/\eY w fr a x.1 l1/\eY w fr b x.2 l2
theorem eY.mono {w w':World} {fr fr':Nat->Prop} (h: ∀b,fr b->fr' b/\w'.heap[b]? =w.heap[b]?): ∀(t:Ty) (x:t.den) (cs:List Value),eY w fr t x cs->eY w' fr' t x cs
 |.unit,_,_,hh=>hh
 |.bool,_,_,hh=>hh
 |.int _,_,_,hh=>hh
 |.str,_,_,hh=>hh
 |.list t,xs,_,⟨a,c,zs,h1,h2,h3,h4⟩=>⟨a,c,zs,h1,h2,fQ.mono (eY.mono h t) xs zs h3,h4.imp id fun⟨b,off,e1,e2,e3⟩=>⟨b,off,e1,(h b e2).1,e3.of_block (h b e2).2⟩⟩
 |.pair a b,x,_,⟨l1,l2,h1,h2,h3⟩=>⟨l1,l2,h1,eY.mono h a x.1 l1 h2,eY.mono h b x.2 l2 h3⟩
theorem eY.length {w:World} {fr:Nat->Prop}: ∀(t:Ty) (x:t.den) (cs:List Value),eY w fr t x cs->cs.length=t.size
 |.unit,_,_,hh=>by cases hh;rfl
 |.bool,_,_,hh=>by cases hh;rfl
 |.int _,_,_,hh=>by cases hh;rfl
 |.str,_,_,hh=>by cases hh;rfl
 |.list t,xs,_,⟨a,c,zs,h1,_⟩=>by subst h1;rfl
 |.pair a b,x,_,⟨l1,l2,h1,h2,h3⟩=>by subst h1;simp[Ty.size,eY.length a x.1 l1 h2,eY.length b x.2 l2 h3]
theorem eY.one {w:World} {fr:Nat->Prop}: ∀(t:Ty) (x:t.den) (cs:List Value),eY w fr t x cs-> ∀v∈cs,v.oneCell'=true
 |.unit,_,_,hh=>by cases hh;simp
 |.bool,_,_,hh=>by cases hh;simp[Value.oneCell']
 |.int _,_,_,hh=>by cases hh;simp[Value.oneCell']
 |.str,_,_,hh=>by cases hh;simp[Value.oneCell']
 |.list t,xs,_,⟨a,c,zs,h1,_⟩=>by subst h1;simp[Value.oneCell']
 |.pair a b,x,_,⟨l1,l2,h1,h2,h3⟩=>by
  subst h1;intro v hv;rcases List.mem_append.1 hv with hv|hv
  ·exact eY.one a x.1 l1 h2 v hv
  ·exact eY.one b x.2 l2 h3 v hv
structure Loc where
 blk:Nat
 v:Value
structure Cx where
 mu:Nat->Loc
 hp:gz
 nxt:Nat
 w:World
 mks:List Nat
 bar:Nat->Prop
def dD.blk:dD->Loc->Option Nat
 |.box _ _,l=>some l.blk
 |.arr _ _ _,l=>l.v.ownBlock
 |.lp _ _ _ _ _ _ _ _,l=>some l.blk
 |.dead,_=>none
 |.mp _ _ _,l=>some l.blk
def Cx.own (c:Cx) (b:Nat):Prop:= ∃id o,dH c.hp id=some o/\o.blk (c.mu id)=some b
def Cx.free (c:Cx) (b:Nat):Prop:=b<c.w.heap.size/\ ¬c.own b/\b∉c.mks/\ ¬c.bar b
def Cx.out (c:Cx) (b:Nat):Prop:=b<c.w.heap.size/\ ¬c.own b/\b∉c.mks
def Cx.known (c:Cx) (id:Nat):Prop:=(∃o,dH c.hp id=some o)\/id<c.nxt
def VD (c:Cx) (t:Ty) (x:t.den) (v:Value):Prop:=
 (t.isAgg=true-> ∃cs,v=.agg cs/\eY c.w c.free t x cs.toList)/\(t.isAgg=false->eY c.w c.free t x [v])
def iT (size:Nat) (s:Value):Option (Int×Int)->Value->Prop
 |none,v=>v=s
 |some (lo,hi),v=> ∃a n c,s=.slice a n c/\0<=lo/\lo<=hi/\hi<=n/\v=.slice (if c=lo.toNat then a else a.map (·.add (lo.toNat*size))) (hi.toNat-lo.toNat) (c-lo.toNat)
mutual
def bJ (c:Cx):bG->Value->Prop
 |.undef,_=>True
 |.val t x,v=>VD c t x v
 |.nils,v=>v=.slice none 0 0
 |.emp,v=> ∃a,v=.slice a 0 0
 |.lst e xs b,v=>VD c (.list e) xs v/\ ∃a n m,v=.slice a n m/\b=a.isNone
 |.nilp,v=>v=.pointer none
 |.nilfn,v=>v=.nilFunc
 |.tup l,v=> ∃vs,v=.tuple vs/\bF c l vs.toList
 |.agg l,v=> ∃vs,v=.agg vs/\bF c l vs.toList/\ ∀u∈vs.toList,u.oneCell'=true
 |.cellp t x,v=> ∃b o zs,v=.pointer (some ⟨b,o,none⟩)/\c.free b/\gV c.w b o zs/\eY c.w c.free t x zs
 |.ptr id off,v=>v.oneCell'=true/\c.known id/\ ∀t cs,dH c.hp id=some (.box t cs)->v=.pointer (some ⟨(c.mu id).blk,off,none⟩)
 |.slf id,v=>v.oneCell'=true/\c.known id/\ ∀t cs,dH c.hp id=some (.box t cs)->v=.pointer none\/v=.pointer (some ⟨(c.mu id).blk,0,none⟩)
 |.sd id ver,v=>v.oneCell'=true/\c.known id/\ ∀t u xs,dH c.hp id=some (.arr t u xs)->ver<=u/\(u=ver->(∃p,v=.pointer p)/\ ∀a n cp,(c.mu id).v=.slice a n cp->n≠0->v=.pointer a)
 |.slc id ver vw,v=>v.oneCell'=true/\c.known id/\ ∀t u xs,dH c.hp id=some (.arr t u xs)->ver<=u/\(u=ver->iT t.size (c.mu id).v vw v)
 |.ep id ver i off,v=>v.oneCell'=true/\c.known id/\ ∀t u xs,dH c.hp id=some (.arr t u xs)->ver<=u/\(u=ver-> ∃g n cp,(c.mu id).v=.slice (some ⟨g,0,none⟩) n cp/\v=.pointer (some ⟨g,i*t.size+off,none⟩))
 |.fn f l,v=> ∃vs,v=.func (.func f) #[] vs/\bF c l vs.toList
 |.mfn f l,v=> ∃vs,v=.func (.func f) vs #[]/\bF c l vs.toList
 |.mpv id,v=>v.oneCell'=true/\c.known id/\ ∀kk vk es,dH c.hp id=some (.mp kk vk es)->v=.map (some (c.mu id).blk)
 |.yld id,v=>v.oneCell'=true/\c.known id/\ ∀f fr ps iY bd ky n p,dH c.hp id=some (.lp f fr ps iY bd ky n p)->v=.func (.yield (c.mu id).blk) #[] #[]
def bF (c:Cx):List bG->List Value->Prop
 |[],[]=>True
 |v::l,x::xs=>bJ c v x/\bF c l xs
 |_,_=>False
end
def dD.like:dD->Loc->dD->Loc->Prop
 |.box _ _,l,.box _ _,l'=>l'.blk=l.blk
 |.lp _ _ _ _ _ _ _ _,l,.lp _ _ _ _ _ _ _ _,l'=>l'.blk=l.blk
 |.mp _ _ _,l,.mp _ _ _,l'=>l'.blk=l.blk
 |_,_,.dead,_=>True
 |.arr t v _,l,.arr t' v' _,l'=>v<=v'/\(v=v'->t=t'/\l'.v=l.v)
 |_,_,_,_=>False
structure Cx.Le0 (c c':Cx):Prop where
 out: ∀b,c.out b->c'.out b/\c'.w.heap[b]? =c.w.heap[b]?
 ref: ∀id,c.known id->c'.known id
 obj: ∀id o',c.known id->dH c'.hp id=some o'-> ∃o,dH c.hp id=some o/\o.like (c.mu id) o' (c'.mu id)
 bar:c'.bar=c.bar
structure Cx.Le (c c':Cx):Prop where
 out: ∀b,c.out b->c'.out b/\c'.w.heap[b]? =c.w.heap[b]?
 ref: ∀id,c.known id->c'.known id
 obj: ∀id o',c.known id->dH c'.hp id=some o'-> ∃o,dH c.hp id=some o/\o.like (c.mu id) o' (c'.mu id)
 mks: ∀r,r∈c.mks->r∈c'.mks
 lp: ∀(b:Nat) (L:Loop),c.w.heap[b]? =some (Obj.loop L)-> ∃L':Loop,c'.w.heap[b]? =some (Obj.loop L')
 size:c.w.heap.size<=c'.w.heap.size
 bar:c'.bar=c.bar
theorem Cx.Le0.free {c c':Cx} (h:c.Le0 c') (b:Nat) (hb:c.free b):c'.free b/\c'.w.heap[b]? =c.w.heap[b]? :=
 let⟨⟨h1,h2,h3⟩,h4⟩:=h.out b ⟨hb.1,hb.2.1,hb.2.2.1⟩
 ⟨⟨h1,h2,h3,by rw[h.bar];exact hb.2.2.2⟩,h4⟩
theorem Cx.Le.free {c c':Cx} (h:c.Le c') (b:Nat) (hb:c.free b):c'.free b/\c'.w.heap[b]? =c.w.heap[b]? :=
 let⟨⟨h1,h2,h3⟩,h4⟩:=h.out b ⟨hb.1,hb.2.1,hb.2.2.1⟩
 ⟨⟨h1,h2,h3,by rw[h.bar];exact hb.2.2.2⟩,h4⟩
theorem dD.like_refl (o:dD) (l:Loc):o.like l o l:=by cases o<;>simp[dD.like]
theorem dD.like_trans {a b d:dD} {l m n:Loc} (h:a.like l b m) (k:b.like m d n):a.like l d n:=by
 cases d with
 |dead=>cases a<;>simp[dD.like]
 |arr t'' v'' xs''=>
  cases b with
  |arr t' v' xs'=>
   cases a with
   |arr t v xs=>
    grind [dD.like]
   |_=>simp[dD.like]at h
  |_=>simp[dD.like]at k
 |box _ _=>cases b<;>cases a<;>simp_all [dD.like]
 |lp _ _ _ _ _ _ _ _=>cases b<;>cases a<;>simp_all [dD.like]
 |mp _ _ _=>cases b<;>cases a<;>simp_all [dD.like]
theorem Cx.Le.refl (c:Cx):c.Le c:=⟨fun _ h=>⟨h,rfl⟩,fun _ h=>h,fun id o h ho=>⟨o,ho,o.like_refl _⟩,fun _ h=>h,fun b L h=>⟨L,h⟩,ae _,rfl⟩
theorem VD.le0 {c c':Cx} (h:c.Le0 c') {t:Ty} {x:t.den} {v:Value} (hv:VD c t x v):VD c' t x v:=
 ⟨fun e=>let⟨cs,h1,h2⟩:=hv.1 e;⟨cs,h1,eY.mono h.free t x _ h2⟩,fun e=>eY.mono h.free t x _ (hv.2 e)⟩
mutual
theorem bJ.le0 {c c':Cx} (h:c.Le0 c'): ∀(v:bG) (x:Value),bJ c v x->bJ c' v x
 |.undef,_,_=>by simp[bJ]
 |.val t x,v,hv=>by simp only[bJ]at hv ⊢;exact hv.le0 h
 |.nils,_,hv=>by assumption
 |.emp,_,hv=>by assumption
 |.lst e xs b,v,hv=>by simp only[bJ]at hv ⊢;exact⟨hv.1.le0 h,hv.2⟩
 |.nilp,_,hv=>by assumption
 |.nilfn,_,hv=>by assumption
 |.tup l,v,hv=>by simp only[bJ]at hv ⊢;obtain⟨vs,h1,h2⟩:=hv;exact⟨vs,h1,bF.le0 h l _ h2⟩
 |.agg l,v,hv=>by simp only[bJ]at hv ⊢;obtain⟨vs,h1,h2,h3⟩:=hv;exact⟨vs,h1,bF.le0 h l _ h2,h3⟩
 |.cellp t x,v,hv=>by
  simp only[bJ]at hv ⊢;obtain⟨b,o,zs,h1,h2,h3,h4⟩:=hv;exact⟨b,o,zs,h1,(h.free b h2).1,h3.of_block (h.free b h2).2,eY.mono h.free t x _ h4⟩
 |.ptr id off,v,hv=>by
  simp only[bJ]at hv ⊢;obtain⟨hone,hv⟩:=hv;refine⟨hone,h.ref id hv.1,fun t cs hc=> ?_⟩;obtain⟨o,h1,h2⟩:=h.obj id _ hv.1 hc;cases o<;>simp only[dD.like]at h2;simp_all
 |.slf id,v,hv=>by
  simp only[bJ]at hv ⊢;obtain⟨hone,hv⟩:=hv;refine⟨hone,h.ref id hv.1,fun t cs hc=> ?_⟩;obtain⟨o,h1,h2⟩:=h.obj id _ hv.1 hc;cases o<;>simp only[dD.like]at h2;simp_all
 |.sd id ver,v,hv=>by
  simp only[bJ]at hv ⊢;obtain⟨hone,hv⟩:=hv;refine⟨hone,h.ref id hv.1,fun t u xs hc=> ?_⟩;obtain⟨o,h1,h2⟩:=h.obj id _ hv.1 hc;cases o with
  |arr t' v' xs'=>
   grind [dD.like]
  |box _ _=>simp[dD.like]at h2
  |lp _ _ _ _ _ _ _ _=>simp[dD.like]at h2
  |dead=>simp[dD.like]at h2
  |mp _ _ _=>simp[dD.like]at h2
 |.slc id ver vw,v,hv=>by
  simp only[bJ]at hv ⊢;obtain⟨hone,hv⟩:=hv;refine⟨hone,h.ref id hv.1,fun t u xs hc=> ?_⟩;obtain⟨o,h1,h2⟩:=h.obj id _ hv.1 hc;cases o with
  |arr t' v' xs'=>
   grind [dD.like]
  |box _ _=>simp[dD.like]at h2
  |lp _ _ _ _ _ _ _ _=>simp[dD.like]at h2
  |dead=>simp[dD.like]at h2
  |mp _ _ _=>simp[dD.like]at h2
 |.ep id ver i off,v,hv=>by
  simp only[bJ]at hv ⊢;obtain⟨hone,hv⟩:=hv;refine⟨hone,h.ref id hv.1,fun t u xs hc=> ?_⟩;obtain⟨o,h1,h2⟩:=h.obj id _ hv.1 hc;cases o with
  |arr t' v' xs'=>
   grind [dD.like]
  |box _ _=>simp[dD.like]at h2
  |lp _ _ _ _ _ _ _ _=>simp[dD.like]at h2
  |dead=>simp[dD.like]at h2
  |mp _ _ _=>simp[dD.like]at h2
 |.fn f l,v,hv=>by simp only[bJ]at hv ⊢;obtain⟨vs,h1,h2⟩:=hv;exact⟨vs,h1,bF.le0 h l _ h2⟩
 |.mfn f l,v,hv=>by simp only[bJ]at hv ⊢;obtain⟨vs,h1,h2⟩:=hv;exact⟨vs,h1,bF.le0 h l _ h2⟩
 |.mpv id,v,hv=>by
  simp only[bJ]at hv ⊢;obtain⟨hone,hv⟩:=hv;refine⟨hone,h.ref id hv.1,fun kk vk es hc=> ?_⟩;obtain⟨o,h1,h2⟩:=h.obj id _ hv.1 hc;cases o<;>simp only[dD.like]at h2;simp_all
 |.yld id,v,hv=>by
  simp only[bJ]at hv ⊢;obtain⟨hone,hv⟩:=hv;refine⟨hone,h.ref id hv.1,fun f fr ps iY bd ky n p hc=> ?_⟩;obtain⟨o,h1,h2⟩:=h.obj id _ hv.1 hc;cases o<;>simp only[dD.like]at h2;simp_all
theorem bF.le0 {c c':Cx} (h:c.Le0 c'): ∀(l:List bG) (xs:List Value),bF c l xs->bF c' l xs
 |[],[],_=>by simp[bF]
 |v::l,x::xs,hv=>by simp only[bF]at hv ⊢;exact⟨bJ.le0 h v x hv.1,bF.le0 h l xs hv.2⟩
 |[],_::_,hv=>by simp[bF]at hv
 |_::_,[],hv=>by simp[bF]at hv
end
theorem Cx.Le.le0 {c c':Cx} (h:c.Le c'):c.Le0 c':=⟨h.out,h.ref,h.obj,h.bar⟩
theorem bJ.le {c c':Cx} (h:c.Le c') (v:bG) (x:Value) (hv:bJ c v x):bJ c' v x:=bJ.le0 h.le0 v x hv
theorem bF.le {c c':Cx} (h:c.Le c') (l:List bG) (xs:List Value) (hv:bF c l xs):bF c' l xs:=bF.le0 h.le0 l xs hv
end
section
open Go.RowKit
def ac7 (w:World):Prop:=True
theorem ac7.below {w w':World} (hb:Below w.heap.size w w') (h:ac7 w):ac7 w':=trivial
def ac6 (w:World):Prop:= ∃m,w.cell? ⟨0,0,none⟩=some (.int .i64 m)
theorem ac6.below {w w':World} (hb:Below w.heap.size w w') (h:ac6 w):ac6 w':=by
 obtain⟨m,hm⟩:=h;exact⟨m,(hb.cell (World.block_lt_of_cell? w _ hm)).trans hm⟩
def Phi (w:World):Prop:=ac7 w/\ac6 w
theorem Phi.below {w w':World} (hb:Below w.heap.size w w') (h:Phi w):Phi w':=⟨h.1.below hb,h.2.below hb⟩
end
section
open Nat renaming le_trans → aO, lt_of_lt_of_le → aZ
open Go.RowKit
theorem Cx.Le.trans {a b c:Cx} (h:a.Le b) (k:b.Le c):a.Le c:=
 ⟨fun x hx=>⟨(k.out x (h.out x hx).1).1,(k.out x (h.out x hx).1).2.trans (h.out x hx).2⟩,fun i hi=>k.ref i (h.ref i hi),fun i o hi ho=>by
  obtain⟨p,h1,h2⟩:=k.obj i o (h.ref i hi) ho;obtain⟨q,h3,h4⟩:=h.obj i p hi h1
  grind [dD.like_trans],fun r hr=>k.mks r (h.mks r hr),fun b L hL=>let⟨L1,h1⟩:=h.lp b L hL;k.lp b L1 h1,aO h.size k.size,k.bar.trans h.bar⟩
theorem dV (k:Nat) (o:dD) (h:gz) (i:Nat):dH ((k,o)::h) i=if k=i then some o else dH h i:=by
 simp_all [dH]
theorem jl: ∀(h:gz) (i:Nat) (o:dD) (j:Nat),dH (iV h i o) j=if i=j then(dH h i).map fun _=>o else dH h j
 |[],i,o,j=>by simp[iV,dH]
 |(k,p)::h,i,o,j=>by
  simp only[iV];by_cases e:k=i
  ·simp_all [dV]
  ·have e':(k==i)=false:=by simpa using e
   simp only[e',cond_false,dV,jl h i o j]
   grind
theorem Ql {h:gz} {i:Nat} {o p:dD} (hi:dH h i=some p):dH (iV h i o) i=some o:=by rw[jl];simp[hi]
def upd (mu:Nat->Loc) (id:Nat) (l:Loc):Nat->Loc:=fun j=>if j=id then l else mu j
theorem upd_same (mu:Nat->Loc) (id:Nat) (l:Loc):upd mu id l id=l:=by simp[upd]
theorem upd_ne (mu:Nat->Loc) {id j:Nat} (l:Loc) (h:j≠id):upd mu id l j=mu j:=by simp[upd,h]
def Ex.code:Ex->Option Code
 |.normal=>none
 |.exit id=>some (.exit id)
 |.goto l=>some (.goto l)
 |.ret=>some .ret
def alV:Nat->Option Ex->Loop->Prop
 |0,none,L=>L.state=.ready/\L.pending=none
 |1,some e,L=>L.state=.done/\L.pending=e.code/\e.code≠none
 |2,none,L=>L.state=.busy
 |_,_,_=>False
def Cx.ORel (B:Nat) (c:Cx) (id:Nat):dD->Prop
 |.box e cs=>B<=(c.mu id).blk/\ ∃vs,c.w.heap[(c.mu id).blk]? =some (.cells vs e (0,0))/\bF c cs vs.toList/\ ∀u∈vs.toList,u.oneCell'=true
 |.arr t ver xs=>0<t.size/\ ∃e zs,c.w.ownsRow B e t.size (c.mu id).v xs.length zs/\fQ (eY c.w c.free t) t.size xs zs/\(t=.int .u8->e=oD)
 |.lp f fr ps iY bd ky n p=>(∀k,ky=some k->qJ f k=some (iY,bd))/\B<=(c.mu id).blk/\ ∃L:Loop,c.w.heap[(c.mu id).blk]? =some (Obj.loop L)/\bF c fr L.tmps.toList/\L.params.toList=ps/\L.assign=iY/\L.body=bd/\alV n p L
 |.dead=>True
 |.mp kk vk es=>B<=(c.mu id).blk/\ ∃ms clock,c.w.heap[(c.mu id).blk]? =some (.map ms clock)/\ms.toList.map (fun e=>(e.key,e.val))=es.map fun p=>(Value.int kk p.1,Value.int vk p.2)
structure Cx.Ok (W0:World) (c:Cx):Prop where
 bel:Below W0.heap.size W0 c.w
 obj: ∀id o,dH c.hp id=some o->c.ORel W0.heap.size id o
 inj: ∀i j o p b,dH c.hp i=some o->dH c.hp j=some p->o.blk (c.mu i)=some b->p.blk (c.mu j)=some b->i=j
 mks: ∀r,r∈c.mks->W0.heap.size<=r/\c.w.heap[r]? =some (.deferred (some []))
 bar: ∀b,c.bar b->c.out b
 phi:Phi W0
theorem Cx.Ok.phiw {W0:World} {c:Cx} (h:c.Ok W0):Phi c.w:=Phi.below h.bel h.phi
theorem Cx.ORel.lt {B:Nat} {c:Cx} {id:Nat} {o:dD} (h:c.ORel B id o) {b:Nat} (hb:o.blk (c.mu id)=some b):B<=b/\b<c.w.heap.size:=by
 cases o with
 |box e cs=>
  simp only[dD.blk,Option.some.injEq]at hb;subst hb;obtain⟨h1,vs,h2,_⟩:=h
  grind
 |arr t ver xs=>
  simp only[dD.blk]at hb;obtain⟨_,e,zs,h1,_⟩:=h;exact World.ownsRow.lt h1 b hb
 |lp _ _ _ _ _ _ _ _=>
  simp only[dD.blk,Option.some.injEq]at hb;subst hb;obtain⟨_,h1,L,h2,_⟩:=h
  grind
 |dead=>cases hb
 |mp _ _ _=>
  simp only[dD.blk,Option.some.injEq]at hb;subst hb;obtain⟨h1,ms,cl,h2,_⟩:=h
  grind
theorem Cx.ORel.no_mark {B:Nat} {c:Cx} {id:Nat} {o:dD} (h:c.ORel B id o) {b:Nat} (hb:o.blk (c.mu id)=some b) {d:Option (List Deferred)}:c.w.heap[b]? ≠some (.deferred d):=by
 intro hd;cases o with
 |box e cs=>
  simp only[dD.blk,Option.some.injEq]at hb;subst hb;obtain⟨h1,vs,h2,_⟩:=h;simp_all
 |arr t ver xs=>
  simp only[dD.blk]at hb;obtain⟨_,e,zs,h1,_⟩:=h;rcases h1.2 with ⟨e1,_⟩|⟨g,cap,cur,e1,_,e2,_⟩
  ·rw[e1]at hb;cases hb
  ·rw[e1]at hb;cases hb;simp_all
 |lp _ _ _ _ _ _ _ _=>
  simp only[dD.blk,Option.some.injEq]at hb;subst hb;obtain⟨_,h1,L,h2,_⟩:=h;simp_all
 |dead=>cases hb
 |mp _ _ _=>
  simp only[dD.blk,Option.some.injEq]at hb;subst hb;obtain⟨h1,ms,cl,h2,_⟩:=h;simp_all
theorem Cx.ORel.no_loop {B:Nat} {c:Cx} {id:Nat} {o:dD} (h:c.ORel B id o) (ho: ∀f fr ps iY bd ky n p,o≠ .lp f fr ps iY bd ky n p) {b:Nat} (hb:o.blk (c.mu id)=some b) {L:Loop}:c.w.heap[b]? ≠some (Obj.loop L):=by
 intro hd;cases o with
 |box e cs=>
  simp only[dD.blk,Option.some.injEq]at hb;subst hb;obtain⟨h1,vs,h2,_⟩:=h;simp_all
 |arr t ver xs=>
  simp only[dD.blk]at hb;obtain⟨_,e,zs,h1,_⟩:=h;rcases h1.2 with ⟨e1,_⟩|⟨g,cap,cur,e1,_,e2,_⟩
  ·rw[e1]at hb;cases hb
  ·rw[e1]at hb;cases hb;simp_all
 |lp _ _ _ _ _ _ _ _=>grind
 |dead=>cases hb
 |mp _ _ _=>
  simp only[dD.blk,Option.some.injEq]at hb;subst hb;obtain⟨h1,ms,cl,h2,_⟩:=h;simp_all
theorem Cx.Ok.mark_lt {W0:World} {c:Cx} (h:c.Ok W0) {r:Nat} (hr:r∈c.mks):r<c.w.heap.size:=(Array.getElem?_eq_some_iff.1 (h.mks r hr).2).1
theorem Cx.Ok.mark_own {W0:World} {c:Cx} (h:c.Ok W0) {r:Nat} (hr:r∈c.mks): ¬c.own r:=by
 rintro ⟨id,o,h1,h2⟩;exact(h.obj id o h1).no_mark h2 (h.mks r hr).2
theorem Cx.Ok.own_lt {W0:World} {c:Cx} (h:c.Ok W0) {b:Nat} (hb:c.own b):W0.heap.size<=b/\b<c.w.heap.size:=by
 obtain⟨id,o,h1,h2⟩:=hb;exact(h.obj id o h1).lt h2
theorem Cx.Ok.size {W0:World} {c:Cx} (h:c.Ok W0):W0.heap.size<=c.w.heap.size:=h.bel.size
theorem zX {w w':World} {B:Nat} {e:TypeId} {size n:Nat} {v:Value} {xs:List Value} (h:w.ownsRow B e size v n xs) (hb: ∀b,v.ownBlock=some b->w'.heap[b]? =w.heap[b]?):w'.ownsRow B e size v n xs:=by
 refine⟨h.1, ?_⟩;rcases h.2 with h2|⟨g,cap,cur,h1,h2,h3,h4⟩
 ·exact .inl h2
 ·refine .inr ⟨g,cap,cur,h1,h2, ?_,h4⟩;rw[hb g (by rw[h1];rfl)];exact h3
theorem Cx.ORel.le {B:Nat} {c c':Cx} {id:Nat} {o:dD} (h:c.ORel B id o) (hl:c.Le c') (hm:c'.mu id=c.mu id) (hb: ∀b,o.blk (c.mu id)=some b->c'.w.heap[b]? =c.w.heap[b]?):c'.ORel B id o:=by
 cases o with
 |box e cs=>
  obtain⟨h1,vs,h2,h3,h4⟩:=h;refine⟨by rw[hm];exact h1,vs,by rw[hm,hb _ rfl];exact h2,bF.le hl _ _ h3,h4⟩
 |arr t ver xs=>
  obtain⟨h0,e,zs,h1,h2,h3⟩:=h;refine⟨h0,e,zs, ?_,fQ.mono (eY.mono hl.free t) _ _ h2,h3⟩;rw[hm];exact zX h1 fun b hb'=>hb b hb'
 |lp f fr ps iY bd ky n p=>
  obtain⟨h0,h1,L,h2,h3,h4⟩:=h;exact⟨h0,by rw[hm];exact h1,L,by rw[hm,hb _ rfl];exact h2,bF.le hl _ _ h3,h4⟩
 |dead=>trivial
 |mp kk vk es=>
  obtain⟨h1,ms,cl,h2,h3⟩:=h;exact⟨by rw[hm];exact h1,ms,cl,by rw[hm,hb _ rfl];exact h2,h3⟩
def Cx.at_ (c:Cx) (w:World):Cx:={c with w:=w}
theorem Cx.Le.ext {c:Cx} {w:World} (h:Below c.w.heap.size c.w w):c.Le (c.at_ w):=
 ⟨fun b hb=>⟨⟨aZ hb.1 h.size,hb.2⟩,h.block b hb.1⟩,fun _ h=>h,fun id o _ ho=>⟨o,ho,o.like_refl _⟩,fun _ h=>h,
  fun b L hL=>⟨L,(h.block b (Array.getElem?_eq_some_iff.1 hL).1).trans hL⟩,h.size,rfl⟩
theorem Cx.Ok.ext {W0:World} {c:Cx} {w:World} (hc:c.Ok W0) (h:Below c.w.heap.size c.w w):(c.at_ w).Ok W0:=
 ⟨hc.bel.trans (h.mono hc.size),fun id o ho=>(hc.obj id o ho).le (Cx.Le.ext h) rfl fun b hb=>h.block b ((hc.obj id o ho).lt hb).2,hc.inj,
  fun r hr=>⟨(hc.mks r hr).1,(h.block r (hc.mark_lt hr)).trans (hc.mks r hr).2⟩,fun b hb=>((Cx.Le.ext h).out b (hc.bar b hb)).1,hc.phi⟩
def Cx.push (c:Cx) (id:Nat) (o:dD) (l:Loc) (nxt:Nat) (w:World):Cx:=⟨upd c.mu id l,(id,o)::c.hp,nxt,w,c.mks,c.bar⟩
theorem Cx.Le.push {c:Cx} {id:Nat} {o:dD} {l:Loc} {nxt:Nat} {w:World} (h0: ¬c.known id) (hn:c.nxt<=nxt) (hs:c.w.heap.size<=w.heap.size)
  (hb: ∀b,b<c.w.heap.size->w.heap[b]? =c.w.heap[b]?) (hl: ∀b,o.blk l=some b->c.w.heap.size<=b):c.Le (c.push id o l nxt w):=by
 have hk: ∀j,c.known j->j≠id:=fun j hj e=>h0 (e▸hj);refine⟨fun b hf=>⟨⟨aZ hf.1 hs, ?_,hf.2.2⟩,hb b hf.1⟩,fun j hj=> ?_,fun j p hj hp=> ?_,fun _ h=>h,fun b L hL=>⟨L,(hb b (Array.getElem?_eq_some_iff.1 hL).1).trans hL⟩,hs,rfl⟩
 ·rintro ⟨j,p,h1,h2⟩;simp only[Cx.push,dV]at h1 h2;split at h1
  ·rename_i e
   subst e;cases h1;rw[upd_same]at h2;have:=hl b h2;have:=hf.1;omega
  ·rename_i e
   rw[upd_ne _ _ (Ne.symm e)]at h2;exact hf.2.1 ⟨j,p,h1,h2⟩
 ·rcases hj with ⟨p,hp⟩|hj
  ·left;simp only[Cx.push,dV]
   grind
  ·right;exact aZ hj hn
 ·have hne:=hk j hj;simp only[Cx.push,dV,if_neg (Ne.symm hne)]at hp ⊢;exact⟨p,hp,by rw[upd_ne _ _ hne];exact p.like_refl _⟩
theorem Cx.Ok.push {W0:World} {c:Cx} {id:Nat} {o:dD} {l:Loc} {nxt:Nat} {w:World} (hc:c.Ok W0) (h0: ¬c.known id) (hn:c.nxt<=nxt) (h:Below c.w.heap.size c.w w)
  (hl: ∀b,o.blk l=some b->c.w.heap.size<=b) (ho:(c.push id o l nxt w).ORel W0.heap.size id o):(c.push id o l nxt w).Ok W0:=by
 have hle:=Cx.Le.push (o:=o) h0 hn h.size h.block hl;have hk: ∀j p,dH c.hp j=some p->j≠id:=fun j p hj e=>h0 (e▸ .inl ⟨p,hj⟩);refine⟨hc.bel.trans (h.mono hc.size),fun j p hp=> ?_,fun i j p q b h1 h2 h3 h4=> ?_,fun r hr=>⟨(hc.mks r hr).1,(h.block r (hc.mark_lt hr)).trans (hc.mks r hr).2⟩,fun b hb=>(hle.out b (hc.bar b hb)).1,hc.phi⟩
 ·by_cases e:j=id
  ·simp_all [Cx.push,dV]
  ·have hp':dH c.hp j=some p:=by simpa [Cx.push,dV,Ne.symm e] using hp
   exact(hc.obj j p hp').le hle (upd_ne _ _ e) fun b hb=>h.block b ((hc.obj j p hp').lt hb).2
 ·by_cases e1:i=id<;>by_cases e2:j=id
  ·rw[e1,e2]
  ·subst e1;have e3:p=o:=by grind [Cx.push,dV]
   have h2':dH c.hp j=some q:=by simpa [Cx.push,dV,Ne.symm e2] using h2
   subst e3;simp only[Cx.push,upd_same,upd_ne _ _ e2]at h3 h4;have:=hl b h3;have:=((hc.obj j q h2').lt h4).2;omega
  ·subst e2;have e3:q=o:=by grind [Cx.push,dV]
   have h1':dH c.hp i=some p:=by simpa [Cx.push,dV,Ne.symm e1] using h1
   subst e3;simp only[Cx.push,upd_same,upd_ne _ _ e1]at h3 h4;have:=hl b h4;have:=((hc.obj i p h1').lt h3).2;omega
  ·have h1':dH c.hp i=some p:=by simpa [Cx.push,dV,Ne.symm e1] using h1
   have h2':dH c.hp j=some q:=by simpa [Cx.push,dV,Ne.symm e2] using h2
   simp only[Cx.push,upd_ne _ _ e1,upd_ne _ _ e2]at h3 h4;exact hc.inj i j p q b h1' h2' h3 h4
def Cx.put (c:Cx) (id:Nat) (o:dD) (l:Loc) (w:World):Cx:=⟨upd c.mu id l,iV c.hp id o,c.nxt,w,c.mks,c.bar⟩
theorem Cx.put_get {c:Cx} {id:Nat} {o p:dD} {l:Loc} {w:World} (hp:dH c.hp id=some p):dH (c.put id o l w).hp id=some o:=Ql hp
theorem Cx.Le.put {W0:World} {c:Cx} {id:Nat} {o o':dD} {l:Loc} {w:World} (hc:c.Ok W0) (h0:dH c.hp id=some o) (hk:o.like (c.mu id) o' l) (hs:c.w.heap.size<=w.heap.size)
  (hb: ∀b,b<c.w.heap.size->o.blk (c.mu id)≠some b->w.heap[b]? =c.w.heap[b]?) (hl: ∀b,o'.blk l=some b->o.blk (c.mu id)=some b\/c.w.heap.size<=b)
  (hlp: ∀(b:Nat) (L:Loop),o.blk (c.mu id)=some b->c.w.heap[b]? =some (Obj.loop L)-> ∃L':Loop,w.heap[b]? =some (Obj.loop L')):c.Le (c.put id o' l w):=by
 refine⟨fun b hf=>⟨⟨aZ hf.1 hs, ?_,hf.2.2⟩,hb b hf.1 fun e=>hf.2.1 ⟨id,o,h0,e⟩⟩,fun j hj=> ?_,fun j p hj hp=> ?_,fun _ h=>h,fun b L hL=> ?_,hs,rfl⟩
 rotate_left 3
 ·by_cases e:o.blk (c.mu id)=some b
  ·exact hlp b L e hL
  ·exact⟨L,(hb b (Array.getElem?_eq_some_iff.1 hL).1 e).trans hL⟩
 ·rintro ⟨j,p,h1,h2⟩;simp only[Cx.put,jl]at h1 h2;split at h1
  ·rename_i e
   subst e;rw[h0]at h1;cases h1;rw[upd_same]at h2;rcases hl b h2 with h3|h3
   ·exact hf.2.1 ⟨id,o,h0,h3⟩
   ·have:=hf.1;omega
  ·rename_i e
   rw[upd_ne _ _ (Ne.symm e)]at h2;exact hf.2.1 ⟨j,p,h1,h2⟩
 ·rcases hj with ⟨p,hp⟩|hj
  ·left
   grind [Cx.put,jl]
  ·right;exact hj
 ·simp only[Cx.put,jl]at hp ⊢;split at hp
  ·simp_all [upd_same]
  ·rename_i e
   exact⟨p,hp,by rw[upd_ne _ _ (Ne.symm e)];exact p.like_refl _⟩
theorem Cx.Ok.put {W0:World} {c:Cx} {id:Nat} {o o':dD} {l:Loc} {w:World} (hc:c.Ok W0) (h0:dH c.hp id=some o) (hk:o.like (c.mu id) o' l) (hw:Below W0.heap.size W0 w)
  (hs:c.w.heap.size<=w.heap.size) (hb: ∀b,b<c.w.heap.size->o.blk (c.mu id)≠some b->w.heap[b]? =c.w.heap[b]?) (hl: ∀b,o'.blk l=some b->o.blk (c.mu id)=some b\/c.w.heap.size<=b)
  (hlp: ∀(b:Nat) (L:Loop),o.blk (c.mu id)=some b->c.w.heap[b]? =some (Obj.loop L)-> ∃L':Loop,w.heap[b]? =some (Obj.loop L')) (ho:(c.put id o' l w).ORel W0.heap.size id o'):(c.put id o' l w).Ok W0:=by
 have hle:=Cx.Le.put (w:=w) hc h0 hk hs hb hl hlp;refine⟨hw,fun j p hp=> ?_,fun i j p q b h1 h2 h3 h4=> ?_,fun r hr=>⟨(hc.mks r hr).1,(hb r (hc.mark_lt hr) fun e=>(hc.obj id o h0).no_mark e (hc.mks r hr).2).trans (hc.mks r hr).2⟩,fun b hb=>(hle.out b (hc.bar b hb)).1,hc.phi⟩
 ·by_cases e:id=j
  ·grind [Cx.put_get]
  ·have hp':dH c.hp j=some p:=by grind [Cx.put,jl]
   refine(hc.obj j p hp').le hle (upd_ne _ _ (Ne.symm e)) fun b hbj=>hb b ((hc.obj j p hp').lt hbj).2 fun e2=>e (hc.inj id j o p b h0 hp' e2 hbj)
 ·have key: ∀i p,dH (c.put id o' l w).hp i=some p->id≠i->dH c.hp i=some p:=fun i p h e=>by simpa [Cx.put,jl,e] using h
  have key2: ∀p,dH (c.put id o' l w).hp id=some p->p=o':=fun p h=>by grind [Cx.put_get]
  by_cases e1:id=i<;>by_cases e2:id=j
  ·rw[<-e1,<-e2]
  ·subst e1;have e3:=key2 p h1;have h2':=key j q h2 e2;subst e3;simp only[Cx.put,upd_same,upd_ne _ _ (Ne.symm e2)]at h3 h4;rcases hl b h3 with h5|h5
   ·exact hc.inj id j o q b h0 h2' h5 h4
   ·have:=((hc.obj j q h2').lt h4).2;omega
  ·subst e2;have e3:=key2 q h2;have h1':=key i p h1 e1;subst e3;simp only[Cx.put,upd_same,upd_ne _ _ (Ne.symm e1)]at h3 h4;rcases hl b h4 with h5|h5
   ·exact hc.inj i id p o b h1' h0 h3 h5
   ·have:=((hc.obj i p h1').lt h3).2;omega
  ·have h1':=key i p h1 e1;have h2':=key j q h2 e2;simp only[Cx.put,upd_ne _ _ (Ne.symm e1),upd_ne _ _ (Ne.symm e2)]at h3 h4;exact hc.inj i j p q b h1' h2' h3 h4
theorem bF.length {c:Cx}: ∀(l:List bG) (xs:List Value),bF c l xs->l.length=xs.length
 |[],[],_=>rfl
 |v::l,x::xs,h=>by simp only[bF]at h;simp[bF.length l xs h.2]
 |[],_::_,h=>by simp[bF]at h
 |_::_,[],h=>by simp[bF]at h
theorem bF.get {c:Cx}: ∀(l:List bG) (xs:List Value),bF c l xs-> ∀(i:Nat) (h:i<l.length) (h':i<xs.length),bJ c l[i] xs[i]
 |v::l,x::xs,h,0,_,_=>by simp_all [bF]
 |v::l,x::xs,h,i+1,h1,h2=>by simp only[bF]at h;exact bF.get l xs h.2 i (by simpa using h1) (by simpa using h2)
 |[],_,_,_,h1,_=>by simp at h1
 |_::_,[],h,_,_,_=>by simp[bF]at h
theorem bF.append {c:Cx}: ∀(l m:List bG) (xs ys:List Value),bF c l xs->bF c m ys->bF c (l++m) (xs++ys)
 |[],m,[],ys,_,h=>h
 |v::l,m,x::xs,ys,h,k=>by simp only[bF,List.cons_append]at h ⊢;exact⟨h.1,bF.append l m xs ys h.2 k⟩
 |[],_,_::_,_,h,_=>by simp[bF]at h
 |_::_,_,[],_,h,_=>by simp[bF]at h
theorem bF.take {c:Cx}: ∀(k:Nat) (l:List bG) (xs:List Value),bF c l xs->bF c (l.take k) (xs.take k)
 |0,_,_,_=>by simp[bF]
 |k+1,[],[],_=>by simp[bF]
 |k+1,v::l,x::xs,h=>by simp only[bF,List.take_succ_cons]at h ⊢;exact⟨h.1,bF.take k l xs h.2⟩
 |_+1,[],_::_,h=>by simp[bF]at h
 |_+1,_::_,[],h=>by simp[bF]at h
theorem bF.drop {c:Cx}: ∀(k:Nat) (l:List bG) (xs:List Value),bF c l xs->bF c (l.drop k) (xs.drop k)
 |0,_,_,h=>by simpa using h
 |k+1,[],[],_=>by simp[bF]
 |k+1,v::l,x::xs,h=>by simp only[bF,List.drop_succ_cons]at h ⊢;exact bF.drop k l xs h.2
 |_+1,[],_::_,h=>by simp[bF]at h
 |_+1,_::_,[],h=>by simp[bF]at h
theorem bF.set {c:Cx} {v:bG} {x:Value} (h0:bJ c v x): ∀(i:Nat) (l:List bG) (xs:List Value),bF c l xs->bF c (l.set i v) (xs.set i x)
 |_,[],[],_=>by simp[bF]
 |0,u::l,y::xs,h=>by simp_all [bF]
 |i+1,u::l,y::xs,h=>by simp only[bF,List.set_cons_succ]at h ⊢;exact⟨h.1,bF.set h0 i l xs h.2⟩
 |_,[],_::_,h=>by simp[bF]at h
 |_,_::_,[],h=>by simp[bF]at h
theorem VD.leaf {c:Cx} {t:Ty} {x:t.den} {v:Value} (h:t.isAgg=false):VD c t x v↔eY c.w c.free t x [v]:=⟨fun hv=>hv.2 h,fun hv=>⟨(fun e=>by rw[h]at e;cases e),(fun _=>hv)⟩⟩
theorem VD.agg {c:Cx} {t:Ty} {x:t.den} {v:Value} (h:t.isAgg=true):VD c t x v↔ ∃cs,v=.agg cs/\eY c.w c.free t x cs.toList:=⟨fun hv=>hv.1 h,fun hv=>⟨(fun _=>hv),(fun e=>by rw[h]at e;cases e)⟩⟩
theorem VD.cells {c:Cx} {t:Ty} {x:t.den} {v:Value} (h:VD c t x v):eY c.w c.free t x v.cells.toList:=by
 by_cases e:t.isAgg=true
 ·obtain⟨cs,rfl,h2⟩:=h.1 e;exact h2
 ·have e':t.isAgg=false:=by simpa using e
  have h2:=h.2 e';have h3:=eY.one _ _ _ h2 v (by simp);cases v<;>simp_all [Value.cells,Value.oneCell']
theorem Dl {c:Cx}: ∀(t:Ty) (x:t.den) (cs:List Value),eY c.w c.free t x cs->bF c (flat t x) cs
 |.unit,_,_,h=>by cases h;simp[flat,bF]
 |.bool,x,cs,h=>by simp only[eY]at h;subst h;simp only[flat,bF,bJ];exact⟨(VD.leaf rfl).2 rfl,trivial⟩
 |.int k,x,cs,h=>by simp only[eY]at h;subst h;simp only[flat,bF,bJ];exact⟨(VD.leaf rfl).2 rfl,trivial⟩
 |.str,x,cs,h=>by simp only[eY]at h;subst h;simp only[flat,bF,bJ];exact⟨(VD.leaf rfl).2 rfl,trivial⟩
 |.list t,x,cs,h=>by
  have h':=h;obtain⟨a,n,zs,h1,_⟩:=h;subst h1;simp only[flat,bF,bJ];exact⟨(VD.leaf rfl).2 h',trivial⟩
 |.pair a b,x,cs,⟨l1,l2,h1,h2,h3⟩=>by
  subst h1;exact bF.append _ _ _ _ (Dl a x.1 l1 h2) (Dl b x.2 l2 h3)
theorem lT {t' t:Ty} {x:t'.den} {y:t.den} (h:jX t x=some y): ∃e:t'=t,y=cast (congrArg Ty.den e) x:=by
 grind [jX]
theorem gp {t:Ty} (x:t.den):jX t x=some x:=by simp[jX]
theorem iF {t' t:Ty} {x:t'.den} {y:t.den} (h:jX t x=some y):t'=t:=(lT h).1
theorem Jn {c:Cx} {t:Ty} (ht:t.isAgg=false) {v:bG} {x:t.den} (h:leaf t v=some x) {u:Value} (hv:bJ c v u):eY c.w c.free t x [u]:=by
 cases v with
 |val t' y=>
  grind [leaf,lT,bJ,VD.leaf]
 |nils=>
  cases t<;>simp only[leaf]at h
  case list t=>
   cases h;simp only[bJ]at hv;subst hv;exact⟨none,0,[],rfl,by simp,rfl,.inl rfl⟩
  all_goals cases h
 |_=>simp[leaf]at h
theorem aeD {c:Cx}: ∀(t:Ty) (l:List bG) (x:t.den) (rest:List bG) (vs:List Value),mk t l=some (x,rest)->bF c l vs->
  ∃cs vs',vs=cs++vs'/\eY c.w c.free t x cs/\bF c rest vs'
 |.unit,l,x,rest,vs,h,hv=>by
  simp only[mk,Option.some.injEq,Prod.mk.injEq]at h;obtain⟨_,rfl⟩:=h;exact⟨[],vs,rfl,rfl,hv⟩
 |.pair a b,l,x,rest,vs,h,hv=>by
  simp only[mk]at h;split at h
  ·rename_i y l1 h1
   split at h
   ·rename_i z l2 h2
    cases h;obtain⟨c1,v1,e1,e2,e3⟩:=aeD a l y l1 vs h1 hv;obtain⟨c2,v2,e4,e5,e6⟩:=aeD b l1 z rest v1 h2 e3;exact⟨c1++c2,v2,by simp_all,⟨c1,c2,rfl,e2,e5⟩,e6⟩
   ·cases h
  ·cases h
 |.bool,[],_,_,_,h,_=>by simp[mk]at h
 |.int _,[],_,_,_,h,_=>by simp[mk]at h
 |.str,[],_,_,_,h,_=>by simp[mk]at h
 |.list _,[],_,_,_,h,_=>by simp[mk]at h
 |.bool,v::l,x,rest,u::vs,h,hv=>by
  simp only[bF]at hv;simp only[mk]at h;split at h
  ·rename_i y hy;cases h;exact⟨[u],vs,rfl,Jn rfl hy hv.1,hv.2⟩
  ·cases h
 |.int k,v::l,x,rest,u::vs,h,hv=>by
  simp only[bF]at hv;simp only[mk]at h;split at h
  ·rename_i y hy;cases h;exact⟨[u],vs,rfl,Jn rfl hy hv.1,hv.2⟩
  ·cases h
 |.str,v::l,x,rest,u::vs,h,hv=>by
  simp only[bF]at hv;simp only[mk]at h;split at h
  ·rename_i y hy;cases h;exact⟨[u],vs,rfl,Jn rfl hy hv.1,hv.2⟩
  ·cases h
 |.list t,v::l,x,rest,u::vs,h,hv=>by
  simp only[bF]at hv;simp only[mk]at h;split at h
  ·rename_i y hy;cases h;exact⟨[u],vs,rfl,Jn rfl hy hv.1,hv.2⟩
  ·cases h
 |.bool,_::_,_,_,[],_,hv=>by simp[bF]at hv
 |.int _,_::_,_,_,[],_,hv=>by simp[bF]at hv
 |.str,_::_,_,_,[],_,hv=>by simp[bF]at hv
 |.list _,_::_,_,_,[],_,hv=>by simp[bF]at hv
theorem nS {c:Cx} {t:Ty} {l:List bG} {x:t.den} {vs:List Value} (h:Gt t l=some x) (hv:bF c l vs):eY c.w c.free t x vs:=by
 grind [Gt,aeD,bF]
theorem KA {c:Cx} {v:bG} {l:List bG} (h:v.cells=some l) {x:Value} (hv:bJ c v x):bF c l x.cells.toList/\ ∀u∈x.cells.toList,u.oneCell'=true:=by
 cases v with
 |val t y=>
  simp only[bG.cells,Option.some.injEq]at h;subst h;simp only[bJ]at hv;exact⟨Dl t y _ hv.cells,eY.one _ _ _ hv.cells⟩
 |agg l'=>
  simp only[bG.cells,Option.some.injEq]at h;subst h;simp only[bJ]at hv;obtain⟨vs,rfl,h2,h3⟩:=hv;exact⟨h2,h3⟩
 |undef=>simp[bG.cells]at h
 |tup _=>simp[bG.cells]at h
 |_=>
  simp only[bG.cells,Option.some.injEq]at h;subst h;have h1:x.oneCell'=true:=by
   simp only[bJ]at hv
   first
    |(subst hv;rfl)
    |exact hv.1
    |(obtain⟨_,_,_,rfl,_⟩:=hv;rfl)
    |(obtain⟨_,rfl,_⟩:=hv;rfl)
    |(obtain⟨_,_,_,_,rfl,_⟩:=hv;rfl)
  have h2:x.cells= #[x]:=by cases x<;>simp_all [Value.cells,Value.oneCell']
  rw[h2];simp only[bF];exact⟨⟨hv,trivial⟩,by simpa using h1⟩
end
section
open List renaming map_cons → ax
open Go.RowKit
def kF:TypeDesc->Option TK
 |.bool=>some .bool
 |.int k=>some (.int k)
 |.string=>some .str
 |.slice e=>some (.slice e)
 |.struct fs=>some (.struct (fs.toList.map fun f=>(f.offset,f.type)))
 |.func _ _ _=>some .fn
 |.pointer e=>some (.ptr e)
 |.map k e=>some (.map k e)
 |.array _ _=>none
 |_=>some .other
def jC (T:TT):Nat->List (Nat×TypeId)->Option Ty
 |_,[]=>some .unit
 |off,(o,ft)::rest=>if o=off then match(T.at ft).ty with
   |some a=>if a.size=(T.at ft).size/\(T.at ft).known=true then match jC T (off+a.size) rest with
    |some b=>some (.pair a b)
    |none=>none
    else none
   |none=>none
  else none
def lD (T:TT):TK->Option Ty
 |.bool=>some .bool
 |.int k=>some (.int k)
 |.str=>some .str
 |.slice e=>(T.at e).ty.map .list
 |.struct fs=>jC T 0 fs
 |_=>none
def axk (P:Program) (T:TT) (t:TypeId) (i:TI):Prop:=
 i.known=true->(P.info? t).map (fun f=>(f.size,f.bytes,f.zero.map fun z=>(z.cells.toList.map wz,z.cells.toList.all Value.oneCell')))=some (i.size,i.bytes,some (i.zero,true))/\
  (P.underlying t).map kF=some (some i.k)/\(i.ty=none\/i.ty=lD T i.k)/\(∀y,i.ty=some y->y.size=i.size)/\(i.isAgg=true\/i.size=1)/\
  (i.eq=true->P.eqGuardType P.depth t=false/\P.stoodInHeld t=false/\(P.underlying t).map (fun d=>match d with|.struct fs=>fs.toList.all fun f=>f.name != "_" |_=>false)=some true)/\
  (P.underlying t).map (fun d=>match d with|.struct fs=>fs.toList.all fun f=>(P.info? f.type).isSome|_=>true)=some true/\i.zero.length=i.size/\(i.ty=some (.int .u8)->t=oD)/\(i.bld=true->t=Uk)/\(∀k,i.k=.int k-> ∀j,P.info? t=some j->j.zero=some (.int k 0))
def TOk (P:Program) (T:TT):Prop:= ∀t,axk P T t (T.at t)
def TT.All (p:Nat->TI->Prop):TT->Prop
 |.nil=>True
 |.node k i l r=>p k i/\l.All p/\r.All p
theorem TT.All.at_ {p:Nat->TI->Prop} (hd: ∀t,p t default): ∀(T:TT),T.All p-> ∀t,p t (T.at t)
 |.nil,_,t=>hd t
 |.node k i l r,⟨h1,h2,h3⟩,t=>by
  simp only[TT.at];by_cases e:Nat.beq k t=true
  ·simp_all
  ·have e':Nat.beq k t=false:=(Bool.not_eq_true _).mp e;simp only[e',cond_false];by_cases e2:Nat.blt t k=true
   ·simp only[e2,cond_true];exact TT.All.at_ hd l h2 t
   ·have e2':Nat.blt t k=false:=(Bool.not_eq_true _).mp e2;simp only[e2',cond_false];exact TT.All.at_ hd r h3 t
theorem TOk.of_all {P:Program} {T:TT} (h:T.All (axk P T)):TOk P T:=TT.All.at_ (fun t h=>by cases h) T h
section types
variable {P:Program} {T:TT} (hT:TOk P T) {t:TypeId} (hk:(T.at t).known=true)
theorem TOk.info (hT:TOk P T) (hk:(T.at t).known=true): ∃i z,P.info? t=some i/\i.size=(T.at t).size/\i.bytes=(T.at t).bytes/\i.zero=some z/\z.cells.toList.map wz=(T.at t).zero/\z.cells.toList.all Value.oneCell'=true:=by
 have h:=(hT t hk).1;simp_all
theorem TOk.und (hT:TOk P T) (hk:(T.at t).known=true): ∃d,P.underlying t=some d/\kF d=some (T.at t).k:=by
 have h:=(hT t hk).2.1;simp_all
theorem TOk.slice (hT:TOk P T) (hk:(T.at t).known=true) {e:TypeId} (h:(T.at t).k=.slice e):P.underlying t=some (.slice e):=by
 obtain⟨d,h1,h2⟩:=hT.und hk;rw[h]at h2;cases d<;>simp[kF]at h2;subst h2;exact h1
theorem TOk.str (hT:TOk P T) (hk:(T.at t).known=true) (h:(T.at t).k=.str):P.underlying t=some .string:=by
 obtain⟨d,h1,h2⟩:=hT.und hk;rw[h]at h2;cases d<;>simp[kF]at h2;exact h1
theorem TOk.int (hT:TOk P T) (hk:(T.at t).known=true) {k:IntKind} (h:(T.at t).k=.int k):P.underlying t=some (.int k):=by
 obtain⟨d,h1,h2⟩:=hT.und hk;rw[h]at h2;cases d<;>simp[kF]at h2;subst h2;exact h1
theorem TOk.struct (hT:TOk P T) (hk:(T.at t).known=true) {fs:List (Nat×TypeId)} (h:(T.at t).k=.struct fs): ∃fields,P.underlying t=some (.struct fields)/\fields.toList.map (fun f=>(f.offset,f.type))=fs:=by
 obtain⟨d,h1,h2⟩:=hT.und hk;rw[h]at h2;cases d<;>simp[kF]at h2;simp_all
theorem TOk.isAgg (hT:TOk P T) (hk:(T.at t).known=true) (w:World):(Go.isAgg t).run P w=.ok (T.at t).isAgg w:=by
 obtain⟨d,h1,h2⟩:=hT.und hk;have:(Go.isAgg t).run P w=.ok (match d with|.struct _|.array _ _=>true|_=>false) w:=by
  simp only[Go.isAgg,Sem.run_bind,run_underlying h1,Result.andThen_ok];cases d<;>rfl
 rw[this];unfold TI.isAgg;cases d<;>simp only[kF,Option.some.injEq,reduceCtorEq]at h2<;>simp[<-h2]
theorem TOk.sizeOf (hT:TOk P T) (hk:(T.at t).known=true) (w:World):(Go.sizeOf t).run P w=.ok (T.at t).size w:=by
 obtain⟨i,z,h1,h2,_⟩:=hT.info hk;simp[Go.sizeOf,typeInfo,h1,h2]
theorem TOk.ty_agg (hT:TOk P T) (hk:(T.at t).known=true) {y:Ty} (h:(T.at t).ty=some y):y.isAgg=(T.at t).isAgg:=by
 rcases(hT t hk).2.2.1 with h1|h1
 ·simp_all
 ·rw[h]at h1;unfold TI.isAgg;cases hkk:(T.at t).k with
  |struct fs=>
   rw[hkk]at h1;simp only[lD]at h1;cases fs with
   |nil=>simp only[jC,Option.some.injEq]at h1;subst h1;rfl
   |cons f r=>
    obtain⟨o,ft⟩:=f;simp only[jC]at h1
    repeat' split at h1
    all_goals first|cases h1|skip
    rfl
  |bool=>rw[hkk]at h1;simp only[lD,Option.some.injEq]at h1;subst h1;rfl
  |int k=>rw[hkk]at h1;simp only[lD,Option.some.injEq]at h1;subst h1;rfl
  |str=>rw[hkk]at h1;simp only[lD,Option.some.injEq]at h1;subst h1;rfl
  |slice e=>
   rw[hkk]at h1;simp only[lD]at h1;cases he:(T.at e).ty with
   |none=>simp_all
   |some e'=>rw[he]at h1;simp only[Option.map_some,Option.some.injEq]at h1;subst h1;rfl
  |other=>rw[hkk]at h1;cases h1
  |ptr e=>rw[hkk]at h1;cases h1
  |fn=>rw[hkk]at h1;cases h1
  |map a b=>rw[hkk]at h1;cases h1
theorem TOk.ty_size (hT:TOk P T) (hk:(T.at t).known=true) {y:Ty} (h:(T.at t).ty=some y):y.size=(T.at t).size:=(hT t hk).2.2.2.1 y h
theorem TOk.zlen (hT:TOk P T) (hk:(T.at t).known=true):(T.at t).zero.length=(T.at t).size:=(hT t hk).2.2.2.2.2.2.2.1
theorem TOk.byte (hT:TOk P T) (hk:(T.at t).known=true) (h:(T.at t).ty=some (.int .u8)):t=oD:=(hT t hk).2.2.2.2.2.2.2.2.1 h
theorem TOk.bldr (hT:TOk P T) (hk:(T.at t).known=true) (h:(T.at t).bld=true):t=Uk:=(hT t hk).2.2.2.2.2.2.2.2.2.1 h
theorem TOk.ptr (hT:TOk P T) (hk:(T.at t).known=true) {e:TypeId} (h:(T.at t).k=.ptr e):P.underlying t=some (.pointer e):=by
 obtain⟨d,h1,h2⟩:=hT.und hk;rw[h]at h2;cases d<;>simp[kF]at h2;subst h2;exact h1
theorem TOk.zero_int (hT:TOk P T) (hk:(T.at t).known=true) {k:IntKind} (h:(T.at t).k=.int k) {i:TypeInfo} (hi:P.info? t=some i):i.zero=some (.int k 0):=(hT t hk).2.2.2.2.2.2.2.2.2.2 k h i hi
theorem TOk.zero_byte (hT:TOk P T) (hk:(T.at t).known=true) (h:(T.at t).k=.int .u8) {i:TypeInfo} (hi:P.info? t=some i):i.zero=some (.int .u8 0):=hT.zero_int hk h hi
theorem TOk.map (hT:TOk P T) (hk:(T.at t).known=true) {a e:TypeId} (h:(T.at t).k=.map a e):P.underlying t=some (.map a e):=by
 obtain⟨d,h1,h2⟩:=hT.und hk;rw[h]at h2;cases d<;>simp[kF]at h2;simp_all
theorem TOk.one (hT:TOk P T) (hk:(T.at t).known=true):(T.at t).isAgg=true\/(T.at t).size=1:=(hT t hk).2.2.2.2.1
end types
theorem PN (c:Cx) (v:Value):bJ c (wz v) v:=by
 unfold wz;split<;>simp only[bJ]
 ·exact(VD.leaf rfl).2 rfl
 ·exact(VD.leaf rfl).2 rfl
 ·refine(VD.leaf rfl).2 ?_;simp[eY]
theorem sW (c:Cx): ∀(l:List Value),bF c (l.map wz) l
 |[]=>by simp[bF]
 |v::l=>by simp only[ax,bF];exact⟨PN c v,sW c l⟩
theorem bF.setL {c:Cx} {z:bG}: ∀(s:Nat) (fr:List bG) (xs:List Value),bF c fr xs->(∀h:s<xs.length,bJ c z xs[s])->bF c (fr.set s z) xs
 |s,[],[],_,_=>by simp[bF]
 |0,v::fr,x::xs,h,hz=>by
  simp_all [bF]
 |s+1,v::fr,x::xs,h,hz=>by
  simp only[bF,List.set_cons_succ]at h ⊢;exact⟨h.1,bF.setL s fr xs h.2 fun hl=>hz (by simpa using hl)⟩
 |s,[],_::_,h,_=>by simp[bF]at h
 |s,_::_,[],h,_=>by simp[bF]at h
theorem bF.getD {c:Cx} {l:List bG} {xs:Array Value} (h:bF c l xs.toList) (t:Nat):bJ c (l.getD t .undef) (xs.getD t undef):=by
 have hl:l.length=xs.size:=by grind [bF.length,Array.length_toList]
 by_cases ht:t<l.length
 ·have ht':t<xs.size:=by omega
  have h1:=bF.get _ _ h t ht (by simpa using ht');simp_all
 simp_all [bJ]
theorem dG {c:Cx} {fr:List bG} {a:Act} (h:bF c fr a.tmps.toList) (x:Operand):bJ c (gK fr x) (a.eval x):=by
 cases x with
 |tmp t=>exact h.getD t
 |const v=>
  cases v with
  |agg cs=>
   simp only[gK,Act.eval,Wu];cases e:cs.toList.all Value.oneCell'
   ·simp[bJ]
   ·simp only[cond_true,bJ];exact⟨cs,rfl,sW c _,fun u hu=>List.all_eq_true.1 e u hu⟩
  |tuple _=>simp[gK,Wu,bJ]
  |_=>simp only[gK,Act.eval,Wu];exact PN c _
 |global g=>simp[gK,bJ]
 |func f=>simp only[gK,Act.eval,bJ];exact⟨#[],rfl,by simp[bF]⟩
end
section
open Bool renaming false_eq_true → ah, not_true → au
open List renaming append_assoc → ai
open Go.RowKit
theorem di {R:Type} {b:Bool} {x:Option R} {r:R} (h:(bif b then x else none)=some r):b=true/\x=some r:=by
 grind
theorem fU {R:Type} {b:Bool} {x:Option R} {r:R} (h:mg b x=some r):b=true/\x=some r:=di h
abbrev FZ (c:Cx) (w:World):Prop:=Below c.w.heap.size c.w w
def valOf (agg:Bool) (zs:List Value):Value:=if agg then .agg zs.toArray else zs.headD undef
theorem jU (b o n:Nat):(⟨b,o,none⟩:Addr).add n=⟨b,o+n,none⟩:=by
 simp_all [Addr.add]
section
variable {P:Program} {T:TT} {W0:World} {c:Cx} {R:Type} {r:R} {t:TypeId}
theorem JY (hT:TOk P T) (hk:(T.at t).known=true) {w:World} {b o:Nat} {zs:List Value} (hc:gV w b o zs) (hl:zs.length=(T.at t).size):
  (loadVar t ⟨b,o,none⟩).run P w=.ok (valOf (T.at t).isAgg zs) w:=by
 have h1:=hT.isAgg hk w;have h2:=hT.sizeOf hk w;have hcells: ∀j v,zs[j]? =some v->w.cell? ((⟨b,o,none⟩:Addr).add j)=some v:=fun j v hj=>by
  rw[jU];obtain⟨hj1,hj2⟩:=List.getElem?_eq_some_iff.1 hj;rw[hc j hj1,hj2]
 simp only[loadVar,Sem.run_bind,h1,Result.andThen_ok];cases e:(T.at t).isAgg
 ·have h3:zs.length=1:=by
   rcases hT.one hk with h|h
   all_goals simp_all
  match zs,h3 with
  |[z],_=>
   have h4:=hcells 0 z rfl;simp_all [jU,valOf]
 ·simp only[if_true,Sem.run_bind,h2,Result.andThen_ok,<-hl,run_loadCells_list (P:=P) w ⟨b,o,none⟩ zs hcells,Sem.run_pure,valOf]
theorem rE (hT:TOk P T) (hk:(T.at t).known=true) {w:World} {b o:Nat} {zs:List Value} (hc:gV w b o zs) (hl:zs.length=(T.at t).size):
  (Instr.loadAt t (.pointer (some ⟨b,o,none⟩))).run P w=.ok (valOf (T.at t).isAgg zs) w:=by
 grind [Instr.loadAt,Instr.sureAddr,JY]
theorem acX (hT:TOk P T) (hk:(T.at t).known=true) {y:Ty} (hy:(T.at t).ty=some y) {x:y.den} {zs:List Value} (h:eY c.w c.free y x zs):VD c y x (valOf (T.at t).isAgg zs):=by
 have h1:=hT.ty_agg hk hy;cases e:(T.at t).isAgg
 ·rw[e]at h1;refine(VD.leaf h1).2 ?_;have h2:=eY.length _ _ _ h;have h3:zs.length=1:=by
   rw[h2];cases y<;>first|rfl|(simp[Ty.isAgg]at h1)
  match zs,h3 with
  |[z],_=>exact h
 ·rw[e]at h1;exact(VD.agg h1).2 ⟨zs.toArray,rfl,by simpa using h⟩
theorem JP (hT:TOk P T) (hk:(T.at t).known=true) {l:List bG} {zs:List Value} (h:bF c l zs) (h1: ∀u∈zs,u.oneCell'=true):bJ c (norm (T.at t) l) (valOf (T.at t).isAgg zs):=by
 unfold norm valOf TI.isAgg;have key:bJ c (.agg l) (.agg zs.toArray):=by simp only[bJ];simp_all
 cases hkk:(T.at t).k with
 |struct fs=>
  simp only[if_true];split
  ·rename_i y hy
   split
   ·rename_i x hx
    rw[cond_eq_ite];split
    ·exact key
    simp only[bJ];have h2:=nS hx h;have h3:=hT.ty_agg hk hy;rw[TI.isAgg,hkk]at h3;exact(VD.agg h3).2 ⟨zs.toArray,rfl,by simpa using h2⟩
   ·exact key
  ·exact key
 |_=>
  simp only[ah,if_false];split
  ·rename_i v
   match zs,h with
   |[z],h=>simp only[bF]at h;exact h.1
   |[],h=>simp[bF]at h
   |_::_::_,h=>simp[bF]at h
  ·simp[bJ]
theorem AO {cs l:List bG} {off k:Nat} (h:IM cs off k=some l):off+k<=cs.length/\l=(cs.drop off).take k:=by
 unfold IM at h;obtain⟨h1,h2⟩:=di h;simp_all
theorem gV.sub {w:World} {b o:Nat} {zs:List Value} (h:gV w b o zs) (off k:Nat):gV w b (o+off) ((zs.drop off).take k):=by
 intro j hj;have h1:off+j<zs.length:=by simp at hj;omega
 rw[Nat.add_assoc,h (off+j) h1];simp
theorem gV.of_block_cells {w:World} {b:Nat} {vs:Array Value} {e:TypeId} {f:Nat×Nat} (h:w.heap[b]? =some (.cells vs e f)):gV w b 0 vs.toList:=by
 intro j hj;simp_all [World.cell?]
theorem FZ.cells {c:Cx} {w:World} (h:FZ c w) {b o:Nat} {zs:List Value} (hb:b<c.w.heap.size) (hc:gV c.w b o zs):gV w b o zs:=hc.of_block (h.block b hb)
theorem ap3 (hok:c.Ok W0) {id ver:Nat} {y:Ty} {xs:List y.den} (h:dH c.hp id=some (.arr y ver xs)) {i:Nat} (hi:i<xs.length):
  ∃g n cp zs,(c.mu id).v=.slice (some ⟨g,0,none⟩) n cp/\c.own g/\eY c.w c.free y xs[i] zs/\gV c.w g (i*y.size) zs:=by
 obtain⟨h0,e,zs,h1,h2,hty⟩:=hok.obj id _ h;obtain⟨d,d1,d2,l1,l2,d3,d4⟩:=fQ.at_ i xs zs hi h2;rcases h1.2 with ⟨h3,h4⟩|⟨g,cap,cur,h3,h4,h5,h6,h7,h8,h9⟩
 ·omega
 ·refine⟨g,_,_,d,h3,⟨id,_,h,by simp[dD.blk,h3,Value.ownBlock]⟩,d2, ?_⟩;have hc:=gV.of_block_cells h5;intro j hj;have e1:zs[i*y.size+j]? =some d[j]:=by
   rw[d3,ai,List.getElem?_append_right (by omega),d4,Nat.add_sub_cancel_left,List.getElem?_append_left hj];simp
  have hlt:i*y.size+j<zs.length:=(List.getElem?_eq_some_iff.1 e1).1;rw[<-h9]at e1 hlt;have hlt2:i*y.size+j<cur.toList.length:=by grind
  have:=hc (i*y.size+j) hlt2
  grind
theorem apY (hT:TOk P T) (hok:c.Ok W0) {av:bG} {v:Value} {K:bG->Option R} (h:KI T c.hp t av K=some r) (hv:bJ c av v):
  ∃z u,K z=some r/\bJ c z u/\ ∀w',FZ c w'->(Instr.loadAt t v).run P w'=.ok u w':=by
 unfold KI at h;cases hk:(T.at t).known
 ·simp_all
 rw[hk]at h;simp only[au,cond_false]at h;cases av with
 |cellp y x=>
  simp only at h;split at h
  ·rename_i y' hy
   split at h
   ·rename_i x' hx
    obtain⟨e,h2⟩:=lT hx;subst e;subst h2;simp only[bJ]at hv;obtain⟨b,o,zs,rfl,hb,hc,hd⟩:=hv;refine⟨_,_,h, ?_,fun w' hw=>rE hT hk (hw.cells hb.1 hc) ?_⟩
    ·grind [bJ,acX]
    ·rw[eY.length _ _ _ hd,hT.ty_size hk hy]
   ·cases h
  ·cases h
 |ptr id off=>
  simp only at h;split at h
  ·rename_i bt cs hcs
   split at h
   ·rename_i l hl
    obtain⟨h1,rfl⟩:=AO hl;simp only[bJ]at hv;have hv':=hv.2.2 _ _ hcs;subst hv';obtain⟨hB,vs,h3,h4,h5⟩:=hok.obj id _ hcs;have hlen:=bF.length _ _ h4;have hc:=(gV.of_block_cells h3).sub off (T.at t).size;rw[Nat.zero_add]at hc;refine⟨_,_,h,JP hT hk (bF.take _ _ _ (bF.drop off _ _ h4)) (fun u hu=>h5 u (List.mem_of_mem_drop (List.mem_of_mem_take hu))),fun w' hw=>rE hT hk (hw.cells (Array.getElem?_eq_some_iff.1 h3).1 hc) ?_⟩
    grind
   ·cases h
  ·cases h
 |ep id ver i off=>
  simp only at h;split at h
  ·rename_i y u xs harr
   replace h:=di h;obtain⟨h1,h⟩:=h;replace h:=di h;obtain⟨h2,h⟩:=h;have h1:u=ver:=by simpa using h1
   subst h1;have hi:i<xs.length:=by simpa [NZ] using h2
   split at h
   ·rename_i l hl
    obtain⟨h3,rfl⟩:=AO hl;simp only[bJ]at hv;obtain⟨g',n',cp',e1,e2⟩:=(hv.2.2 _ _ _ harr).2 rfl;obtain⟨g,n,cp,zs,e3,hown,hd,hc⟩:=ap3 hok harr hi;rw[e1]at e3;cases e3;subst e2;have hx:xs.getD i y.dflt=xs[i]:=by simp[List.getD,hi]
    rw[hx]at h h3;have hf:=Dl y _ _ hd;have hlen:=bF.length _ _ hf;have hc2:=hc.sub off (T.at t).size;refine⟨_,_,h,JP hT hk (bF.take _ _ _ (bF.drop off _ _ hf)) (fun u hu=>eY.one _ _ _ hd u (List.mem_of_mem_drop (List.mem_of_mem_take hu))),fun w' hw=>rE hT hk (hw.cells (hok.own_lt hown).2 hc2) ?_⟩;simp;omega
   ·cases h
  ·cases h
 |_=>cases h
end
end
section
open Bool renaming and_eq_true → af, false_eq_true → ah, not_true → au, true_and → aI
open List renaming map_cons → ax, drop_eq_getElem_cons → aF, map_nil → aV
open Go.RowKit
section
variable {P:Program} {T:TT} {W0:World} {c:Cx} {R:Type} {r:R} {t:TypeId}
theorem VD.int_inv {k:IntKind} {n:Int} {v:Value} (h:VD c (.int k) n v):v=.int k n:=by
 have:=h.2 rfl;simp_all [eY]
theorem VD.bool_inv {b:Bool} {v:Value} (h:VD c .bool b v):v=.bool b:=by
 have:=h.2 rfl;simp_all [eY]
theorem VD.str_inv {s:List UInt8} {v:Value} (h:VD c .str s v):v=.string ⟨s.toArray⟩:=by
 have:=h.2 rfl;simp_all [eY]
theorem VD.int_mk {k:IntKind} {n:Int}:VD c (.int k) n (.int k n):=(VD.leaf rfl).2 rfl
theorem VD.bool_mk {b:Bool}:VD c .bool b (.bool b):=(VD.leaf rfl).2 rfl
theorem VD.str_mk {s:List UInt8}:VD c .str s (.string ⟨s.toArray⟩):=(VD.leaf rfl).2 rfl
theorem EY (hT:TOk P T) (h:T.isStr t=true):P.underlying t=some .string:=by
 unfold TT.isStr at h;split at h
 ·rename_i e;exact hT.str h e
 ·cases h
theorem lM (hT:TOk P T) {n:Nat} (h:T.rowOf t n=true): ∃e,P.underlying t=some (.slice e)/\(T.at e).known=true/\(T.at e).size=n/\0<n/\(T.at t).k=.slice e/\0<(T.at e).bytes:=by
 unfold TT.rowOf at h;split at h
 ·rename_i e he
  simp only[af,beq_iff_eq,NZ,decide_eq_true_eq]at h;exact⟨e,hT.slice h.1 he,h.2.1,h.2.2.1,h.2.2.2.1,he,h.2.2.2.2⟩
 ·cases h
theorem _root_.Go.Proofs.YtfmikaahgehndaaGreatDoor.TOk.isPtr (hT:TOk P T) (h:T.isPtr t=true): ∃e,P.underlying t=some (.pointer e):=by
 unfold TT.isPtr at h;split at h
 ·rename_i e hk;exact⟨e,hT.ptr h hk⟩
 ·cases h
theorem _root_.Go.Proofs.YtfmikaahgehndaaGreatDoor.TOk.isBytes (hT:TOk P T) (h:T.isBytes t=true):P.underlying t=some (.pointer oD)/\P.cellsOf oD=1:=by
 unfold TT.isBytes at h;split at h
 ·rename_i e hk
  simp only[af]at h;obtain⟨h1,h2,h3⟩:=h;split at h3
  ·rename_i he
   have:=hT.byte h2 he;subst this;refine⟨hT.ptr h1 hk, ?_⟩;obtain⟨i,z,e1,e2,_⟩:=hT.info h2;simp_all [Program.cellsOf]
  ·cases h3
 ·cases h
theorem JU (hT:TOk P T) (hk:(T.at t).known=true) (w:World) (cs:Array Value) (off:Nat) (h:off+(T.at t).size<=cs.size):
  (part t cs off).run P w=.ok (valOf (T.at t).isAgg ((cs.toList.drop off).take (T.at t).size)) w:=by
 have h1:=hT.isAgg hk w;have h2:=hT.sizeOf hk w;simp only[part,Sem.run_bind,h1,Result.andThen_ok];cases e:(T.at t).isAgg
 ·have h3:(T.at t).size=1:=by
   rcases hT.one hk with h|h
   all_goals simp_all
  have h4:off<cs.size:=by omega
  simp_all [aF,valOf]
 ·simp only[if_true,Sem.run_bind,h2,Result.andThen_ok,Sem.run_pure,valOf];congr 2
  grind
theorem AU (hT:TOk P T): ∀(n:Nat) (t:TypeId),T.eqOk n t=true-> ∀(y:Ty),(T.at t).ty=some y-> ∀(x x':y.den) (zs zs':List Value),eY c.w c.free y x zs->eY c.w c.free y x' zs'->
  ∀(w:World) (d:Nat),n<=d->(Op.equalIn d t (valOf (T.at t).isAgg zs) (valOf (T.at t).isAgg zs')).run P w=.ok (y.same x x') w
 |0,_,h,_,_,_,_,_,_,_,_,_,_,_=>by simp[TT.eqOk]at h
 |n+1,t,h,y,hy,x,x',zs,zs',hx,hx',w,d,hd=>by
  obtain⟨d,rfl⟩: ∃e,d=e+1:=⟨d-1,by omega⟩;simp only[TT.eqOk,af]at h;obtain⟨hk,h⟩:=h;have hty:(T.at t).ty=lD T (T.at t).k:=by
   rcases(hT t hk).2.2.1 with h1|h1
   all_goals simp_all
  cases hkk:(T.at t).k with
  |bool=>
   rw[hy,hkk]at hty;simp only[lD,Option.some.injEq]at hty;subst hty;obtain⟨dd,e1,e2⟩:=hT.und hk;rw[hkk]at e2;cases dd<;>simp[kF]at e2;simp_all [eY,TI.isAgg,valOf,run_equalIn_bool,Ty.same]
  |int k=>
   rw[hy,hkk]at hty;simp only[lD,Option.some.injEq]at hty;subst hty;have e1:=hT.int hk hkk;simp_all [eY,TI.isAgg,valOf,run_equalIn_int,Ty.same]
  |str=>
   rw[hy,hkk]at hty;simp only[lD,Option.some.injEq]at hty;subst hty;have e1:=hT.str hk hkk;simp_all [eY,TI.isAgg,valOf,run_equalIn_string,Ty.same]
  |struct fs=>
   rw[hkk]at h;simp only[af]at h;obtain⟨heq,hall⟩:=h;have hagg:(T.at t).isAgg=true:=by simp[TI.isAgg,hkk]
   rw[hy,hkk]at hty;simp only[lD]at hty;obtain⟨fields,e1,e2⟩:=hT.struct hk hkk;obtain⟨_,hst,hnm⟩:=(hT t hk).2.2.2.2.2.1 heq;rw[e1]at hnm;simp only[Option.map_some,Option.some.injEq]at hnm;have hf:P.fieldsOf t=fields:=by simp[Program.fieldsOf,e1]
   simp only[valOf,hagg,if_true];rw[run_equalIn_struct w d t _ _ (by rw[hf];exact e1) hst,hf];clear hf hst e1 hy;rw[<-e2]at hty hall;generalize fields.toList=fl at*;clear e2 fields hkk heq hagg hk;have key: ∀(fl:List Field) (off:Nat) (y:Ty) (x x':y.den) (zs zs' pre pre':List Value),jC T off (fl.map fun f=>(f.offset,f.type))=some y->(fl.map fun f=>(f.offset,f.type)).all (fun f=>T.eqOk n f.2)=true->
     (fl.all fun f=>f.name != "_")=true->eY c.w c.free y x zs->eY c.w c.free y x' zs'->pre.length=off->pre'.length=off->
     (Op.eqFields d (pre++zs).toArray (pre'++zs').toArray fl).run P w=.ok (y.same x x') w:=by
    intro fl
    induction fl with
    |nil=>
     intro off y x x' zs zs' pre pre' h1 _ _ h2 h3 _ _;simp only[aV,jC,Option.some.injEq]at h1;subst h1;rfl
    |cons f fl ih=>
     intro off y x x' zs zs' pre pre' h1 h2 h3 h4 h5 h6 h7;simp only[ax,jC]at h1;split at h1
     ·rename_i hoff
      split at h1
      ·rename_i a ha
       split at h1
       ·rename_i hs
        split at h1
        ·rename_i b hb
         cases h1;simp only[ax,List.all_cons,af]at h2 h3;obtain⟨l1,l2,e1,e2,e3⟩:=h4;obtain⟨m1,m2,e4,e5,e6⟩:=h5;subst e1;subst e4;have hl1:=eY.length _ _ _ e2;have hm1:=eY.length _ _ _ e5;have n1:(f.name≠ "_"):=by simpa using h3.1
         have p1:(part f.type (pre++(l1++l2)).toArray f.offset).run P w=.ok (valOf (T.at f.type).isAgg l1) w:=by
          rw[JU hT hs.2 w _ _ (by simp;omega)];simp_all
         have p2:(part f.type (pre'++(m1++m2)).toArray f.offset).run P w=.ok (valOf (T.at f.type).isAgg m1) w:=by
          rw[JU hT hs.2 w _ _ (by simp;omega)];simp_all
         have p3:=AU hT n f.type h2.1 a ha x.1 x'.1 l1 m1 e2 e5 w d (by omega);simp only[Op.eqFields,if_pos n1,Sem.run_bind,p1,p2,p3,Result.andThen_ok,Ty.same];cases a.same x.1 x'.1
         ·simp
         ·simp only[au,ah,if_false,aI];have:=ih (off+a.size) b x.2 x'.2 l2 m2 (pre++l1) (pre'++m1) hb h2.2 h3.2 e3 e6 (by simp;omega) (by simp;omega);simpa using this
        ·cases h1
       ·cases h1
      ·cases h1
     ·cases h1
   have:=key fl 0 y x x' zs zs' [] [] hty.symm hall hnm hx hx' rfl rfl;simpa using this
  |_=>simp_all
theorem Zc (w:World) (op:BinOp) (a b:List UInt8) (h:op=.eql\/op=.neq\/op=.lss\/op=.leq\/op=.gtr\/op=.geq):
  ∃u,bJ c (We op a b) u/\ ∀w,(Op.stringOp op ⟨a.toArray⟩ ⟨b.toArray⟩).run P w=.ok u w:=by
 rcases h with rfl|rfl|rfl|rfl|rfl|rfl<;>
  exact⟨_,by simp only[We,bJ];exact VD.bool_mk,fun w=>by simp[Op.stringOp,gU,ltS]⟩
theorem lX (op:BinOp) (t:TypeId) (ox oy:Operand) (x y:Value) (w:World) (h:x.oneCell'=true) (h2:x≠ .nilIface):(eqGuard op t ox oy x y).run P w=.ok () w:=by
 unfold eqGuard;cases x<;>first
  |(simp[Value.oneCell']at h;done)
  |exact absurd rfl h2
  |(cases op<;>simp)
theorem EK {y:Ty} {v:bG} {x:y.den} (h:v.as [] y=some x) (hy:y.isAgg=true) {u:Value} (hv:bJ c v u): ∃cs,u=.agg cs/\eY c.w c.free y x cs.toList:=by
 cases v with
 |val t' z=>
  grind [bG.as,lT,bJ,VD.agg]
 |nils=>cases y<;>simp_all [bG.as,Ty.isAgg]
 |emp=>cases y<;>simp_all [bG.as,Ty.isAgg]
 |lst t' z b=>
  simp only[bG.as]at h;obtain⟨e,_⟩:=lT h;subst e;cases hy
 |slc id ver vw=>cases y<;>simp_all [bG.as,Ty.isAgg]
 |agg l=>
  simp only[bG.as,hy,cond_true]at h;simp only[bJ]at hv;obtain⟨vs,rfl,h2,_⟩:=hv;exact⟨vs,rfl,nS h h2⟩
 |_=>simp[bG.as]at h
theorem aCU (hT:TOk P T) {op:BinOp} {ox oy:Operand} {x y:bG} {vx vy:Value} {K:bG->Option R} (h:aah T op t x y K=some r) (hx:bJ c x vx) (hy:bJ c y vy):
  ∃z u,K z=some r/\bJ c z u/\ ∀w,(do eqGuard op t ox oy vx vy;binOp op t vx vy:Sem Value).run P w=.ok u w:=by
 unfold aah at h;split at h
 ·
  rename_i k a k' b
  simp only[bJ]at hx hy;obtain rfl:=hx.int_inv;obtain rfl:=hy.int_inv;split at h
  ·rename_i hk
   subst hk;have hg: ∀w,(eqGuard op t ox oy (.int k a) (.int k b)).run P w=.ok () w:=fun w=>lX op t ox oy _ _ w rfl (by simp);cases op<;>simp only[reduceCtorEq]at h
   case quo=>
    replace h:=fU h;obtain⟨h1,h⟩:=h;have h1:b≠0:=by simpa [bM] using h1
    exact⟨_,_,h,by simp only[bJ];exact VD.int_mk,fun w=>by simp_all [binOp,Op.intDiv,aBb]⟩
   case rem=>
    replace h:=fU h;obtain⟨h1,h⟩:=h;have h1:b≠0:=by simpa [bM] using h1
    exact⟨_,_,h,by simp only[bJ];exact VD.int_mk,fun w=>by simp_all [binOp,Op.intDiv]⟩
   case add=>exact⟨_,_,h,by simp only[yB,bJ];exact VD.int_mk,fun w=>by simp_all [binOp,Op.intArith,bU]⟩
   case sub=>exact⟨_,_,h,by simp only[yB,bJ];exact VD.int_mk,fun w=>by simp_all [binOp,Op.intArith,ed]⟩
   case mul=>exact⟨_,_,h,by simp only[yB,bJ];exact VD.int_mk,fun w=>by simp_all [binOp,Op.intArith,akM]⟩
   case eql=>exact⟨_,_,h,by simp only[yB,bJ];exact VD.bool_mk,fun w=>by simp_all [binOp,Op.intCmp,bM]⟩
   case neq=>exact⟨_,_,h,by simp only[yB,bJ];exact VD.bool_mk,fun w=>by simp_all [binOp,Op.intCmp,bM,bne]⟩
   case lss=>exact⟨_,_,h,by simp only[yB,bJ];exact VD.bool_mk,fun w=>by simp_all [binOp,Op.intCmp,iw]⟩
   case leq=>exact⟨_,_,h,by simp only[yB,bJ];exact VD.bool_mk,fun w=>by simp_all [binOp,Op.intCmp,leI]⟩
   case gtr=>exact⟨_,_,h,by simp only[yB,bJ];exact VD.bool_mk,fun w=>by simp_all [binOp,Op.intCmp,iw]⟩
   case geq=>exact⟨_,_,h,by simp only[yB,bJ];exact VD.bool_mk,fun w=>by simp_all [binOp,Op.intCmp,leI]⟩
   case and=>exact⟨_,_,h,by simp only[bJ];exact VD.int_mk,fun w=>by simp_all [binOp,Op.intBits,al5]⟩
   case or=>exact⟨_,_,h,by simp only[bJ];exact VD.int_mk,fun w=>by simp_all [binOp,Op.intBits,al5]⟩
   case xor=>exact⟨_,_,h,by simp only[bJ];exact VD.int_mk,fun w=>by simp_all [binOp,Op.intBits,al5]⟩
   case andNot=>exact⟨_,_,h,by simp only[bJ];exact VD.int_mk,fun w=>by simp_all [binOp,Op.intBits,al5]⟩
   case shl=>
    obtain⟨h1,h⟩:=fU h;have h1: ¬b<0:=by simpa [leI] using h1
    exact⟨_,_,h,by simp only[bJ];exact VD.int_mk,fun w=>by simp[Sem.run_bind,hg,binOp,Op.shift,h1,avm]⟩
   case shr=>
    obtain⟨h1,h⟩:=fU h;have h1: ¬b<0:=by simpa [leI] using h1
    exact⟨_,_,h,by simp only[bJ];exact VD.int_mk,fun w=>by simp[Sem.run_bind,hg,binOp,Op.shift,h1,avn]⟩
  ·have hg: ∀w,(eqGuard op t ox oy (.int k a) (.int k' b)).run P w=.ok () w:=fun w=>lX op t ox oy _ _ w rfl (by simp);split at h
   ·obtain⟨h1,h⟩:=fU h;have h1: ¬b<0:=by simpa [leI] using h1
    exact⟨_,_,h,by simp only[bJ];exact VD.int_mk,fun w=>by simp[Sem.run_bind,hg,binOp,Op.shift,h1,avm]⟩
   ·obtain⟨h1,h⟩:=fU h;have h1: ¬b<0:=by simpa [leI] using h1
    exact⟨_,_,h,by simp only[bJ];exact VD.int_mk,fun w=>by simp[Sem.run_bind,hg,binOp,Op.shift,h1,avn]⟩
   ·cases h
 ·
  rename_i a b
  simp only[bJ]at hx hy;obtain rfl:=hx.bool_inv;obtain rfl:=hy.bool_inv;replace h:=di h;obtain⟨hk,h⟩:=h;have hg: ∀w,(eqGuard op t ox oy (.bool a) (.bool b)).run P w=.ok () w:=fun w=>lX op t ox oy _ _ w rfl (by simp);have key:(T.at t).k=.bool->P.underlying t=some .bool:=fun e=>by
   obtain⟨d,e1,e2⟩:=hT.und hk;rw[e]at e2;cases d<;>simp[kF]at e2;exact e1
  split at h
  ·rename_i e
   have e1:=key e;exact⟨_,_,h,by simp only[bJ];exact VD.bool_mk,fun w=>by simp_all [binOp,Op.equal,Op.maxDepth,run_equalIn_bool]⟩
  ·rename_i e
   have e1:=key e;exact⟨_,_,h,by simp only[bJ];exact VD.bool_mk,fun w=>by simp_all [binOp,Op.equal,Op.maxDepth,run_equalIn_bool]⟩
  ·cases h
 ·
  rename_i a b
  simp only[bJ]at hx hy;obtain rfl:=hx.str_inv;obtain rfl:=hy.str_inv;have hg: ∀w,(eqGuard op t ox oy (.string ⟨a.toArray⟩) (.string ⟨b.toArray⟩)).run P w=.ok () w:=fun w=>lX op t ox oy _ _ w rfl (by simp);have hb:binOp op t (.string ⟨a.toArray⟩) (.string ⟨b.toArray⟩)=Op.stringOp op ⟨a.toArray⟩ ⟨b.toArray⟩:=by cases op<;>rfl
  have fin:(op=.eql\/op=.neq\/op=.lss\/op=.leq\/op=.gtr\/op=.geq)->K (We op a b)=some r->
    ∃z u,K z=some r/\bJ c z u/\ ∀w,(do eqGuard op t ox oy (.string ⟨a.toArray⟩) (.string ⟨b.toArray⟩);binOp op t (.string ⟨a.toArray⟩) (.string ⟨b.toArray⟩):Sem Value).run P w=.ok u w:=fun ho hh=>by
   obtain⟨u,h1,h2⟩:=Zc (P:=P) (c:=c) default op a b ho
   grind [Sem.run_bind,Result.andThen_ok]
  cases op<;>simp only[reduceCtorEq]at h
  case add=>
   replace h:=fU h;obtain⟨h1,h⟩:=h;refine⟨_,_,h,by simp only[bJ];exact VD.str_mk,fun w=> ?_⟩;have h1:a.length+b.length<=ni:=by simpa using h1
   have h2: ¬((a.length:Int)+(b.length:Int)>IntKind.i64.max):=by
    grind [IntKind.max,IntKind.bits,ni]
   have e1:(⟨a.toArray⟩:ByteArray)++⟨b.toArray⟩=⟨(a++b).toArray⟩:=by
    rfl
   simp_all [ByteArray.size,Op.stringOp]
  all_goals simp_all
 ·
  rename_i e xs b
  simp only[bJ]at hx hy;obtain⟨hx1,av,n,m,rfl,rfl⟩:=hx;subst hy;replace h:=di h;obtain⟨hk,h⟩:=h;have hg: ∀w,(eqGuard op t ox oy (.slice av n m) (.slice none 0 0)).run P w=.ok () w:=fun w=>lX op t ox oy _ _ w rfl (by simp);have key: ∀el,(T.at t).k=.slice el->P.underlying t=some (.slice el):=fun el e=>by
   obtain⟨d,e1,e2⟩:=hT.und hk;rw[e]at e2;cases d<;>simp[kF]at e2;rw[e1,e2]
  have heq: ∀el,(T.at t).k=.slice el-> ∀w,(Op.equal t (.slice av n m) (.slice none 0 0)).run P w=.ok av.isNone w:=fun el e w=>by
   have e1:=key el e;show(Op.equalIn (9999+1) t (.slice av n m) (.slice none 0 0)).run P w=_;unfold Op.equalIn;rw[Sem.run_bind,run_underlying e1,Result.andThen_ok];cases av<;>rfl
  split at h
  ·rename_i el e
   exact⟨_,_,h,by simp only[bJ];exact VD.bool_mk,fun w=>by simp_all [binOp]⟩
  ·rename_i el e
   exact⟨_,_,h,by simp only[bJ];exact VD.bool_mk,fun w=>by simp_all [binOp]⟩
  ·cases h
 ·
  rename_i h0 h1 h2 h3
  cases heq:T.eqOk 6 t
  ·simp_all
  rw[heq]at h;simp only[au,cond_false]at h;split at h
  ·rename_i fs ty hkk hty
   have hagg0:(T.at t).isAgg=true:=by simp[TI.isAgg,hkk]
   have hk:(T.at t).known=true:=by simp_all [TT.eqOk]
   have hagg:ty.isAgg=true:=by rw[hT.ty_agg hk hty,hagg0]
   have hge:P.eqGuardType P.depth t=false:=by
    simp only[TT.eqOk,af,hkk]at heq;exact((hT t hk).2.2.2.2.2.1 heq.2.1).1
   split at h
   ·rename_i a b ha hb
    obtain⟨cs,rfl,d1⟩:=EK ha hagg hx;obtain⟨cs',rfl,d2⟩:=EK hb hagg hy;refine⟨_,_,h,by simp only[bJ];exact VD.bool_mk,fun w=> ?_⟩;have h3:=AU (P:=P) hT 6 t heq ty hty a b _ _ d1 d2 w 10000 (by omega);simp_all [valOf,run_eqGuard_agg,run_eql_struct]
   ·rename_i a b ha hb
    obtain⟨cs,rfl,d1⟩:=EK ha hagg hx;obtain⟨cs',rfl,d2⟩:=EK hb hagg hy;refine⟨_,_,h,by simp only[bJ];exact VD.bool_mk,fun w=> ?_⟩;have h3:=AU (P:=P) hT 6 t heq ty hty a b _ _ d1 d2 w 10000 (by omega);simp_all [valOf,run_eqGuard_agg,run_neq_struct]
   ·cases h
  ·cases h
theorem apX {W0:World} (hT:TOk P T) (hok:c.Ok W0) {op:BinOp} {ox oy:Operand} {x y:bG} {vx vy:Value} {K:bG->Option R} (h:PX T c.hp op t x y K=some r) (hx:bJ c x vx) (hy:bJ c y vy):
  ∃z u,K z=some r/\bJ c z u/\ ∀w,(do eqGuard op t ox oy vx vy;binOp op t vx vy:Sem Value).run P w=.ok u w:=by
 unfold PX at h;rw[cond_eq_ite]at h;split at h
 ·rename_i hs
  unfold aqv at hs;split at hs
  ·split at hs
   ·split at hs
    ·rename_i id ver vw q1 q2 e v ys harr
     simp only[af,beq_iff_eq,NZ,decide_eq_true_eq]at hs;obtain⟨rfl,hpos⟩:=hs;simp only[bJ]at hx hy;subst hy;have hview:=(hx.2.2 _ _ _ harr).2 rfl;obtain⟨_,e',zs,hrow,_,_⟩:=hok.obj id _ harr;obtain⟨av,n,m,rfl⟩: ∃a n m,vx=.slice (some a) n m:=by
      rcases hrow.2 with ⟨_,h0⟩|⟨g,cap,cur,hv,_⟩
      ·omega
      ·cases vw with
       |none=>simp_all [iT]
       |some lh=>
        obtain⟨lo,hi⟩:=lh;simp only[iT]at hview
        grind
     obtain⟨hk,h⟩:=di h;have hg: ∀w,(eqGuard op t ox oy (.slice (some av) n m) (.slice none 0 0)).run P w=.ok () w:=fun w=>lX op t ox oy _ _ w rfl (by simp);have heq: ∀el,(T.at t).k=.slice el-> ∀w,(Op.equal t (.slice (some av) n m) (.slice none 0 0)).run P w=.ok false w:=fun el e w=>by
      have e1:P.underlying t=some (.slice el):=by
       obtain⟨d,e1,e2⟩:=hT.und hk;rw[e]at e2;cases d<;>simp[kF]at e2;rw[e1,e2]
      show(Op.equalIn (9999+1) t (.slice (some av) n m) (.slice none 0 0)).run P w=_;unfold Op.equalIn;rw[Sem.run_bind,run_underlying e1,Result.andThen_ok];rfl
     split at h
     ·exact⟨_,_,h,by simp only[bJ];exact VD.bool_mk,fun w=>by simp_all [binOp]⟩
     ·exact⟨_,_,h,by simp only[bJ];exact VD.bool_mk,fun w=>by simp_all [binOp]⟩
     ·cases h
    ·cases hs
   ·cases hs
  ·cases hs
 ·rw[cond_eq_ite]at h;split at h
  ·rename_i hs
   unfold apV at hs;split at hs
   ·split at hs
    ·split at hs
     ·rename_i id off y0 q1 q2 bt cs hbx
      simp only[bJ]at hx hy;subst hy;have hv:=hx.2.2 _ _ hbx;subst hv;obtain⟨hk,h⟩:=di h;have hg: ∀w,(eqGuard op t ox oy (.pointer (some ⟨(c.mu id).blk,off,none⟩)) (.pointer none)).run P w=.ok () w:=fun w=>lX op t ox oy _ _ w rfl (by simp);have heq: ∀el,(T.at t).k=.ptr el-> ∀w,(Op.equal t (.pointer (some ⟨(c.mu id).blk,off,none⟩)) (.pointer none)).run P w=.ok false w:=fun el e w=>by
       have e1:=hT.ptr hk e;show(Op.equalIn (9999+1) t (.pointer (some ⟨(c.mu id).blk,off,none⟩)) (.pointer none)).run P w=_;unfold Op.equalIn;simp_all [run_underlying]
      split at h
      ·exact⟨_,_,h,by simp only[bJ];exact VD.bool_mk,fun w=>by simp_all [binOp]⟩
      ·exact⟨_,_,h,by simp only[bJ];exact VD.bool_mk,fun w=>by simp_all [binOp]⟩
      ·cases h
     ·cases hs
    ·cases hs
   ·cases hs
  ·exact aCU hT h hx hy
theorem aCV {op:UnOp} {x:bG} {v:Value} {K:bG->Option R} (h:anS op x K=some r) (hx:bJ c x v):
  ∃z u,K z=some r/\bJ c z u/\ ∀w,(Op.unary op v).run P w=.ok u w:=by
 unfold anS at h;split at h
 ·simp only[bJ]at hx;obtain rfl:=hx.bool_inv;exact⟨_,_,h,by simp only[bJ];exact VD.bool_mk,fun w=>rfl⟩
 ·simp only[bJ]at hx;obtain rfl:=hx.int_inv;exact⟨_,_,h,by simp only[bJ];exact VD.int_mk,fun w=>by rfl⟩
 ·cases h
end
end
section
open Bool renaming and_eq_true → af, false_eq_true → ah
open Nat renaming le_refl → ae
open Go.RowKit
section
variable {P:Program} {T:TT} {W0:World} {c:Cx} {R:Type} {r:R} {t:TypeId}
theorem qV {v:bG} {n:Int} (h:intOf v=some n) {u:Value} (hv:bJ c v u): ∃k,u=.int k n:=by
 cases v with
 |val t x=>
  cases t<;>simp only[intOf,reduceCtorEq]at h;cases h;simp only[bJ]at hv;exact⟨_,hv.int_inv⟩
 |_=>simp[intOf]at h
def lK (c:Cx):Option bG->Option Value->Prop
 |none,none=>True
 |some v,some u=>bJ c v u
 |_,_=>False
theorem lK.map {fr:List bG} {a:Act} (h:bF c fr a.tmps.toList) (x:Option Operand):lK c (x.map (gK fr)) (x.map a.eval):=by
 cases x with
 |none=>trivial
 |some x=>exact dG h x
theorem lK.none_inv {u:Option Value} (h:lK c none u):u=none:=by
 cases u with
 |none=>rfl
 |some _=>exact h.elim
theorem nN {d l:Int} {x:Option bG} {u:Option Value} (h:bound d x=some l) (hr:lK c x u):(u=none/\l=d)\/ ∃k,u=some (.int k l):=by
 cases x with
 |none=>
  cases u with
  |none=>simp only[bound,Option.some.injEq]at h;simp_all
  |some _=>exact hr.elim
 |some x=>
  cases u with
  |none=>exact hr.elim
  |some u=>
   obtain⟨k,rfl⟩:=qV h hr;simp
theorem pg {w:World} {isS:Bool} {n cap:Nat} {l h:Int} {lo hi:Option Value} (hl:(lo=none/\l=0)\/ ∃k,lo=some (.int k l)) (hh:(hi=none/\h=(n:Int))\/ ∃k,hi=some (.int k h))
  (h0:0<=l) (h1:l<=h) (h2:h<=(n:Int)) (h3:n<=cap):(Instr.sliceBounds isS n cap lo hi none).run P w=.ok (l.toNat,h.toNat,cap) w:=by
 have b1: ∀k code,(Instr.sliceBound (.int k h) cap code).run P w=.ok h.toNat w:=fun k code=>by
  simp only[Instr.sliceBound,asIntOf,Sem.run_bind,Sem.run_pure,Result.andThen_ok];rw[if_pos ⟨by omega,by omega⟩];rfl
 have b2: ∀k code,(Instr.sliceBound (.int k l) h.toNat code).run P w=.ok l.toNat w:=fun k code=>by
  simp only[Instr.sliceBound,asIntOf,Sem.run_bind,Sem.run_pure,Result.andThen_ok];rw[if_pos ⟨by omega,by omega⟩];rfl
 rcases hl with ⟨rfl,rfl⟩|⟨k,rfl⟩<;>rcases hh with ⟨rfl,rfl⟩|⟨k',rfl⟩<;>simp[Instr.sliceBounds,Sem.run_bind,b1,b2]
 simp_all
theorem LW {w:World} {n cap:Nat} {lo:Option Value} {q k:IntKind} (hl:(lo=none/\(0:Int)=0)\/ ∃k,lo=some (.int k 0)):
  (Instr.sliceBounds true n cap lo (some (.int q 0)) (some (.int k 0))).run P w=.ok (0,0,0) w:=by
 have b1: ∀k c code,(Instr.sliceBound (.int k 0) c code).run P w=.ok 0 w:=fun k c code=>by
  rfl
 rcases hl with ⟨rfl,_⟩|⟨k',rfl⟩<;>simp[Instr.sliceBounds,Sem.run_bind,b1]
theorem Ig {n lo hi:Int} (h:fF n lo hi=true):0<=lo/\lo<=hi/\hi<=n:=by
 simp_all [fF]
theorem Ir {α:Type} (l:List α) {lo hi:Int} (h1:0<=lo) (h2:lo<=hi) (h3:hi<=(l.length:Int)):(sub l lo hi).length=hi.toNat-lo.toNat:=by
 grind [sub]
theorem qw {e:Ty} {xs:List e.den} {v:Value} (h:VD c (.list e) xs v): ∃a n zs,v=.slice a xs.length n/\xs.length<=n/\fQ (eY c.w c.free e) e.size xs zs/\(zs=[]\/ ∃b off,a=some ⟨b,off,none⟩/\c.free b/\gV c.w b off zs):=by
 obtain⟨a,n,zs,h1,h2,h3,h4⟩:=h.2 rfl
 grind
theorem VD.sub_list {e:Ty} {xs:List e.den} {a:Option Addr} {n:Nat} {zs:List Value} (h2:xs.length<=n) (h3:fQ (eY c.w c.free e) e.size xs zs) (h4:zs=[]\/ ∃b off,a=some ⟨b,off,none⟩/\c.free b/\gV c.w b off zs)
  {l h:Int} (p1:0<=l) (p2:l<=h) (p3:h<=(xs.length:Int)):
  VD c (.list e) (sub xs l h) (.slice (if n=l.toNat then a else a.map (·.add (l.toNat*e.size))) (h.toNat-l.toNat) (n-l.toNat)):=by
 refine(VD.leaf rfl).2 ⟨_,_,(zs.take (h.toNat*e.size)).drop (l.toNat*e.size),by rw[Ir xs p1 p2 p3],by grind [Ir],fQ.drop _ _ _ (fQ.take _ _ _ h3), ?_⟩;by_cases hn:n=l.toNat
 ·grind
 ·rw[if_neg hn];rcases h4 with h4|⟨b,off,h5,h6,h7⟩
  ·left;rw[h4];simp
  ·right;refine⟨b,off+l.toNat*e.size,by rw[h5];simp[jU],h6, ?_⟩;have:=h7.sub (l.toNat*e.size) (h.toNat*e.size-l.toNat*e.size)
   grind [List.drop_take]
theorem ahr (hT:TOk P T) (hok:c.Ok W0) {x:bG} {v:Value} {lo hi mx:Option bG} {lo' hi' mx':Option Value} {K:bG->Option R} (h:I8 T c.hp t x lo hi mx K=some r) (hx:bJ c x v)
  (hlo:lK c lo lo') (hhi:lK c hi hi') (hmx:lK c mx mx'): ∃z u,K z=some r/\bJ c z u/\ ∀w,(Instr.sliceAt t v lo' hi' mx').run P w=.ok u w:=by
 unfold I8 at h;split at h
 ·rename_i s
  split at h
  ·rename_i l hh hl hhh
   replace h:=fU h;obtain⟨h1,h⟩:=h;simp only[af]at h1;obtain⟨p1,p2,p3⟩:=Ig h1.2;simp only[bJ]at hx;obtain rfl:=hx.str_inv;have hm:mx'=none:=lK.none_inv hmx;subst hm;have hu:=EY hT h1.1;refine⟨_,.string ⟨(sub s l hh).toArray⟩,h,by simp only[bJ];exact VD.str_mk,fun w=> ?_⟩;have hs:(⟨s.toArray⟩:ByteArray).size=s.length:=by rfl
   have hb:=pg (P:=P) (w:=w) (isS:=false) (cap:=s.length) (nN hl hlo) (nN hhh hhi) p1 p2 p3 (ae _);have he:(⟨s.toArray⟩:ByteArray).extract l.toNat hh.toNat=⟨(sub s l hh).toArray⟩:=by
    apply ByteArray.ext;simp_all [sub,List.drop_take]
   simp only[Instr.sliceAt,Instr.slice,Sem.run_bind,run_underlying hu,Result.andThen_ok,Option.isSome_none,ah,if_false,hs,hb,Sem.run_pure,he]
  ·cases h
 ·rename_i e xs
  split at h
  ·rename_i l hh hl hhh
   replace h:=fU h;obtain⟨h1,h⟩:=h;simp only[af]at h1;obtain⟨p1,p2,p3⟩:=Ig h1.2;simp only[bC]at p3;simp only[bJ]at hx;obtain⟨a,n,zs,rfl,h2,h3,h4⟩:=qw hx;have hm:mx'=none:=lK.none_inv hmx;subst hm;obtain⟨et,hu,hk,hsz,_,_⟩:=lM hT h1.1;refine⟨_,_,h,by simp only[bJ];exact VD.sub_list h2 h3 h4 p1 p2 p3,fun w=> ?_⟩;have hb:=pg (P:=P) (w:=w) (isS:=true) (n:=xs.length) (cap:=n) (nN hl hlo) (nN hhh hhi) p1 p2 p3 h2;simp only[Instr.sliceAt,Instr.slice,Sem.run_bind,run_underlying hu,Result.andThen_ok,hb,hT.sizeOf hk w,Sem.run_pure,hsz]
  ·cases h
 ·rename_i e xs mv
  split at h
  ·rename_i l hh k hl hhh hk3
   replace h:=fU h;obtain⟨h1,h⟩:=h;simp only[af,beq_iff_eq]at h1;obtain⟨h1,rfl,rfl,rfl⟩:=h1;simp only[bJ]at hx;obtain⟨a,n,zs,rfl,h2,h3,h4⟩:=qw hx;obtain⟨et,hu,hk,hsz,_,_⟩:=lM hT h1;obtain⟨hv,rfl,hhv⟩:=Option.bind_eq_some_iff.1 hhh;cases hmx':mx' with
   |none=>simp_all [lK]
   |some m2=>
    rw[hmx']at hmx;cases hhi':hi' with
    |none=>simp_all [lK]
    |some h2'=>
     rw[hhi']at hhi;obtain⟨q,rfl⟩:=qV hhv (show bJ c hv h2' from hhi);obtain⟨k',rfl⟩:=qV hk3 (show bJ c mv m2 from hmx);refine⟨_,.slice a 0 0,h,by simp only[bJ];exact⟨a,rfl⟩,fun w=> ?_⟩;have hb:=LW (P:=P) (w:=w) (n:=xs.length) (cap:=n) (q:=q) (k:=k') (nN hl hlo);simp only[Instr.sliceAt,Instr.slice,Sem.run_bind,run_underlying hu,Result.andThen_ok,hb,hT.sizeOf hk w,Sem.run_pure];simp
  ·cases h
 ·split at h
  ·rename_i l hh hl hhh
   replace h:=fU h;obtain⟨h1,h⟩:=h;simp only[af,bM,beq_iff_eq]at h1;obtain⟨h1,rfl,rfl⟩:=h1;simp only[bJ]at hx;subst hx;have hm:mx'=none:=lK.none_inv hmx;subst hm;obtain⟨et,hu,hk,hsz,_,_⟩:=lM hT h1;refine⟨_,.slice none 0 0,h,by simp only[bJ],fun w=> ?_⟩;have hb:=pg (P:=P) (w:=w) (isS:=true) (n:=0) (cap:=0) (nN hl hlo) (nN hhh hhi) (Int.le_refl _) (Int.le_refl _) (Int.le_refl _) (ae _);simp only[Instr.sliceAt,Instr.slice,Sem.run_bind,run_underlying hu,Result.andThen_ok,hb,hT.sizeOf hk w,Sem.run_pure];simp
  ·cases h
 ·rename_i id ver
  split at h
  ·rename_i e u xs harr
   replace h:=di h;obtain⟨h0,h⟩:=h;have h0:u=ver:=by simpa using h0
   subst h0;split at h
   ·rename_i l hh hl hhh
    replace h:=fU h;obtain⟨h1,h⟩:=h;simp only[af]at h1;obtain⟨p1,p2,p3⟩:=Ig h1.2;simp only[bC]at p3;simp only[bJ]at hx;have hx1:=(hx.2.2 _ _ _ harr).2 rfl;simp only[iT]at hx1;have hm:mx'=none:=lK.none_inv hmx;subst hm;obtain⟨et,hu,hk,hsz,_,_⟩:=lM hT h1.1;obtain⟨_,e',zs,hown,hL,hty⟩:=hok.obj id _ harr;obtain⟨a,n,hv,hn⟩: ∃a n,(c.mu id).v=.slice a xs.length n/\xs.length<=n:=by
     rcases hown.2 with ⟨e1,e2⟩|⟨g,cap,cur,e1,_,_,e2,_⟩
     all_goals grind
    rw[hv]at hx1;subst hx1;refine⟨_,.slice (if n=l.toNat then a else a.map (·.add (l.toNat*e.size))) (hh.toNat-l.toNat) (n-l.toNat),h, ?_,fun w=> ?_⟩
    ·simp only[bJ];refine⟨rfl,hx.2.1,fun t' u' xs' h'=> ?_⟩;rw[harr]at h';cases h';exact⟨ae _,fun _=>⟨a,xs.length,n,hv,p1,p2,p3,rfl⟩⟩
    ·have hb:=pg (P:=P) (w:=w) (isS:=true) (n:=xs.length) (cap:=n) (nN hl hlo) (nN hhh hhi) p1 p2 p3 hn;simp only[Instr.sliceAt,Instr.slice,Sem.run_bind,run_underlying hu,Result.andThen_ok,hb,hT.sizeOf hk w,Sem.run_pure,hsz]
   ·cases h
  ·cases h
 ·cases h
end
end
section
open Bool renaming and_eq_true → af
open List renaming append_assoc → ai, map_cons → ax, length_cons → aB, nil_append → aH, drop_of_length_le → aJ
open Go.RowKit
section
variable {P:Program} {T:TT} {W0:World} {c:Cx} {R:Type} {r:R} {t:TypeId}
theorem Qm {α:Type} {l:List α} {i:Int} (h:gI l i=true):0<=i/\i<(l.length:Int)/\i.toNat<l.length:=by
 simp_all [gI]
theorem ati {α:Type} {l:List α} {d:α} {i:Int} (h:i.toNat<l.length):dN l d i=l[i.toNat]:=by grind [dN]
theorem BI (hT:TOk P T) {e:TypeId} (hu:P.underlying t=some (.slice e)) (hk:(T.at e).known=true) (w:World) (a:Addr) (n cp:Nat) (k:IntKind) (i:Int) (h0:0<=i) (h1:i<(n:Int)):
  (Instr.indexAt t (.slice (some a) n cp) (.int k i)).run P w=.ok (.pointer (some (a.add (i.toNat*(T.at e).size)))) w:=by
 simp only[Instr.indexAt,asIntOf,Sem.run_bind,Sem.run_pure,Result.andThen_ok,run_underlying hu];rw[if_pos ⟨h0,h1⟩];simp[Sem.run_bind,hT.sizeOf hk w]
theorem ND (hT:TOk P T) (hok:c.Ok W0) {x i:bG} {v vi:Value} {K:bG->Option R} (h:tC T c.hp t x i K=some r) (hx:bJ c x v) (hi:bJ c i vi):
  ∃z u,K z=some r/\bJ c z u/\ ∀w,(Instr.indexAt t v vi).run P w=.ok u w:=by
 unfold tC at h;split at h
 ·cases h
 rename_i n hn
 obtain⟨k,rfl⟩:=qV hn hi;split at h
 ·rename_i e xs
  replace h:=fU h;obtain⟨h1,h⟩:=h;simp only[af]at h1;obtain⟨i0,i1,i2⟩:=Qm h1.2;simp only[bJ]at hx;obtain⟨a,cp,zs,rfl,h2,h3,h4⟩:=qw hx;obtain⟨et,hu,hk,hsz,hpos,_⟩:=lM hT h1.1;obtain⟨d,d1,d2,l1,l2,d3,d4⟩:=fQ.at_ n.toNat xs zs i2 h3;have hne:zs≠[]:=by
   intro e0;simp_all
  rcases h4 with h4|⟨b,off,h5,h6,h7⟩
  ·exact absurd h4 hne
  ·refine⟨_,.pointer (some ⟨b,off+n.toNat*e.size,none⟩),h, ?_,fun w=> ?_⟩
   ·simp only[bJ];refine⟨b,_,d,rfl,h6, ?_,by rw[ati i2];exact d2⟩;simp_all [gV.append]
   ·rw[h5,BI hT hu hk w _ _ _ _ _ i0 i1,hsz,jU]
 ·rename_i id ver vw
  split at h
  ·rename_i e u xs harr
   replace h:=di h;obtain⟨h0,h⟩:=h;have h0:u=ver:=by simpa using h0
   subst h0;simp only[bJ]at hx;have hx1:=(hx.2.2 _ _ _ harr).2 rfl;obtain⟨_,e',zs,hown,hL,hty⟩:=hok.obj id _ harr;split at h
   ·replace h:=fU h;obtain⟨h1,h⟩:=h;simp only[af]at h1;obtain⟨i0,i1,i2⟩:=Qm h1.2;obtain⟨et,hu,hk,hsz,hpos,_⟩:=lM hT h1.1;simp only[iT]at hx1;rcases hown.2 with ⟨e1,e2⟩|⟨g,cap,cur,e1,_,_,e2,_⟩
    ·omega
    ·rw[e1]at hx1;subst hx1;refine⟨_,.pointer (some ⟨g,n.toNat*e.size,none⟩),h, ?_,fun w=> ?_⟩
     ·simp only[bJ];refine⟨rfl,hx.2.1,fun t' u' xs' h'=> ?_⟩;simp_all
     ·rw[BI hT hu hk w _ _ _ _ _ i0 i1,hsz,jU,Nat.zero_add]
   ·rename_i lo hi'
    replace h:=fU h;obtain⟨h1,h⟩:=h;simp only[af,decide_eq_true_eq,iw]at h1;obtain⟨et,hu,hk,hsz,hpos,_⟩:=lM hT h1.1;simp only[iT]at hx1;obtain⟨a,m,cp,hv,q1,q2,q3,hx1⟩:=hx1;rcases hown.2 with ⟨e1,e2⟩|⟨g,cap,cur,e1,_,_,e2,_⟩
    ·grind
    ·rw[e1]at hv;cases hv;rw[if_neg (by omega)]at hx1;subst hx1;refine⟨_,.pointer (some ⟨g,(lo+n).toNat*e.size,none⟩),h, ?_,fun w=> ?_⟩
     ·simp only[bJ];refine⟨rfl,hx.2.1,fun t' u' xs' h'=> ?_⟩;simp_all
     ·simp only[Option.map_some];rw[BI hT hu hk w _ _ _ _ _ h1.2.1 (by omega),hsz,jU,jU,Nat.zero_add,<-Nat.add_mul]
      grind
  ·cases h
 ·cases h
theorem ahq (hT:TOk P T) {i:bG} {s:List UInt8} {n:Int} {v vi:Value} (hx:bJ c (.val .str s) v) (hi:bJ c i vi) (hn:intOf i=some n) (h:(T.isStr t&&gI s n)=true):
  bJ c (.val (.int .u8) (bV s n)) (.int .u8 (bV s n))/\ ∀w,(Instr.index t v vi).run P w=.ok (.int .u8 (bV s n)) w:=by
 simp only[af]at h;obtain⟨i0,i1,i2⟩:=Qm h.2;simp only[bJ]at hx;obtain rfl:=hx.str_inv;obtain⟨k,rfl⟩:=qV hn hi;have hu:=EY hT h.1;refine⟨by simp only[bJ];exact VD.int_mk,fun w=> ?_⟩;have hb:(⟨s.toArray⟩:ByteArray)[n.toNat]? =some s[n.toNat]:=by
  have:n.toNat<(⟨s.toArray⟩:ByteArray).size:=by assumption
  rw[getElem?_pos (⟨s.toArray⟩:ByteArray) n.toNat this];rfl
 simp only[Instr.index,asIntOf,Sem.run_bind,Sem.run_pure,Result.andThen_ok,run_underlying hu,if_pos i0,hb]
 grind [bV]
theorem AV (hT:TOk P T) {f off:Nat} {ft:TypeId} (h:T.fieldAt t f=some (off,ft)): ∃fs fields fl,(T.at t).k=.struct fs/\fs[f]? =some (off,ft)/\(T.at t).known=true/\(T.at ft).known=true/\0<(T.at ft).size/\
  P.underlying t=some (.struct fields)/\fields[f]? =some fl/\fl.offset=off/\fl.type=ft:=by
 unfold TT.fieldAt at h;split at h
 ·rename_i fs hkk
  replace h:=di h;obtain⟨hk,h⟩:=h;split at h
  ·rename_i o ft' hf
   replace h:=di h;obtain⟨h1,h2⟩:=h;cases h2;simp only[af,NZ,decide_eq_true_eq]at h1;obtain⟨fields,e1,e2⟩:=hT.struct hk hkk
   grind
  ·cases h
 ·cases h
theorem KL (hT:TOk P T): ∀(fs:List (Nat×TypeId)) (o:Nat) (y:Ty),jC T o fs=some y-> ∀(f off:Nat) (ft:TypeId),fs[f]? =some (off,ft)-> ∀(x:y.den) (cs:List Value),eY c.w c.free y x cs->
  ∃(a:Ty) (z:a.den) (l1 l2 l3:List Value),WG y x f=.val a z/\P5 y x f=.cellp a z/\(T.at ft).ty=some a/\a.size=(T.at ft).size/\cs=l1++l2++l3/\o+l1.length=off/\eY c.w c.free a z l2
 |[],_,_,_,f,_,_,h,_,_,_=>by simp at h
 |(o',ft')::fs,o,y,hy,f,off,ft,hf,x,cs,hd=>by
  simp only[jC]at hy;split at hy
  ·rename_i ho
   split at hy
   ·rename_i a ha
    split at hy
    ·rename_i hs
     split at hy
     ·rename_i b hb
      cases hy;obtain⟨l1,l2,h1,h2,h3⟩:=hd;cases f with
      |zero=>
       simp only[List.getElem?_cons_zero,Option.some.injEq,Prod.mk.injEq]at hf;obtain⟨rfl,rfl⟩:=hf;exact⟨a,x.1,[],l1,l2,rfl,rfl,ha,hs.1,by simpa using h1,by simp;omega,h2⟩
      |succ f=>
       simp only[List.getElem?_cons_succ]at hf;obtain⟨a',z,m1,m2,m3,e1,e2,e3,e4,e5,e6,e7⟩:=KL hT fs (o+a.size) b hb f off ft hf x.2 l2 h3;refine⟨a',z,l1++m1,m2,m3,e1,e2,e3,e4,by rw[h1,e5];simp, ?_,e7⟩
       grind [eY.length]
     ·cases hy
    ·cases hy
   ·cases hy
  ·cases hy
theorem BH (hT:TOk P T) {f off:Nat} {ft:TypeId} (h:T.fieldAt t f=some (off,ft)) (w:World) (b o:Nat):
  (Instr.fieldAt t (.pointer (some ⟨b,o,none⟩)) f).run P w=.ok (.pointer (some ⟨b,o+off,none⟩)) w:=by
 obtain⟨fs,fields,fl,hkk,hf,hk,hk2,hpos,hu,hfl,e1,e2⟩:=AV hT h;have hs:=hT.sizeOf (t:=fl.type) (by rw[e2];exact hk2) w;simp only[Instr.fieldAt,Sem.run_bind,run_underlying hu,Result.andThen_ok,hfl,Instr.sureAddr,Sem.run_pure,fieldPlace,hs,Sem.run_ite];rw[if_neg (by rw[e2];omega)];simp[jU,e1]
theorem VR (hT:TOk P T) (hk:(T.at t).known=true) {fs:List (Nat×TypeId)} (hkk:(T.at t).k=.struct fs) {y:Ty} (hy:(T.at t).ty=some y):jC T 0 fs=some y:=by
 rcases(hT t hk).2.2.1 with h1|h1
 ·simp_all
 ·rw[hy,hkk]at h1;exact h1.symm
theorem NC (hT:TOk P T) {x:bG} {f:Nat} {v:Value} {K:bG->Option R} (h:tu T c.hp t x f K=some r) (hx:bJ c x v):
  ∃z u,K z=some r/\bJ c z u/\ ∀w,(Instr.fieldAt t v f).run P w=.ok u w:=by
 unfold tu at h;split at h
 ·rename_i off ft hfa
  obtain⟨fs,fields,fl,hkk,hf,hk,hk2,hpos,hu,hfl,e1,e2⟩:=AV hT hfa;split at h
  ·rename_i u y
   split at h
   ·rename_i u' hty
    split at h
    ·rename_i z hz
     have e:=iF hz;subst e;rw[gp]at hz;cases hz;simp only[bJ]at hx;obtain⟨b,o,zs,rfl,hb,hc,hd⟩:=hx;obtain⟨a,z,l1,l2,l3,g1,g2,g3,g4,g5,g6,g7⟩:=KL hT fs 0 u (VR hT hk hkk hty) f off ft hf _ _ hd;refine⟨_,.pointer (some ⟨b,o+off,none⟩),h, ?_,fun w=>BH hT hfa w b o⟩;rw[g2];simp only[bJ];rw[g5,ai]at hc;have:=(gV.append.1 (gV.append.1 hc).2).1
     grind
    ·cases h
   ·cases h
  ·rename_i id o
   split at h
   ·rename_i bt cs hcs
    simp only[bJ]at hx;have hv:=hx.2.2 _ _ hcs;subst hv;refine⟨_,.pointer (some ⟨(c.mu id).blk,o+off,none⟩),h, ?_,fun w=>BH hT hfa w _ o⟩;simp only[bJ];exact⟨rfl,hx.2.1,fun _ _ _=>trivial⟩
   ·cases h
  ·rename_i id ver i o
   split at h
   ·rename_i e u xs harr
    replace h:=di h;obtain⟨h0,h⟩:=h;have h0:u=ver:=by simpa using h0
    subst h0;simp only[bJ]at hx;obtain⟨g,n,cp,hv,hx1⟩:=(hx.2.2 _ _ _ harr).2 rfl;subst hx1;refine⟨_,.pointer (some ⟨g,i*e.size+o+off,none⟩),h, ?_,fun w=>BH hT hfa w _ _⟩;simp only[bJ];refine⟨rfl,hx.2.1,fun t' u' xs' h'=> ?_⟩
    grind
   ·cases h
  ·cases h
 ·cases h
theorem ahp (hT:TOk P T) {x:bG} {f:Nat} {v:Value} {K:bG->Option R} (h:I5 T t x f K=some r) (hx:bJ c x v):
  ∃z u,K z=some r/\bJ c z u/\ ∀w,(Instr.field t v f).run P w=.ok u w:=by
 unfold I5 at h;split at h
 ·rename_i off ft hfa
  obtain⟨fs,fields,fl,hkk,hf,hk,hk2,hpos,hu,hfl,e1,e2⟩:=AV hT hfa;have hagg:(T.at t).isAgg=true:=by simp[TI.isAgg,hkk]
  split at h
  ·rename_i u y
   split at h
   ·rename_i u' hty
    split at h
    ·rename_i z hz
     have e:=iF hz;subst e;rw[gp]at hz;cases hz;simp only[bJ]at hx;have hag:=hT.ty_agg hk hty;rw[hagg]at hag;obtain⟨cs,rfl,hd⟩:=(VD.agg hag).1 hx;obtain⟨a,z,l1,l2,l3,g1,g2,g3,g4,g5,g6,g7⟩:=KL hT fs 0 u (VR hT hk hkk hty) f off ft hf _ _ hd;refine⟨_,valOf (T.at ft).isAgg l2,h, ?_,fun w=> ?_⟩
     ·grind [bJ,acX]
     ·have hl2:=eY.length _ _ _ g7;have hlen:off+(T.at ft).size<=cs.size:=by
       have:=congrArg List.length g5;simp at this;omega
      have hp:=JU (P:=P) hT (t:=fl.type) (by rw[e2];exact hk2) w cs fl.offset (by simp_all);simp only[Instr.field,Sem.run_bind,run_underlying hu,Result.andThen_ok,hfl,asAgg,Sem.run_pure,hp];simp_all
    ·cases h
   ·cases h
  ·rename_i l
   split at h
   ·rename_i cs' hcs
    obtain⟨q1,rfl⟩:=AO hcs;simp only[bJ]at hx;obtain⟨vs,rfl,hv,h1⟩:=hx;have hlen:=bF.length _ _ hv;simp at hlen;refine⟨_,valOf (T.at ft).isAgg ((vs.toList.drop off).take (T.at ft).size),h,JP hT hk2 (bF.take _ _ _ (bF.drop _ _ _ hv)) (fun u hu=>h1 u (List.mem_of_mem_drop (List.mem_of_mem_take hu))),fun w=> ?_⟩;have hp:=JU (P:=P) hT hk2 w vs off (by omega);simp_all [Instr.field,run_underlying,asAgg]
   ·cases h
  ·cases h
 ·cases h
theorem q_len (hT:TOk P T) (hok:c.Ok W0) {x:bG} {v:Value} {K:bG->Option R} (h:aaj T c.hp t x K=some r) (hx:bJ c x v) {ty:TypeId}:
  ∃z u,K z=some r/\bJ c z u/\ ∀w,(Builtin.len_ #[t] ty #[v]).run P w=.ok u w:=by
 unfold aaj at h;split at h
 ·rename_i s
  replace h:=fU h;obtain⟨h1,h⟩:=h;simp only[bJ]at hx;obtain rfl:=hx.str_inv;have hu:=EY hT h1;refine⟨_,_,h,by simp only[bJ];exact VD.int_mk,fun w=> ?_⟩;simp only[Builtin.len_,List.getElem?_toArray,List.getElem?_cons_zero,Sem.run_bind,run_underlying hu,Result.andThen_ok,Sem.run_pure,goInt];congr 2
 ·rename_i e xs
  replace h:=fU h;obtain⟨h1,h⟩:=h;simp only[bJ]at hx;obtain⟨a,cp,zs,rfl,h2,h3,h4⟩:=qw hx;obtain⟨et,hu,hk,hsz,hpos,_⟩:=lM hT h1;exact⟨_,_,h,by simp only[bJ];exact VD.int_mk,fun w=>by simp[Builtin.len_,run_underlying hu,goInt,bC]⟩
 ·replace h:=fU h;obtain⟨h1,h⟩:=h;simp only[bJ]at hx;subst hx;obtain⟨et,hu,hk,hsz,hpos,_⟩:=lM hT h1;exact⟨_,_,h,by simp only[bJ];exact VD.int_mk,fun w=>by simp[Builtin.len_,run_underlying hu,goInt]⟩
 ·rename_i id ver vw
  split at h
  ·rename_i e u xs harr
   replace h:=di h;obtain⟨h0,h⟩:=h;have h0:u=ver:=by simpa using h0
   subst h0;replace h:=fU h;obtain⟨h1,h⟩:=h;obtain⟨et,hu,hk,hsz,hpos,_⟩:=lM hT h1;simp only[bJ]at hx;have hx1:=(hx.2.2 _ _ _ harr).2 rfl;obtain⟨_,e',zs,hown,hL,hty⟩:=hok.obj id _ harr;obtain⟨a,n,hv,hn⟩: ∃a n,(c.mu id).v=.slice a xs.length n/\xs.length<=n:=by
    rcases hown.2 with ⟨e1,e2⟩|⟨g,cap,cur,e1,_,_,e2,_⟩
    all_goals grind
   split at h
   ·simp only[iT]at hx1;rw[hv]at hx1;subst hx1;exact⟨_,_,h,by simp only[bJ];exact VD.int_mk,fun w=>by simp[Builtin.len_,run_underlying hu,goInt,bC]⟩
   ·rename_i lo hi
    simp only[iT]at hx1;obtain⟨a',m,cp,hv',q1,q2,q3,hx1⟩:=hx1;subst hx1;refine⟨_,_,h,by simp only[bJ];exact VD.int_mk,fun w=> ?_⟩;simp only[Builtin.len_,List.getElem?_toArray,List.getElem?_cons_zero,Sem.run_bind,run_underlying hu,Result.andThen_ok,Sem.run_pure,goInt]
    grind
  ·cases h
 ·cases h
theorem sS {k:IntKind}: ∀(l:List bG) (ns:List Int) (us:List Value),Az k l=some ns->bF c l us->us=ns.map (.int k)
 |[],ns,us,h,hv=>by
  grind [Az,bF]
 |v::l,ns,us,h,hv=>by
  cases us with
  |nil=>simp[bF]at hv
  |cons u us=>
   simp only[bF]at hv;cases v with
   |val t x=>
    cases t<;>simp only[Az,reduceCtorEq]at h
    rename_i k'
    split at h
    ·rename_i hk
     subst hk;split at h
     ·rename_i m hm
      cases h;have h1:=hv.1;simp only[bJ]at h1;rw[h1.int_inv,sS l m us hm hv.2];rfl
     ·cases h
    ·cases h
   |_=>simp[Az]at h
theorem Rq (w:World) (k:IntKind): ∀(ns:List Int) (a:Int),((ns.map (Value.int k)).foldlM Builtin.min2 (.int k a)).run P w=.ok (.int k (ns.foldl HY a)) w
 |[],a=>rfl
 |n::ns,a=>by
  simp only[ax,List.foldlM_cons,List.foldl_cons,Sem.run_bind,Builtin.min2,Sem.run_pure,Result.andThen_ok];exact Rq w k ns (HY a n)
theorem Ro (w:World) (k:IntKind): ∀(ns:List Int) (a:Int),((ns.map (Value.int k)).foldlM Builtin.max2 (.int k a)).run P w=.ok (.int k (ns.foldl Bf a)) w
 |[],a=>rfl
 |n::ns,a=>by
  simp only[ax,List.foldlM_cons,List.foldl_cons,Sem.run_bind,Builtin.max2,Sem.run_pure,Result.andThen_ok];exact Ro w k ns (Bf a n)
theorem aaI (off:Nat): ∀(us:List Value) (k:Nat) (zs:List Value),off+k+us.length<=zs.length->
  (us.zipIdx k).foldl (fun cs p=>Array.setIfInBounds cs (off+p.2) p.1) zs.toArray=(zs.take (off+k)++us++zs.drop (off+k+us.length)).toArray
 |[],k,zs,h=>by simp
 |u::us,k,zs,h=>by
  simp only[aB]at h;have ih:=aaI off us (k+1) (zs.set (off+k) u) (by simp;omega);simp only[List.zipIdx_cons,List.foldl_cons];rw[show Array.setIfInBounds zs.toArray (off+k) u=(zs.set (off+k) u).toArray by simp,ih];congr 1;have h1:off+k<zs.length:=by omega
  rw[List.set_eq_take_append_cons_drop,if_pos h1];have t1: ∀(A B:List Value) (n m:Nat),A.length=n->(A++u::B).take (n+1)=A++[u]/\(A++u::B).drop (n+1+m)=B.drop m:=by
   intro A B n m hA;constructor
   ·grind
   ·rw[List.drop_append,aJ (by omega),hA,aH,show n+1+m-n=m+1 by omega];rfl
  obtain⟨a1,a2⟩:=t1 (zs.take (off+k)) (zs.drop (off+k+1)) (off+k) us.length (by simp;omega);rw[show off+(k+1)=off+k+1 by omega,a1,a2];simp;congr 1;omega
theorem Jj (off:Nat) (us:Array Value) (zs:List Value) (h:off+us.size<=zs.length):
  us.zipIdx.foldl (fun cs p=>Array.setIfInBounds cs (off+p.2) p.1) zs.toArray=(zs.take off++us.toList++zs.drop (off+us.size)).toArray:=by
 rw[<-Array.foldl_toList,Array.toList_zipIdx];simp_all [aaI]
theorem aal (hT:TOk P T) {fs:List (Nat×TypeId)} {place:Nat->Option (Nat×Nat)} (hp: ∀i off ft,fs[i]? =some (off,ft)->(T.at ft).known=true->place i=some (off,(T.at ft).size)):
  ∀(parts:List (Nat×bG)) (us:List (Nat×Value)) (cs cs':List bG) (zs:List Value),I4 T fs cs parts=some cs'->bF c cs zs->(∀u∈zs,u.oneCell'=true)->
   us.map (·.1)=parts.map (·.1)->bF c (parts.map (·.2)) (us.map (·.2))-> ∃zs',Instr.fill place zs.toArray us=some zs'.toArray/\bF c cs' zs'/\ ∀u∈zs',u.oneCell'=true
 |[],us,cs,cs',zs,h,hv,h1,hu,_=>by
  simp only[I4,Option.some.injEq]at h;subst h;cases us with
  |nil=>exact⟨zs,rfl,hv,h1⟩
  |cons=>simp at hu
 |(i,v)::parts,us,cs,cs',zs,h,hv,h1,hu,hvs=>by
  cases us with
  |nil=>simp at hu
  |cons u us=>
   obtain⟨i',u⟩:=u;simp only[ax,List.cons.injEq]at hu;obtain⟨rfl,hu⟩:=hu;simp only[ax,bF]at hvs;simp only[I4]at h;split at h
   ·rename_i off ft vs hf hcells
    replace h:=di h;obtain⟨hk,h⟩:=h;simp only[af,beq_iff_eq]at hk;split at h
    ·rename_i cs2 hput
     have hpl:=hp _ _ _ hf hk.1;obtain⟨r1,r2⟩:=KA hcells hvs.1;have hl:=bF.length _ _ r1;have hlz:=bF.length _ _ hv;unfold putCells at hput;replace hput:=di hput;obtain⟨hle,hput⟩:=hput;have hle:off+vs.length<=cs.length:=by simpa using hle
     cases hput;have hus:u.cells.size=vs.length:=by simpa using hl.symm
     have hz2:bF c (cs.take off++vs++cs.drop (off+vs.length)) (zs.take off++u.cells.toList++zs.drop (off+vs.length)):=
      bF.append _ _ _ _ (bF.append _ _ _ _ (bF.take _ _ _ hv) r1) (bF.drop _ _ _ hv)
     have ho: ∀x∈zs.take off++u.cells.toList++zs.drop (off+vs.length),x.oneCell'=true:=by
      grind
     obtain⟨zs',g1,g2,g3⟩:=aal hT hp parts us _ cs' _ h hz2 ho hu hvs.2;refine⟨zs', ?_,g2,g3⟩;rw[<-g1];simp only[Instr.fill,hpl];rw[if_neg (by grind)]
     grind [Jj]
    ·cases h
   ·cases h
end
end
section
open Bool renaming and_eq_true → af, false_eq_true → ah, not_true → au
open List renaming map_cons → ax, nil_append → aH, map_nil → aV
open Go.RowKit
section
variable {P:Program} {T:TT} {W0:World} {c:Cx} {R:Type} {r:R} {t:TypeId}
theorem bF.map_eval {fr:List bG} {a:Act} (h:bF c fr a.tmps.toList): ∀(xs:List Operand),bF c (xs.map (gK fr)) (xs.map a.eval)
 |[]=>by simp[bF]
 |x::xs=>by simp only[ax,bF];exact⟨dG h x,bF.map_eval h xs⟩
theorem LV {w:World} {B:Nat} {e:TypeId} {size n:Nat} {v:Value} {zs:List Value} (h:w.ownsRow B e size v n zs): ∃a cp,v=.slice a n cp/\n<=cp/\(zs=[]\/ ∃g,a=some ⟨g,0,none⟩/\g<w.heap.size/\B<=g/\gV w g 0 zs):=by
 rcases h.2 with ⟨e1,e2⟩|⟨g,cap,cur,e1,e2,e3,e4,e5,e6,e7⟩
 ·refine⟨none,0,by rw[e1,e2],by omega,.inl ?_⟩;have:=h.1;simp_all
 ·refine⟨_,cap,e1,e4,.inr ⟨g,rfl,(Array.getElem?_eq_some_iff.1 e3).1,e2, ?_⟩⟩;have:=(gV.of_block_cells e3).sub 0 (n*size);simp_all
theorem qK {w:World} {B:Nat} {e:TypeId} {size n:Nat} {v:Value} {zs:List Value} (h:w.ownsRow B e size v n zs): ∃a cp,v=.slice a n cp/\n<=cp/\(zs=[]\/ ∃g,a=some ⟨g,0,none⟩/\g<w.heap.size/\gV w g 0 zs):=by
 grind [LV]
theorem RI (hok:c.Ok W0) {x:bG} {e:Ty} {ys:List e.den} {u:Value} (h:x.as c.hp (.list e)=some ys) (hx:bJ c x u):
  ∃a cp zs,u=.slice a ys.length cp/\fQ (eY c.w c.free e) e.size ys zs/\(zs=[]\/ ∃b off,a=some ⟨b,off,none⟩/\b<c.w.heap.size/\ ¬c.bar b/\gV c.w b off zs):=by
 cases x with
 |val t' z=>
  simp only[bG.as]at h;have e:=iF h;subst e;rw[gp]at h;cases h;simp only[bJ]at hx;obtain⟨a,n,zs,h1,h2,h3,h4⟩:=qw hx;exact⟨a,n,zs,h1,h3,h4.imp id fun⟨b,off,q1,q2,q3⟩=>⟨b,off,q1,q2.1,q2.2.2.2,q3⟩⟩
 |nils=>
  simp only[bG.as,Option.some.injEq]at h;subst h;simp only[bJ]at hx;exact⟨none,0,[],hx,rfl,.inl rfl⟩
 |lst t' z b=>
  simp only[bG.as]at h;have e:=iF h;cases e;rw[gp]at h;cases h;simp only[bJ]at hx;obtain⟨a,n,zs,h1,h2,h3,h4⟩:=qw hx.1;exact⟨a,n,zs,h1,h3,h4.imp id fun⟨b,off,q1,q2,q3⟩=>⟨b,off,q1,q2.1,q2.2.2.2,q3⟩⟩
 |emp=>
  simp only[bG.as,Option.some.injEq]at h;subst h;simp only[bJ]at hx;obtain⟨a,rfl⟩:=hx;exact⟨a,0,[],rfl,rfl,.inl rfl⟩
 |slc id ver vw=>
  simp only[bG.as,AP]at h;split at h
  ·rename_i t' v xs harr
   replace h:=di h;obtain⟨hv,h⟩:=h;have hv:v=ver:=by simpa using hv
   subst hv;split at h
   ·rename_i ys' hys
    have e:=iF hys;cases e;rw[gp]at hys;cases hys;cases h;simp only[bJ]at hx;have hx1:=(hx.2.2 _ _ _ harr).2 rfl;obtain⟨_,e',zs,hown,hL,hty⟩:=hok.obj id _ harr;obtain⟨a,cp,hv,hn,hcell⟩:=LV hown;cases vw with
    |none=>
     simp only[iT]at hx1;rw[hv]at hx1;exact⟨a,cp,zs,hx1,hL,hcell.imp (fun h=>h) fun⟨g,q1,q2,q4,q3⟩=>⟨g,0,q1,q2,fun hb=>(hok.bar _ hb).2.1 ⟨id,_,harr,by rw[dD.blk,hv,q1];rfl⟩,q3⟩⟩
    |some p=>
     obtain⟨lo,hi⟩:=p;simp only[iT]at hx1;obtain⟨a',m,cp',hv',p1,p2,p3,hx1⟩:=hx1;rw[hv]at hv';cases hv';refine⟨(if cp=lo.toNat then a else a.map (·.add (lo.toNat*e.size))),cp-lo.toNat,(zs.take (hi.toNat*e.size)).drop (lo.toNat*e.size), ?_,fQ.drop _ _ _ (fQ.take _ _ _ hL), ?_⟩
     ·simp_all [Zn,Ir]
     ·by_cases hcp:cp=lo.toNat
      ·grind
      ·rw[if_neg hcp];rcases hcell with h0|⟨g,q1,q2,q4,q3⟩
       ·left;rw[h0];simp
       ·right;refine⟨g,0+lo.toNat*e.size,by rw[q1];simp[jU],q2,fun hb=>(hok.bar _ hb).2.1 ⟨id,_,harr,by rw[dD.blk,hv,q1];rfl⟩, ?_⟩;rw[List.drop_take];exact q3.sub _ _
   ·cases h
  ·cases h
 |agg l=>simp[bG.as,Ty.isAgg]at h
 |_=>simp[bG.as]at h
theorem Y0 (hok:c.Ok W0) {x:bG} {e:Ty} {ys:List e.den} {u:Value} (h:x.as c.hp (.list e)=some ys) (hx:bJ c x u):
  ∃a cp zs,u=.slice a ys.length cp/\fQ (eY c.w c.free e) e.size ys zs/\(zs=[]\/ ∃b off,a=some ⟨b,off,none⟩/\b<c.w.heap.size/\gV c.w b off zs):=by
 grind [RI]
theorem Ht {k:IntKind} {w:World} {fr:Nat->Prop}: ∀(xs:List Int) (zs:List Value),fQ (eY w fr (.int k)) 1 xs zs->zs=xs.map (.int k)
 |[],_,h=>by cases h;rfl
 |x::xs,_,⟨d,rest,e1,e2,e3,e4⟩=>by
  simp only[eY]at e3;subst e1;subst e3;rw[Ht xs rest e4];rfl
theorem KN: ∀(ns:List Int) (acc:List UInt8),ns.foldl (fun r n=>r.push (UInt8.ofNat n.toNat)) (⟨acc.toArray⟩:ByteArray)=⟨(acc++ofBytes ns).toArray⟩
 |[],acc=>by simp[ofBytes]
 |n::ns,acc=>by
  rw[List.foldl_cons];have:(⟨acc.toArray⟩:ByteArray).push (UInt8.ofNat n.toNat)=⟨(acc++[UInt8.ofNat n.toNat]).toArray⟩:=by
   simp[ByteArray.push]
  rw[this,KN ns];simp[ofBytes]
theorem akZ (hT:TOk P T) (hok:c.Ok W0) {s d:TypeId} {x:bG} {v:Value} {K:bG->Option R} (h:zH T s d x c.hp K=some r) (hx:bJ c x v):
  ∃z u,K z=some r/\bJ c z u/\ ∀w',FZ c w'->(convert s d v).run P w'=.ok u w':=by
 unfold zH at h;cases hk:((T.at s).known&&(T.at d).known)
 ·simp_all
 rw[hk]at h;simp only[au,cond_false]at h;simp only[af]at hk;split at h
 ·rename_i k1 k2 k3 n h1 h2
  simp only[bJ]at hx;obtain rfl:=hx.int_inv;have e1:=hT.int hk.1 h1;have e2:=hT.int hk.2 h2;exact⟨_,_,h,by simp only[bJ];exact VD.int_mk,fun w' _=>by simp_all [convert,run_underlying,Conv.intToInt]⟩
 ·rename_i str h1 h2
  simp only[bJ]at hx;obtain rfl:=hx.str_inv;have e1:=hT.str hk.1 h1;have e2:=hT.str hk.2 h2;exact⟨_,_,h,by simp only[bJ];exact VD.str_mk,fun w' _=>by simp_all [convert,run_underlying]⟩
 ·rename_i e h1 h2
  split at h
  ·rename_i h3
   split at h
   ·rename_i xs hxs
    replace h:=fU h;obtain⟨hb,h⟩:=h;have hke:=hb;have e1:=hT.slice hk.1 h1;have e2:=hT.str hk.2 h2;have e3:=hT.int hke h3;obtain⟨a,cp,zs,rfl,hL,hsrc⟩:=Y0 hok hxs hx;refine⟨_,.string ⟨(ofBytes xs).toArray⟩,h,by simp only[bJ];exact VD.str_mk,fun w' hw=> ?_⟩;have hz:=Ht xs zs hL;cases hxe:xs with
    |nil=>
     subst hxe;rcases a with _|ad
     ·simp only[convert,run_underlying e1,run_underlying e2,run_underlying e3,Sem.run_bind,Result.andThen_ok,Conv.bytesToString,Sem.run_pure];rfl
     ·rw[run_convert_bytes_string w' s d e _ _ _ e1 e3 e2,run_bytesToString (P:=P) w' ad _ cp [] (by rfl)];rfl
    |cons x0 rest=>
     have hne:zs≠[]:=by rw[hz,hxe];simp
     obtain⟨b,off,rfl,hb2,hc⟩:=hsrc.resolve_left hne;have hc':=hw.cells hb2 hc;have hld:(loadCells ⟨b,off,none⟩ zs.length).run P w'=.ok zs.toArray w':=run_loadCells_list (P:=P) w' _ zs fun j v hj=>by
      obtain⟨hj1,hj2⟩:=List.getElem?_eq_some_iff.1 hj;rw[jU,hc' j hj1,hj2]
     have hzl:zs.length=xs.length:=by rw[hz];simp
     rw[<-hxe,run_convert_bytes_string w' s d e _ _ _ e1 e3 e2,run_bytesToString (P:=P) w' ⟨b,off,none⟩ xs.length cp xs (by simp_all)];have:=KN xs [];simp only[aH]at this;rw[<-this];rfl
   ·cases h
  ·cases h
 ·cases h
theorem Gy {α β:Type} (f:α->Sem β) (g:α->β) (w:World): ∀(l:List α),(∀x∈l,(f x).run P w=.ok (g x) w)->(l.mapM f).run P w=.ok (l.map g) w
 |[],_=>rfl
 |x::l,h=>by
  simp only[List.mapM_cons,Sem.run_bind,h x (by simp),Result.andThen_ok,Gy f g w l (fun y hy=>h y (by simp[hy])),Sem.run_pure,ax]
theorem YS {α β:Type} (f:α->Sem β) (g:α->β) (w:World) (l:Array α) (h: ∀x∈l.toList,(f x).run P w=.ok (g x) w):(l.mapM f).run P w=.ok (l.map g) w:=by
 rw[Array.mapM_eq_mapM_toList,Sem.run_map,Gy f g w l.toList h];simp only[Result.andThen_ok];congr 1
 grind
def Wl (P:Program) (t:TypeId):Nat:=((P.info? t).map (·.size)).getD 0
theorem zY (hT:TOk P T) (hok:c.Ok W0) {cl:Bool} {call:fV R} {o:Oper} {st:St} {a:Act} {K:bG->St->Option R} (hq:iq o.op=true) (hhp:c.hp=st.hp) (hfr:bF c st.fr a.tmps.toList)
  (h:dW T cl call o st K=some r): ∃z u,K z st=some r/\bJ c z u/\ ∀w',FZ c w'->(execOp a.eval o).run P w'=.ok (.value u) w':=by
 have hval: ∀{s:Sem Value} {u:Value} {w':World},s.run P w'=.ok u w'->(do pure (Next.value (<-s)):Sem Next).run P w'=.ok (.value u) w':=fun hs=>by
  simp_all
 obtain⟨dst,op,ty,pos,after,guard⟩:=o;simp only at hq;cases op<;>simp only[iq,jE,ah]at hq
 case move x=>exact⟨_,_,h,dG hfr x,fun w' _=>rfl⟩
 case assign x=>exact⟨_,_,h,dG hfr x,fun w' _=>rfl⟩
 case pick x y z=>
  simp only[dW]at h;have hc:=dG hfr x;split at h
  ·rename_i b hb
   rw[hb]at hc;simp only[bJ]at hc;have hc':=hc.bool_inv;cases b
   ·exact⟨_,_,h,dG hfr z,fun w' _=>by simp[execOp,hc',asBool]⟩
   ·exact⟨_,_,h,dG hfr y,fun w' _=>by simp[execOp,hc',asBool]⟩
  ·cases h
 case build t parts=>
  simp only[dW]at h;cases hk:(T.at t).known
  ·simp_all
  rw[hk]at h;simp only[au,cond_false]at h;split at h
  ·rename_i fs hkk
   split at h
   ·rename_i cs hcs
    obtain⟨fields,hu,hfs⟩:=hT.struct hk hkk;obtain⟨i,z,hi,hsz,hby,hz,hzero,hz1⟩:=hT.info hk;have hz0:bF c (T.at t).zero z.cells.toList:=by grind [sW]
    have hz1: ∀u∈z.cells.toList,u.oneCell'=true:=fun u hu=>List.all_eq_true.1 hz1 u hu;obtain⟨zs',g1,g2,g3⟩:=aal (c:=c) hT (place:=fun k=>(fields.map fun f=>(f.offset,Wl P f.type))[k]?) (fun k off ft hk2 hk3=>by
      rw[<-hfs,List.getElem?_map]at hk2;cases hfl:fields.toList[k]? with
      |none=>simp_all
      |some fl=>
       rw[hfl]at hk2;simp only[Option.map_some,Option.some.injEq,Prod.mk.injEq]at hk2;have:fields[k]? =some fl:=by simpa using hfl
       obtain⟨i',z',hi',hs',_⟩:=hT.info hk3;simp_all [Wl]) _ (parts.toList.map fun p=>(p.1,a.eval p.2)) _ _ _ hcs hz0 hz1 (by simp) (by
      simp only[List.map_map,Function.comp_def];have:=bF.map_eval (c:=c) hfr (parts.toList.map (·.2));simp_all [Function.comp_def])
    have hall:=(hT t hk).2.2.2.2.2.2.1;rw[hu]at hall;simp only[Option.map_some,Option.some.injEq]at hall;refine⟨_,.agg zs'.toArray,h, ?_,fun w' _=>hval ?_⟩
    ·have:=JP (c:=c) hT hk g2 g3;simp_all [TI.isAgg,valOf]
    ·have hm:=YS (P:=P) (fun f:Field=>do pure (f.offset,<-sizeOf f.type)) (fun f=>(f.offset,Wl P f.type)) w' fields (fun f hf=>by
      have:=List.all_eq_true.1 hall f hf;cases hi2:P.info? f.type with
      |none=>simp_all
      |some i2=>simp[sizeOf,typeInfo,hi2,Wl])
     have hzv:(zeroValue t).run P w'=.ok z w':=by simp[zeroValue,typeInfo,hi,hz]
     simp only[Instr.build,Sem.run_bind,hzv,Result.andThen_ok,run_underlying hu,hm];simp_all
   ·cases h
  ·cases h
 case load t x=>
  simp only[dW]at h;rw[<-hhp]at h;obtain⟨z,u,h1,h2,h3⟩:=apY (K:=fun v=>K v st) hT hok h (dG hfr x);exact⟨z,u,h1,h2,fun w' hw=>hval (h3 w' hw)⟩
 case nilCheck x=>
  simp only[dW]at h;have hx:=dG hfr x;split at h
  ·rename_i id off he
   rw[he]at hx;split at h
   ·rename_i bt cs hcs
    have hx':=hx;simp only[bJ]at hx;rw[<-hhp]at hcs;have hv:=hx.2.2 _ _ hcs;exact⟨_,_,h,hx',fun w' _=>by simp[execOp,hv]⟩
   ·cases h
  ·rename_i y e he
   rw[he]at hx;have hx':=hx;simp only[bJ]at hx;obtain⟨b,o,zs,hv,_⟩:=hx;exact⟨_,_,h,hx',fun w' _=>by simp[execOp,hv]⟩
  ·rename_i id ver i off he
   rw[he]at hx;split at h
   ·rename_i e u xs harr
    replace h:=di h;obtain⟨h0,h⟩:=h;have h0:u=ver:=by simpa using h0
    subst h0;have hx':=hx;simp only[bJ]at hx;rw[<-hhp]at harr;obtain⟨g,n,cp,_,hv⟩:=(hx.2.2 _ _ _ harr).2 rfl;exact⟨_,_,h,hx',fun w' _=>by simp[execOp,hv]⟩
   ·cases h
  ·cases h
 case binOp op t x y yt=>
  simp only[dW]at h;rw[<-hhp]at h;obtain⟨z,u,h1,h2,h3⟩:=apX (P:=P) (ox:=x) (oy:=y) (K:=fun v=>K v st) hT hok h (dG hfr x) (dG hfr y);exact⟨z,u,h1,h2,fun w' hw=>hval (h3 w')⟩
 case unOp op t x=>
  simp only[dW]at h;obtain⟨z,u,h1,h2,h3⟩:=aCV (P:=P) (K:=fun v=>K v st) h (dG hfr x);exact⟨z,u,h1,h2,fun w' hw=>hval (h3 w')⟩
 case convert sT dT x=>
  simp only[dW]at h;rw[<-hhp]at h;obtain⟨z,u,h1,h2,h3⟩:=akZ (P:=P) (K:=fun v=>K v st) hT hok h (dG hfr x);exact⟨z,u,h1,h2,fun w' hw=>hval (h3 w' hw)⟩
 case slice t x lo hi mx=>
  simp only[dW]at h;rw[<-hhp]at h;obtain⟨z,u,h1,h2,h3⟩:=ahr (P:=P) (K:=fun v=>K v st) hT hok h (dG hfr x) (lK.map hfr lo) (lK.map hfr hi) (lK.map hfr mx);exact⟨z,u,h1,h2,fun w' hw=>hval (h3 w')⟩
 case fieldAddr t x f=>
  simp only[dW]at h;rw[<-hhp]at h;obtain⟨z,u,h1,h2,h3⟩:=NC (P:=P) (K:=fun v=>K v st) hT h (dG hfr x);exact⟨z,u,h1,h2,fun w' hw=>hval (h3 w')⟩
 case field t x f=>
  simp only[dW]at h;obtain⟨z,u,h1,h2,h3⟩:=ahp (P:=P) (K:=fun v=>K v st) hT h (dG hfr x);exact⟨z,u,h1,h2,fun w' hw=>hval (h3 w')⟩
 case indexAddr t x i=>
  simp only[dW]at h;rw[<-hhp]at h;obtain⟨z,u,h1,h2,h3⟩:=ND (P:=P) (K:=fun v=>K v st) hT hok h (dG hfr x) (dG hfr i);exact⟨z,u,h1,h2,fun w' hw=>hval (h3 w')⟩
 case index t x i=>
  simp only[dW]at h;split at h
  ·rename_i s n hs hn
   replace h:=fU h;obtain⟨h1,h⟩:=h;have hx:=dG hfr x;rw[hs]at hx;obtain⟨h2,h3⟩:=ahq (P:=P) hT hx (dG hfr i) hn h1;exact⟨_,_,h,h2,fun w' hw=>hval (h3 w')⟩
  ·cases h
 case extract x n=>
  simp only[dW]at h;have hx:=dG hfr x;split at h
  ·rename_i l hl
   rw[hl]at hx;split at h
   ·rename_i v hv
    simp only[bJ]at hx;obtain⟨vs,he,hvs⟩:=hx;obtain⟨hn,hv⟩:=List.getElem?_eq_some_iff.1 hv;have hlen:=bF.length _ _ hvs;simp at hlen;have h1:=bF.get _ _ hvs n hn (by simp;omega);rw[hv]at h1;simp only[Array.getElem_toList]at h1;refine⟨_,_,h,h1,fun w' _=>hval ?_⟩;rw[he];have:vs[n]? =some vs[n]:=Array.getElem?_eq_getElem (by omega);simp[Instr.extract,this]
   ·cases h
  ·cases h
 case call cc=>
  obtain⟨callee,args,argTypes⟩:=cc;simp only at hq;have hargs:=bF.map_eval (c:=c) hfr args.toList;split at hq
  all_goals try (cases hq;done)
  ·
   simp only[dW,jV]at h;split at h<;>try (cases h;done)
   ·rename_i x hb hx
    split at h<;>try (cases h;done)
    rename_i t ht
    rw[<-hhp]at h;obtain⟨x0,hx0⟩: ∃x0,args= #[x0]:=by
     obtain⟨l⟩:=args
     match l,hx with
     |[x0],_=>exact⟨x0,rfl⟩
    subst hx0;obtain⟨t0⟩:=argTypes;simp only at ht;subst ht;simp only[ax,aV,List.cons.injEq,and_true]at hx;subst hx;obtain⟨z,u,h1,h2,h3⟩:=q_len (P:=P) (K:=fun v=>K v st) hT hok h (dG hfr x0) (ty:=ty)
    grind [execOp,resolve,invoke,builtin]
   all_goals simp_all
  ·
   simp only[dW,jV]at h;split at h<;>try (cases h;done)
   all_goals try (rename_i hb _;cases hb;done)
   rename_i k n l hb hx
   split at h<;>try (cases h;done)
   rename_i ns hns
   rw[hx]at hargs;obtain⟨al⟩:=args;cases al with
   |nil=>simp_all
   |cons x0 al=>
    simp only[ax,bF]at hargs;have h0:=hargs.1;simp only[bJ]at h0;have h1:=h0.int_inv;have h2:=sS _ _ _ hns hargs.2;exact⟨_,_,h,by simp only[bJ];exact VD.int_mk,fun w' hw=>by simp_all [execOp,resolve,invoke,builtin,Builtin.min_,Rq]⟩
  ·
   simp only[dW,jV]at h;split at h<;>try (cases h;done)
   all_goals try (rename_i hb _;cases hb;done)
   rename_i k n l hb hx
   split at h<;>try (cases h;done)
   rename_i ns hns
   rw[hx]at hargs;obtain⟨al⟩:=args;cases al with
   |nil=>simp_all
   |cons x0 al=>
    simp only[ax,bF]at hargs;have h0:=hargs.1;simp only[bJ]at h0;have h1:=h0.int_inv;have h2:=sS _ _ _ hns hargs.2;exact⟨_,_,h,by simp only[bJ];exact VD.int_mk,fun w' hw=>by simp_all [execOp,resolve,invoke,builtin,Builtin.max_,Ro]⟩
end
end
section
open List renaming map_cons → ax, map_nil → aV
open Nat renaming le_refl → ae, le_trans → aO
open Go.RowKit
structure CJ (W0:World) (c:Cx) (st:St) (c':Cx) (st':St):Prop where
 hp:c'.hp=st'.hp
 nxt:c'.nxt=st'.nxt
 fr:st'.fr=st.fr
 stk:st'.stk=st.stk
 ok:c'.Ok W0
 le:c.Le c'
section
variable {P:Program} {T:TT} {W0:World} {c:Cx} {R:Type} {r:R} {t:TypeId}
theorem CJ.refl (hok:c.Ok W0) {st:St} (h1:c.hp=st.hp) (h2:c.nxt=st.nxt):CJ W0 c st c st:=⟨h1,h2,rfl,rfl,hok,Cx.Le.refl c⟩
theorem CJ.trans {c' c'':Cx} {st st' st'':St} (h:CJ W0 c st c' st') (k:CJ W0 c' st' c'' st''):CJ W0 c st c'' st'':=
 ⟨k.hp,k.nxt,k.fr.trans h.fr,k.stk.trans h.stk,k.ok,h.le.trans k.le⟩
theorem MM {cl:Bool} {dst:Option Nat} {o:dD} {st:St} {K:Nat->St->Option R} (h:alloc cl dst o st K=some r):
  ∃n',dH st.hp (DT cl st dst)=none/\st.nxt<=DT cl st dst/\st.nxt<=n'/\K (DT cl st dst) {st with hp:=(DT cl st dst,o)::st.hp,nxt:=n'}=some r:=by
 unfold alloc at h;split at h
 ·cases h
 ·rename_i h0
  replace h:=di h;obtain⟨h1,h⟩:=h;have h1:st.nxt<=DT cl st dst:=by simpa using h1
  grind
theorem iW {cl:Bool} {dst:Option Nat} {o:dD} {st:St} {K:Nat->St->Option R} (h:alloc cl dst o st K=some r):
  ∃id n',dH st.hp id=none/\st.nxt<=id/\st.nxt<=n'/\K id {st with hp:=(id,o)::st.hp,nxt:=n'}=some r:=
 let⟨n',h1,h2,h3,h4⟩:=MM h
 ⟨_,n',h1,h2,h3,h4⟩
theorem zW {st:St} {id:Nat} (h1:c.hp=st.hp) (h2:c.nxt=st.nxt) (h3:dH st.hp id=none) (h4:st.nxt<=id): ¬c.known id:=by
 rintro (⟨o,ho⟩|h)
 all_goals grind
theorem ny (w:World) (o:Obj):Below w.heap.size w (w.alloc o):=(Below.refl _ _).alloc (ae _) o
theorem JO (hok:c.Ok W0) {st:St} (h1:c.hp=st.hp) (h2:c.nxt=st.nxt) {id n':Nat} (h3:dH st.hp id=none) (h4:st.nxt<=id) (h5:st.nxt<=n') {cs:List bG} {vs:Array Value} (e:TypeId)
  (hv: ∀c',c.Le c'->dH c'.hp id=some (.box e cs)->c'.known id->(c'.mu id).blk=c.w.heap.size->bF c' cs vs.toList) (h6: ∀u∈vs.toList,u.oneCell'=true):
  ∃c',CJ W0 c st c' {st with hp:=(id,.box e cs)::st.hp,nxt:=n'}/\c'.w=c.w.alloc (.cells vs e)/\bJ c' (.ptr id 0) (.pointer (some ⟨c.w.heap.size,0,none⟩)):=by
 have hk:=zW h1 h2 h3 h4;have hb:=ny c.w (.cells vs e);have hl: ∀b,dD.blk (.box e cs) ⟨c.w.heap.size,undef⟩=some b->c.w.heap.size<=b:=fun b hb=>by
  simp_all [dD.blk]
 have hle:=Cx.Le.push (o:=.box e cs) (l:=⟨c.w.heap.size,undef⟩) (nxt:=n') (w:=c.w.alloc (.cells vs e)) hk (by omega) hb.size hb.block hl;have hget':dH (c.push id (.box e cs) ⟨c.w.heap.size,undef⟩ n' (c.w.alloc (.cells vs e))).hp id=some (.box e cs):=by simp[Cx.push,dV]
 have ho:(c.push id (.box e cs) ⟨c.w.heap.size,undef⟩ n' (c.w.alloc (.cells vs e))).ORel W0.heap.size id (.box e cs):=by
  refine⟨by simp[Cx.push,upd_same];exact hok.size,vs, ?_,hv _ hle hget' (.inl ⟨_,hget'⟩) (by simp[Cx.push,upd_same]),h6⟩;simp only[Cx.push,upd_same];exact heap_alloc_new c.w _
 refine⟨_,⟨?_,rfl,rfl,rfl,hok.push hk (by omega) hb hl ho,hle⟩,rfl, ?_⟩
 ·simp[Cx.push,h1]
 ·simp only[bJ];refine⟨rfl,.inl ⟨.box e cs,by assumption⟩,fun t' cs' _=>by simp[Cx.push,upd_same]⟩
theorem Xv (hok:c.Ok W0) {st:St} (h1:c.hp=st.hp) (h2:c.nxt=st.nxt) {id n':Nat} (h3:dH st.hp id=none) (h4:st.nxt<=id) (h5:st.nxt<=n') {cs:List bG} {vs:Array Value} (hv:bF c cs vs.toList)
  (h6: ∀u∈vs.toList,u.oneCell'=true) (e:TypeId):
  ∃c',CJ W0 c st c' {st with hp:=(id,.box e cs)::st.hp,nxt:=n'}/\c'.w=c.w.alloc (.cells vs e)/\bJ c' (.ptr id 0) (.pointer (some ⟨c.w.heap.size,0,none⟩)):=
 JO hok h1 h2 h3 h4 h5 e (fun c' hle _ _ _=>bF.le hle _ _ hv) h6
theorem qy (hok:c.Ok W0) {st:St} (h1:c.hp=st.hp) (h2:c.nxt=st.nxt) {id n':Nat} (h3:dH st.hp id=none) (h4:st.nxt<=id) (h5:st.nxt<=n') {y:Ty} (hpos:0<y.size) {xs:List y.den} {v:Value} {w:World}
  (hw:Below c.w.heap.size c.w w) (e:TypeId) (zs:List Value) (hown:w.ownsRow c.w.heap.size e y.size v xs.length zs) (hL:fQ (eY c.w c.free y) y.size xs zs) (hone:v.oneCell'=true) (hty:y=.int .u8->e=oD):
  ∃c',CJ W0 c st c' {st with hp:=(id,.arr y 0 xs)::st.hp,nxt:=n'}/\c'.w=w/\bJ c' (.slc id 0 none) v:=by
 have hk:=zW h1 h2 h3 h4;have hl: ∀b,dD.blk (.arr y 0 xs) ⟨0,v⟩=some b->c.w.heap.size<=b:=fun b hb=>(World.ownsRow.lt hown b hb).1;have hle:=Cx.Le.push (o:=.arr y 0 xs) (l:=⟨0,v⟩) (nxt:=n') (w:=w) hk (by omega) hw.size hw.block hl;have hown':w.ownsRow W0.heap.size e y.size v xs.length zs:=by
  refine⟨hown.1, ?_⟩;rcases hown.2 with h|⟨g,cap,cur,e1,e2,e3⟩
  ·exact .inl h
  ·exact .inr ⟨g,cap,cur,e1,aO hok.size e2,e3⟩
 have ho:(c.push id (.arr y 0 xs) ⟨0,v⟩ n' w).ORel W0.heap.size id (.arr y 0 xs):=by
  refine⟨hpos,e,zs, ?_,fQ.mono (eY.mono hle.free y) _ _ hL,hty⟩;simp_all [Cx.push,upd_same]
 refine⟨_,⟨?_,rfl,rfl,rfl,hok.push hk (by omega) hw hl ho,hle⟩,rfl, ?_⟩
 ·simp[Cx.push,h1]
 ·simp only[bJ];refine⟨hone,.inl ⟨.arr y 0 xs,by simp[Cx.push,dV]⟩,fun t u xs' h=> ?_⟩;simp_all [Cx.push,iT,upd_same]
def GU (P:Program) (W0:World) (c:Cx) (st:St) (o:Oper) (a:Act) (K:bG->St->Option R) (r:R):Prop:=
 ∃z u c' st',K z st'=some r/\CJ W0 c st c' st'/\bJ c' z u/\((execOp a.eval o).run P c.w=.ok (.value u) c'.w\/((execOp a.eval o).run P c.w=.ok .skip c'.w/\u=undef))
theorem qx {st:St} {o:Oper} {a:Act} {K:bG->St->Option R} {s:Sem Value} {z:bG} {u:Value} {c':Cx} {st':St} (hs:execOp a.eval o=(do pure (Next.value (<-s)))) (h1:K z st'=some r) (h2:CJ W0 c st c' st') (h3:bJ c' z u)
  (h4:s.run P c.w=.ok u c'.w):GU P W0 c st o a K r:=⟨z,u,c',st',h1,h2,h3,.inl (by simp_all)⟩
theorem at6 (hT:TOk P T) (hok:c.Ok W0) {cl:Bool} {call:fV R} {o:Oper} {st:St} {a:Act} {K:bG->St->Option R} (hhp:c.hp=st.hp) (hnx:c.nxt=st.nxt) (ho:o.op=.alloc t)
  (h:dW T cl call o st K=some r):GU P W0 c st o a K r:=by
 obtain⟨dst,op,ty,pos,after,guard⟩:=o;simp only at ho;subst ho;simp only[dW]at h;replace h:=di h;obtain⟨hk,h⟩:=h;obtain⟨i,z,hi,hsz,hby,hz,hzero,hz1⟩:=hT.info hk;have hz1: ∀u∈z.cells.toList,u.oneCell'=true:=fun u hu=>List.all_eq_true.1 hz1 u hu;have hrun:(Instr.alloc t true (.tuple #[])).run P c.w=.ok (.pointer (some ⟨c.w.heap.size,0,none⟩)) (c.w.alloc (.cells z.cells t)):=by
  simp[Instr.alloc,zeroValue,typeInfo,hi,hz,newVar,newRow]
 have plain:(alloc cl dst (.box t (T.at t).zero) st fun id st=>K (.ptr id 0) st)=some r->GU P W0 c st ⟨dst,.alloc t,ty,pos,after,guard⟩ a K r:=fun h=>by
  obtain⟨id,n',e1,e2,e3,e4⟩:=iW h;obtain⟨c',d1,d2,d3⟩:=Xv hok hhp hnx e1 e2 e3 (cs:=(T.at t).zero) (vs:=z.cells) (by grind [sW]) hz1 t;exact qx rfl e4 d1 d3 (by rw[d2];exact hrun)
 split at h
 ·rename_i et hkk hzz
  split at h
  ·rename_i y hy
   replace h:=di h;obtain⟨hpos,h⟩:=h;have hpos:0<y.size:=by simpa [NZ] using hpos
   obtain⟨i1,n1,e1,e2,e3,e4⟩:=iW h;have hzc:z.cells.toList=[.slice none 0 0]:=by
    rw[hzz]at hzero
    match hq:z.cells.toList,hzero with
    |[v],hv=>
     simp only[ax,aV,List.cons.injEq,and_true]at hv;unfold wz at hv
     grind
    |[],hv=>simp at hv
    |_::_::_,hv=>simp at hv
   obtain⟨c1,d1,d2,d3⟩:=qy hok hhp hnx e1 e2 e3 hpos (xs:=[]) (Below.refl _ _) (if y=.int .u8 then oD else et) [] (World.ownsRow_nil _ _ _ _) (by simp[fQ]) (v:=.slice none 0 0) rfl (fun h=>by simp[h]);obtain⟨id,n',f1,f2,f3,f4⟩:=iW e4;obtain⟨c2,g1,g2,g3⟩:=Xv d1.ok d1.hp d1.nxt f1 f2 f3 (cs:=[.slc i1 0 none]) (vs:=z.cells) (by simp_all [bF]) hz1 t;rw[d2]at g3;refine qx rfl f4 (d1.trans g1) g3 ?_;simp_all
  ·exact plain h
 ·rename_i fs hkk hzz
  rw[cond_eq_ite]at h;split at h
  ·obtain⟨i1,n1,e1,e2,e3,e4⟩:=iW h;have hzc:z.cells.toList=[.pointer none,.slice none 0 0]:=by
    rw[hzz]at hzero
    match hq:z.cells.toList,hzero with
    |[v,v'],hv=>
     simp only[ax,aV,List.cons.injEq,and_true]at hv;obtain⟨hv1,hv2⟩:=hv;have q1:v=.pointer none:=by
      unfold wz at hv1
      grind
     have q2:v'=.slice none 0 0:=by
      unfold wz at hv2
      grind
     rw[q1,q2]
    |[],hv=>simp at hv
    |[_],hv=>simp at hv
    |_::_::_::_,hv=>simp at hv
   obtain⟨c1,d1,d2,d3⟩:=qy hok hhp hnx e1 e2 e3 (y:=.int .u8) (by simp[Ty.size]) (xs:=[]) (Below.refl _ _) oD [] (World.ownsRow_nil _ _ _ _) (by simp[fQ]) (v:=.slice none 0 0) rfl (fun _=>rfl);obtain⟨n',f1,f2,f3,f4⟩:=MM e4;obtain⟨c2,g1,g2,g3⟩:=JO d1.ok d1.hp d1.nxt f1 f2 f3 (cs:=[.slf _,.slc i1 0 none]) (vs:=z.cells) t (fun c' hle hg hkn hblk=>by
    rw[hzc];simp only[bF,bJ];refine⟨⟨rfl,hkn,fun _ _ _=>.inl trivial⟩, ?_,trivial⟩;have:=bJ.le hle _ _ d3
    assumption) hz1
   rw[d2]at g3;refine qx rfl f4 (d1.trans g1) g3 ?_;simp_all
  ·exact plain h
 ·exact plain h
theorem aCo (hT:TOk P T) (hok:c.Ok W0) {cl:Bool} {call:fV R} {o:Oper} {st:St} {a:Act} {K:bG->St->Option R} {x:Operand} (hhp:c.hp=st.hp) (hnx:c.nxt=st.nxt) (hfr:bF c st.fr a.tmps.toList) (ho:o.op=.box t x)
  (h:dW T cl call o st K=some r):GU P W0 c st o a K r:=by
 obtain⟨dst,op,ty,pos,after,guard⟩:=o;simp only at ho;subst ho;simp only[dW]at h;split at h
 ·rename_i vs hvs
  replace h:=di h;obtain⟨hk,h⟩:=h;obtain⟨id,n',e1,e2,e3,e4⟩:=iW h;obtain⟨r1,r2⟩:=KA hvs (dG hfr x);obtain⟨c',d1,d2,d3⟩:=Xv hok hhp hnx e1 e2 e3 r1 r2 t;refine qx rfl e4 d1 d3 ?_;rw[d2];rfl
 ·cases h
theorem axm {hp:gz} {y:Ty} {v:bG} {x:y.den} (h:v.as [] y=some x) {u:Value} (hv:bJ c v u):eY c.w c.free y x u.cells.toList:=by
 cases v with
 |val t' z=>
  simp only[bG.as]at h;have e:=iF h;subst e;rw[gp]at h;cases h;simp only[bJ]at hv;exact hv.cells
 |nils=>
  simp only[bJ]at hv;subst hv;cases y<;>simp only[bG.as,reduceCtorEq]at h;cases h;exact⟨none,0,[],rfl,by simp,rfl,.inl rfl⟩
 |lst t' z b=>
  simp only[bG.as]at h;have e:=iF h;subst e;rw[gp]at h;cases h;simp only[bJ]at hv;exact hv.1.cells
 |emp=>
  simp only[bJ]at hv;obtain⟨a,rfl⟩:=hv;cases y<;>simp only[bG.as,reduceCtorEq]at h;cases h;exact⟨a,0,[],rfl,by simp,rfl,.inl rfl⟩
 |slc id ver vw=>cases y<;>simp_all [bG.as,AP,dH]
 |agg l=>
  simp only[bG.as]at h;replace h:=di h;simp only[bJ]at hv;obtain⟨vs,rfl,h2,_⟩:=hv;exact nS h.2 h2
 |_=>simp[bG.as]at h
theorem fQ.replicate {α:Type} {Q:α->List Value->Prop} {size:Nat} {x:α} {d:List Value} (hd:d.length=size) (hx:Q x d): ∀n,fQ Q size (List.replicate n x) (List.replicate n d).flatten
 |0=>by simp[fQ]
 |n+1=>⟨d,(List.replicate n d).flatten,by rfl,hd,hx,fQ.replicate hd hx n⟩
theorem DL (d:Array Value): ∀n,(madeCells d (n*d.size)).toList=(List.replicate n d.toList).flatten:=by
 intro n;by_cases h0:d.size=0
 ·simp_all [madeCells]
 apply List.ext_getElem?;intro j;have hlen:(List.replicate n d.toList).flatten.length=n*d.size:=by simp
 by_cases hj:j<n*d.size
 ·have key: ∀n j,j<n*d.size->(List.replicate n d.toList).flatten[j]? =d.toList[j %d.size]? :=by
   intro n
   induction n with
   |zero=>omega
   |succ n ih=>
    intro j hj;rw[List.replicate_succ,List.flatten_cons]
    grind [Nat.mod_eq_of_lt,List.getElem?_append_right,Nat.mod_eq_sub_mod]
  grind [madeCells]
 simp_all [madeCells]
theorem Vj {e:Ty} (place:Nat->Option (Nat×Nat)) (hpl: ∀i,place i=some (i*e.size,e.size)): ∀(parts:List (Nat×bG)) (us:List (Nat×Value)) (xs xs':List e.den) (zs:List Value),I7 e xs parts=some xs'->fQ (eY c.w c.free e) e.size xs zs->
   us.map (·.1)=parts.map (·.1)->bF c (parts.map (·.2)) (us.map (·.2))-> ∃zs',Instr.fill place zs.toArray us=some zs'.toArray/\fQ (eY c.w c.free e) e.size xs' zs'/\xs'.length=xs.length
 |[],us,xs,xs',zs,h,hL,hu,_=>by
  simp only[I7,Option.some.injEq]at h;subst h;cases us with
  |nil=>exact⟨zs,rfl,hL,rfl⟩
  |cons=>simp at hu
 |(i,v)::parts,us,xs,xs',zs,h,hL,hu,hvs=>by
  cases us with
  |nil=>simp at hu
  |cons u us=>
   obtain⟨i',u⟩:=u;simp only[ax,List.cons.injEq]at hu;obtain⟨rfl,hu⟩:=hu;simp only[ax,bF]at hvs;simp only[I7]at h;split at h
   ·rename_i x hx
    replace h:=di h;obtain⟨hi,h⟩:=h;have hi:i'<xs.length:=by simpa [NZ] using hi
    have hd:=axm (hp:=[]) hx hvs.1;have hdl:=eY.length _ _ _ hd;obtain⟨c0,c1,c2,l1,l2,c3,c4⟩:=fQ.at_ i' xs zs hi hL;subst c3;have hL2:=fQ.set x u.cells.toList hdl hd i' xs l1 c0 l2 hi hL c4 c1;obtain⟨zs',g1,g2,g3⟩:=Vj place hpl parts us _ xs' _ h hL2 hu hvs.2;refine⟨zs', ?_,g2,by rw[g3];simp⟩;rw[<-g1];simp only[Instr.fill,hpl];have hus:u.cells.size=e.size:=by simpa using hdl
    rw[if_neg (by simp_all)];congr 1;have:=Jj (i'*e.size) u.cells (l1++c0++l2) (by simp;omega)
    grind
   ·cases h
end
end
section
open Bool renaming and_eq_true → af
open Nat renaming le_refl → ae, le_mul_of_pos_right → bn
open Go.RowKit
section
variable {P:Program} {T:TT} {W0:World} {c:Cx} {R:Type} {r:R} {t:TypeId}
theorem pO (hT:TOk P T) {n:Nat} {et:TypeId} (hkk:(T.at t).k=.slice et) (h:T.rowOf t n=true):P.underlying t=some (.slice et)/\(T.at et).known=true/\(T.at et).size=n/\0<n/\0<(T.at et).bytes:=by
 grind [lM]
theorem VT (hT:TOk P T) {et:TypeId} (hk:(T.at et).known=true) {e:Ty} {d:e.den} (hd:Gt e (T.at et).zero=some d):
  ∃i z,P.info? et=some i/\i.zero=some z/\i.size=(T.at et).size/\i.bytes=(T.at et).bytes/\eY c.w c.free e d z.cells.toList:=by
 obtain⟨i,z,hi,hsz,hby,hz,hzero,hz1⟩:=hT.info hk
 grind [nS,sW]
theorem ab8 (w:World) (zs:List Value) (e:TypeId) (size n:Nat) (hl:zs.length=n*size) (hn:n<=maxLen):
  (w.alloc (.cells zs.toArray e)).ownsRow w.heap.size e size (.slice (some ⟨w.heap.size,0,none⟩) n n) n zs:=
 ⟨hl,.inr ⟨w.heap.size,n,zs.toArray,rfl,ae _,heap_alloc_new w _,ae _,hn,by simpa using hl,by simp[<-hl]⟩⟩
theorem Xn (hT:TOk P T) (hok:c.Ok W0) {cl:Bool} {call:fV R} {o:Oper} {st:St} {a:Act} {K:bG->St->Option R} {n:Nat} {parts:Array (Nat×Operand)} (hhp:c.hp=st.hp) (hnx:c.nxt=st.nxt) (hfr:bF c st.fr a.tmps.toList)
  (ho:o.op=.buildSlice t n parts) (h:dW T cl call o st K=some r):GU P W0 c st o a K r:=by
 obtain⟨dst,op,ty,pos,after,guard⟩:=o;simp only at ho;subst ho;simp only[dW]at h;split at h
 ·rename_i et hkk
  split at h
  ·rename_i e he
   split at h
   ·rename_i d hd
    replace h:=di h;obtain⟨hrow,h⟩:=h;simp only[af,leN,decide_eq_true_eq]at hrow;obtain⟨hu,hk,hsz,hpos,_⟩:=pO hT hkk hrow.1;split at h
    ·rename_i xs hxs
     obtain⟨id,n',e1,e2,e3,e4⟩:=iW h;obtain⟨i,z,hi,hz,his,_,hzd⟩:=VT (c:=c) hT hk hd;have hzl:=eY.length _ _ _ hzd;have hzs:z.cells.size=e.size:=by simpa using hzl
     have hL0:=fQ.replicate (Q:=eY c.w c.free e) hzl hzd n;obtain⟨zs',g1,g2,g3⟩:=Vj (c:=c) (fun i=>some (i*e.size,e.size)) (fun _=>rfl) _ (parts.toList.map fun p=>(p.1,a.eval p.2)) _ _ _ hxs hL0 (by simp) (by
      simp only[List.map_map,Function.comp_def];have:=bF.map_eval (c:=c) hfr (parts.toList.map (·.2));simp_all [Function.comp_def])
     have hxl:xs.length=n:=by rw[g3];simp
     have hzl':=fQ.length _ _ g2;rw[hxl]at hzl';have hn1:n<=n*e.size:=bn n hpos;have hown:=ab8 c.w zs' et e.size n hzl' (by simp only[maxLen];omega);rw[<-hxl]at hown;obtain⟨c',d1,d2,d3⟩:=qy hok hhp hnx e1 e2 e3 hpos (ny c.w (.cells zs'.toArray et)) et zs' hown g2 rfl (fun h=>hT.byte hk (by rw[he,h]));refine qx rfl e4 d1 d3 ?_;rw[d2];have hsize:(sizeOf et).run P c.w=.ok e.size c.w:=by rw[hT.sizeOf hk,hsz]
     have hzv:(zeroValue et).run P c.w=.ok z c.w:=by simp[zeroValue,typeInfo,hi,hz]
     have hsmall:n*e.size<=2^24:=by omega
     have hfill:Instr.fill (fun i=>some (i*e.size,e.size)) ((Array.range (n*e.size)).map (z.cells[· %z.cells.size]!)) (Array.map (fun p=>(p.1,a.eval p.2)) parts).toList=some zs'.toArray:=by
      rw[<-g1];have:=DL z.cells n;rw[hzs]at this;have h3:(Array.range (n*e.size)).map (z.cells[· %z.cells.size]!)=(List.replicate n z.cells.toList).flatten.toArray:=by
       apply Array.ext';rw[<-this];rfl
      rw[h3];simp
     by_cases h0:n*e.size=0
     ·have hn0:n=0:=by
       omega
      subst hn0;simp only[Instr.buildSlice,Sem.run_bind,run_underlying hu,Result.andThen_ok,hsize,Sem.run_ite,Nat.zero_mul,if_true,Sem.run_pure];simp only[Nat.zero_mul]at hfill;rw[if_neg (by omega)];have hfill':Instr.fill (fun i=>some (i*e.size,e.size)) ((Array.range 0).map ((#[]:Array Value)[· %(#[]:Array Value).size]!)) (Array.map (fun p=>(p.1,a.eval p.2)) parts).toList=some zs'.toArray:=by
       grind
      simp_all [newRow]
     ·simp only[Instr.buildSlice,Sem.run_bind,run_underlying hu,Result.andThen_ok,hsize,Sem.run_ite];simp_all [newRow]
    ·cases h
   ·cases h
  ·cases h
 ·cases h
theorem aby (hT:TOk P T) (hok:c.Ok W0) {cl:Bool} {call:fV R} {o:Oper} {st:St} {a:Act} {K:bG->St->Option R} {l cp:Operand} (hhp:c.hp=st.hp) (hnx:c.nxt=st.nxt) (hfr:bF c st.fr a.tmps.toList)
  (ho:o.op=.makeSlice t l cp) (h:dW T cl call o st K=some r):GU P W0 c st o a K r:=by
 obtain⟨dst,op,ty,pos,after,guard⟩:=o;simp only at ho;subst ho;simp only[dW]at h;split at h
 ·rename_i et hkk
  split at h
  ·rename_i e ln cn he hl hc
   split at h
   ·rename_i d hd
    replace h:=fU h;obtain⟨hb,h⟩:=h;simp only[af,decide_eq_true_eq]at hb;obtain⟨hrow,b1,b2,b3⟩:=hb;obtain⟨hu,hk,hsz,hpos,hbp⟩:=pO hT hkk hrow;obtain⟨id,n',e1,e2,e3,e4⟩:=iW h;obtain⟨i,z,hi,hz,his,hib,hzd⟩:=VT (c:=c) hT hk hd;have hzl:=eY.length _ _ _ hzd;have hzs:z.cells.size=e.size:=by simpa using hzl
    have hL0:=fQ.replicate (Q:=eY c.w c.free e) hzl hzd ln.toNat;obtain⟨k,r1⟩:=qV hl (dG hfr l);obtain⟨k',r2⟩:=qV hc (dG hfr cp);have hcn:cn.toNat<=cn.toNat*(T.at et).bytes:=bn _ hbp;have hcl:cn.toNat<=140737488355328:=by grind [ni]
    have hcap:cn<=9223372036854775807:=by omega
    have hcb:(i.bytes:Int)*cn<=281474976710656:=by
     grind [ni]
    have hrun:=run_make (P:=P) c.w t et i z hu hi hz k k' ln cn b1 b2 hcb hcap;have hmade:=DL z.cells cn.toNat;rw[hzs]at hmade;have hflen:((List.replicate cn.toNat z.cells.toList).flatten).length=cn.toNat*e.size:=by simp[hzs]
    have hown:(c.w.alloc (.cells (madeCells z.cells (cn.toNat*i.size)) et)).ownsRow c.w.heap.size et e.size (.slice (some ⟨c.w.heap.size,0,none⟩) ln.toNat cn.toNat) (List.replicate ln.toNat d).length (List.replicate ln.toNat z.cells.toList).flatten:=by
     refine⟨by simp[hzs],.inr ⟨c.w.heap.size,cn.toNat,madeCells z.cells (cn.toNat*i.size),by simp,ae _,heap_alloc_new _ _,by simp;omega,by simp only[maxLen];omega, ?_, ?_⟩⟩
     ·grind
     ·rw[his,hsz,hmade];have:cn.toNat=ln.toNat+(cn.toNat-ln.toNat):=by omega
      rw[this,<-List.replicate_append_replicate,List.flatten_append];rw[List.take_append];simp[hzs];rw[List.take_of_length_le (by simp[hzs])]
    obtain⟨c',d1,d2,d3⟩:=qy hok hhp hnx e1 e2 e3 hpos (ny c.w _) et _ hown hL0 rfl (fun h=>hT.byte hk (by rw[he,h]));refine qx rfl e4 d1 d3 ?_;simp_all
   ·cases h
  ·cases h
 ·cases h
end
end
section
open List renaming length_append → ag, nil_append → aH, eq_nil_of_length_eq_zero → bg
open Nat renaming le_refl → ae
open Go.RowKit
section
variable {P:Program} {T:TT} {W0:World} {c:Cx} {R:Type} {r:R} {t:TypeId}
theorem XE {w:World} {B:Nat} {e:TypeId} {size n cap g:Nat} {zs:List Value} (h:w.ownsRow B e size (.slice (some ⟨g,0,none⟩) n cap) n zs) {k:Nat} (hk:k<=n):
  w.ownsRow B e size (.slice (some ⟨g,0,none⟩) k cap) k (zs.take (k*size)):=by
 have hl:=h.1;have hm:=Nat.mul_le_mul_right size hk;refine⟨by simp;omega,.inr ?_⟩;rcases h.2 with ⟨e1,_⟩|⟨g',cap',cur,e1,e2,e3,e4,e5,e6,e7⟩
 ·cases e1
 ·cases e1;refine⟨g,cap,cur,rfl,e2,e3,by omega,e5,e6, ?_⟩
  grind
theorem O7 (hT:TOk P T) {et:TypeId} (hu:P.underlying t=some (.slice et)) {w:World} {B:Nat} {i:TypeInfo} {z:Value} {size bytes:Nat} (hi:P.info? et=some i) (hz:i.zero=some z) (hsize:i.size=size) (hby:i.bytes=bytes)
  (hzs:z.cells.size=size) (hsz:0<size) {e0:TypeId} {v:Value} {n:Nat} {zs:List Value} (hown:w.ownsRow B e0 size v n zs) {a:Option Addr} {m cp:Nat} {news:List Value} (hl:news.length=m*size) (h1: ∀u∈news,u.oneCell'=true)
  (hnews:news=[]\/ ∃b off,a=some ⟨b,off,none⟩/\gV w b off news) (h63:n+m<=maxLen) (hbytes:(n+m)*bytes<=140737488355328) (hB:B<=w.heap.size) (ty:TypeId):
  ∃v' w' e1,(Builtin.append_ #[t,t] ty #[v,.slice a m cp]).run P w=.ok v' w'/\w'.ownsRow B e1 size v' (n+m) (zs++news)/\w.grownBy w' v.ownBlock/\(v'.ownBlock=v.ownBlock\/v'.ownBlock=some w.heap.size)/\v'.oneCell'=true/\(e1=e0\/e1=et):=by
 by_cases hm:m=0
 ·subst hm;have hn:news=[]:=bg (by simpa using hl);subst hn;obtain⟨av,cv,hv,hcv,_⟩:=qK hown;refine⟨v,w,e0, ?_,by simpa using hown,⟨rfl,rfl,rfl,ae _,fun _ _ _=>rfl⟩,.inl rfl,by rw[hv];rfl,.inl rfl⟩;rw[hv];cases a<;>cases av<;>simp[Builtin.append_,run_underlying hu,sizeOf,typeInfo,hi,Builtin.lenOf,Builtin.firstCells,loadCells,loadCellsFrom,hcv,storeCells]
 ·have hne:news≠[]:=by
   intro h0;rw[h0]at hl;have:=Nat.mul_pos (Nat.pos_of_ne_zero hm) hsz;simp at hl;omega
  obtain⟨b,off,rfl,hc⟩:=hnews.resolve_left hne;have hcells: ∀j u,news[j]? =some u->w.cell? ((⟨b,off,none⟩:Addr).add j)=some u:=fun j u hj=>by
   obtain⟨hj1,hj2⟩:=List.getElem?_eq_some_iff.1 hj;rw[jU,hc j hj1,hj2]
  subst hsize;subst hby;by_cases he:e0=et
  ·subst he;obtain⟨v',w',e1,e2,e3,_,e5⟩:=run_append_own_at (P:=P) w B t ty e0 i z i.size i.bytes hu hi hz rfl rfl hzs hsz v n zs hown ⟨b,off,none⟩ m cp news hl hcells h1 h63 hbytes hB;obtain⟨av,cv,hv,_⟩:=qK e2;exact⟨v',w',e0,e1,e2,e3,e5,by rw[hv];rfl,.inl rfl⟩
  ·
   rcases hown.2 with ⟨rfl,rfl⟩|⟨g,cap,cur,rfl,hbg,hg,hnc,hcm,hcs,htake⟩
   ·have hx:zs=[]:=bg (by simpa using hown.1);subst hx;obtain⟨v',w',e1,e2,e3,_,e5⟩:=run_append_own_at (P:=P) w B t ty et i z i.size i.bytes hu hi hz rfl rfl hzs hsz (.slice none 0 0) 0 [] (World.ownsRow_nil _ _ _ _) ⟨b,off,none⟩ m cp news hl hcells h1 h63 hbytes hB;obtain⟨av,cv,hv,_⟩:=qK e2;exact⟨v',w',et,e1,e2,e3,e5,by rw[hv];rfl,.inr rfl⟩
   ·by_cases hroom:n+m<=cap
    ·have hfit:n*i.size+news.length<=cur.size:=by rw[hl,hcs,<-Nat.add_mul];exact Nat.mul_le_mul_right _ hroom
     have hf:=run_firstCells_some (P:=P) w i.size m ⟨b,off,none⟩ m cp news hl hcells;have hst:=run_storeCells_at P g (n*i.size) e0 news 0 cur w hg (by simpa using hfit) h1;simp only[Nat.add_zero]at hst;have hr:(Builtin.append_ #[t,t] ty #[.slice (some ⟨g,0,none⟩) n cap,.slice (some ⟨b,off,none⟩) m cp]).run P w=
       .ok (.slice (some ⟨g,0,none⟩) (n+m) cap) (w.setRow g (cur.toList.take (n*i.size)++news++cur.toList.drop (n*i.size+news.length)).toArray):=by
      simp[Builtin.append_,run_underlying hu,sizeOf,typeInfo,hi,Builtin.lenOf,hroom,hf,Addr.add_lit,hst]
     have hlen:(zs++news).length=(n+m)*i.size:=by grind
     refine⟨_,_,e0,hr,⟨hlen,.inr ⟨g,cap,_,rfl,hbg,setRow_heap w g cur _ e0 _ hg,hroom,hcm, ?_, ?_⟩⟩,⟨rfl,rfl,rfl,by simp,fun k _ hk=>setRow_other w g k _ (fun e=>hk (by simp[Value.ownBlock,e]))⟩,Or.inl rfl,rfl,.inl rfl⟩
     all_goals grind
    ·have holds: ∀j u,zs[j]? =some u->w.cell? ((⟨g,0,none⟩:Addr).add j)=some u:=hown.cells (g:=g) rfl;have hr:=run_append_grow (P:=P) w t ty et i z hu hi hz ⟨g,0,none⟩ n cap zs hown.1 holds ⟨b,off,none⟩ m cp news hl hcells (by omega) (by grind [maxLen]) (growslice_fits (by omega) hbytes);have hge:=grownCap_ge w (n+m) cap et;have hcm':grownCap w (n+m) cap et<=maxLen:=grownCap_le_maxLen w (n+m) cap et h63;have hlen:(zs++news).length=(n+m)*i.size:=by rw[ag,hown.1,hl,Nat.add_mul]
     refine⟨_,_,et,hr,⟨hlen,.inr ⟨w.heap.size,_,_,rfl,hB,heap_alloc_new w.drew _,hge,hcm', ?_, ?_⟩⟩,⟨rfl,rfl,rfl,by simp,fun k hk _=>Below.heap_alloc w.drew _ k hk⟩,Or.inr rfl,rfl,.inr rfl⟩
     ·simp only[Array.size_append,List.size_toArray,size_zeroCells,hzs,hown.1,hl,<-Nat.add_mul];simp_all
     grind
theorem adb (hT:TOk P T) {et:TypeId} (hu:P.underlying t=some (.slice et)) {w:World} {i:TypeInfo} {z:Value} {size bytes:Nat} (hi:P.info? et=some i) (hz:i.zero=some z) (hsize:i.size=size) (hby:i.bytes=bytes)
  (hzs:z.cells.size=size) (hsz:0<size) {av:Option Addr} {b off m cp:Nat} {news:List Value} (hl:news.length=m*size) (h1: ∀u∈news,u.oneCell'=true)
  (hc:gV w b off news) (hm:0<m) (h63:m<=maxLen) (hbytes:m*bytes<=140737488355328) (ty:TypeId):
  ∃v' w' e1,(Builtin.append_ #[t,t] ty #[.slice av 0 0,.slice (some ⟨b,off,none⟩) m cp]).run P w=.ok v' w'/\w'.ownsRow w.heap.size e1 size v' m news/\Below w.heap.size w w'/\v'.oneCell'=true/\e1=et:=by
 have hcells: ∀j u,news[j]? =some u->w.cell? ((⟨b,off,none⟩:Addr).add j)=some u:=fun j u hj=>by
  obtain⟨hj1,hj2⟩:=List.getElem?_eq_some_iff.1 hj;rw[jU,hc j hj1,hj2]
 subst hsize;subst hby;cases av with
 |none=>
  obtain⟨v',w',e1,e2,e3,_,e5⟩:=run_append_own_at (P:=P) w w.heap.size t ty et i z i.size i.bytes hu hi hz rfl rfl hzs hsz (.slice none 0 0) 0 [] (World.ownsRow_nil _ _ _ _) ⟨b,off,none⟩ m cp news hl hcells h1 (by omega) (by simp_all) (ae _);obtain⟨av,cv,hv,_⟩:=qK e2;rw[Nat.zero_add,aH]at e2;exact⟨v',w',et,e1,e2,⟨e3.os,e3.tape,e3.output,e3.size,fun k hk=>e3.block k hk (by simp[Value.ownBlock])⟩,by rw[hv];rfl,rfl⟩
 |some a0=>
  have hr:=run_append_grow (P:=P) w t ty et i z hu hi hz a0 0 0 [] (by simp) (fun j v h=>by simp at h) ⟨b,off,none⟩ m cp news hl hcells (by omega) (by grind [maxLen]) (growslice_fits (by omega) (by simp_all));have hge:=grownCap_ge w (0+m) 0 et;have hcm':grownCap w (0+m) 0 et<=maxLen:=grownCap_le_maxLen w (0+m) 0 et (by omega);simp only[Nat.zero_add]at hr hge hcm';refine⟨_,_,et,hr, ?_, ?_,rfl,rfl⟩
  ·refine⟨hl,.inr ⟨w.heap.size,_,_,rfl,ae _,heap_alloc_new w.drew _,hge,hcm', ?_, ?_⟩⟩
   ·have:=Nat.add_mul m (grownCap w m 0 et-m) i.size;simp_all [size_zeroCells]
   simp_all
  ·exact⟨rfl,rfl,rfl,by simp,fun k hk=>Below.heap_alloc w.drew _ k hk⟩
theorem O8 {u et:TypeId} (hu:P.underlying t=some (.slice et)) (hus:P.underlying u=some .string) {w:World} {B:Nat} {i:TypeInfo} (hi:P.info? et=some i) (hz:i.zero=some (.int .u8 0)) (hsize:i.size=1) (hby:i.bytes=1)
  {v:Value} {n:Nat} {zs:List Value} (hown:w.ownsRow B et 1 v n zs) (s:ByteArray) (hlen:n+s.size<=140737488355328) (hB:B<=w.heap.size) (ty:TypeId):
  ∃v' w',(Builtin.append_ #[t,u] ty #[v,.string s]).run P w=.ok v' w'/\w'.ownsRow B et 1 v' (n+s.size) (zs++Lib.strCells s)/\w.grownBy w' v.ownBlock/\(v'.ownBlock=v.ownBlock\/v'.ownBlock=some w.heap.size)/\v'.oneCell'=true:=by
 obtain⟨v',w',h1,h2,h3,h4⟩:=Lib.run_append_own_string (P:=P) w B t u ty et i hu hus hi hz hsize hby v n zs hown s (by simp only[maxLen];omega) hlen hB;obtain⟨av,cv,hv,_⟩:=qK h2;refine⟨v',w',h1,h2,h3, ?_,by rw[hv];rfl⟩;have hxl:zs.length=n:=by simpa using hown.1
 rcases hown.2 with ⟨rfl,rfl⟩|⟨g,cap,cur,rfl,hbg,hg,hnc,hcm,hcs,htake⟩
 ·by_cases hm:s.size=0
  ·simp_all
  ·right;have hr:=run_append_nil_string (P:=P) w t u ty et i (.int .u8 0) hu hus hi hz s (by omega) (by omega) (by rw[hby];omega);rw[hr]at h1;cases h1;rfl
 ·by_cases hroom:n+s.size<=cap
  ·left;have hr:=Lib.run_append_room_string (P:=P) w t u ty et i hu hus hi hsize g n cap cur hg s hroom (by omega);rw[hr]at h1;cases h1;rfl
  ·right;have holds: ∀j u,zs[j]? =some u->w.cell? ((⟨g,0,none⟩:Addr).add j)=some u:=hown.cells (g:=g) rfl;have hr:=Lib.run_append_grow_string (P:=P) w t u ty et i (.int .u8 0) hu hus hi hz ⟨g,0,none⟩ n cap zs (by simp_all) holds s (by omega) (by omega) (by rw[hby];exact growslice_fits (by omega) (by omega));rw[hr]at h1;cases h1;rfl
end
end
section
open Bool renaming and_eq_true → af
open List renaming length_append → ag, map_cons → ax, nil_append → aH, map_nil → aV
open Nat renaming le_refl → ae, eq_of_beq_eq_true → ak, le_mul_of_pos_right → bn
open Go.RowKit
section
variable {P:Program} {T:TT} {W0:World} {c:Cx} {R:Type} {r:R} {t:TypeId}
theorem zM {α:Type} {l:List α} {b:Nat} (h:eH l b=true):l.length*b<=140737488355328:=by
 unfold eH ni at h;simp_all
theorem fQ.one {w:World} {fr:Nat->Prop} {e:Ty}: ∀(xs:List e.den) (zs:List Value),fQ (eY w fr e) e.size xs zs-> ∀u∈zs,u.oneCell'=true
 |[],_,h=>by cases h;simp
 |y::ys,_,⟨d,rest,e1,e2,e3,e4⟩=>by
  subst e1;intro u hu;rcases List.mem_append.1 hu with hu|hu
  ·exact eY.one _ _ _ e3 u hu
  ·exact fQ.one ys rest e4 u hu
theorem ahu (hok:c.Ok W0) {st:St} (hhp:c.hp=st.hp) (hnx:c.nxt=st.nxt) {e:Ty} (hpos:0<e.size) {id ver:Nat} {xs:List e.den} (harr:dH c.hp id=some (.arr e ver xs)) {v':Value} {w':World} {e1:TypeId} {ws:List e.den} {zs':List Value}
  (hown':w'.ownsRow W0.heap.size e1 e.size v' ws.length zs') (hL:fQ (eY c.w c.free e) e.size ws zs') (hgr:c.w.grownBy w' (c.mu id).v.ownBlock) (hlow: ∀b,(c.mu id).v.ownBlock=some b->W0.heap.size<=b)
  (hblk:v'.ownBlock=(c.mu id).v.ownBlock\/v'.ownBlock=some c.w.heap.size) (hone:v'.oneCell'=true) (hty:e=.int .u8->e1=oD):
  ∃c',CJ W0 c st c' {st with hp:=iV st.hp id (.arr e (ver+1) ws)}/\c'.w=w'/\bJ c' (.slc id (ver+1) none) v':=by
 have hB:Below W0.heap.size W0 w':=hok.bel.grown hgr hok.size hlow;have hlike:(dD.arr e ver xs).like (c.mu id) (.arr e (ver+1) ws) ⟨0,v'⟩:=⟨by omega,fun h=>by omega⟩;have hbb: ∀b,b<c.w.heap.size->(dD.arr e ver xs).blk (c.mu id)≠some b->w'.heap[b]? =c.w.heap[b]? :=fun b hb hne=>hgr.block b hb (by
  grind [dD.blk])
 have hll: ∀b,(dD.arr e (ver+1) ws).blk ⟨0,v'⟩=some b->(dD.arr e ver xs).blk (c.mu id)=some b\/c.w.heap.size<=b:=fun b hb=>by
  simp only[dD.blk]at hb ⊢
  grind
 have hlp: ∀(b:Nat) (L:Loop),(dD.arr e ver xs).blk (c.mu id)=some b->c.w.heap[b]? =some (Obj.loop L)-> ∃L':Loop,w'.heap[b]? =some (Obj.loop L'):=fun b L hb hL=>absurd hL ((hok.obj id _ harr).no_loop (by simp) hb);have hle:=Cx.Le.put (w:=w') hok harr hlike hgr.size hbb hll hlp;refine⟨c.put id (.arr e (ver+1) ws) ⟨0,v'⟩ w',⟨by simp[Cx.put,hhp],hnx,rfl,rfl,hok.put harr hlike hB hgr.size hbb hll hlp ?_,hle⟩,rfl, ?_⟩
 ·refine⟨hpos,e1,zs', ?_,fQ.mono (eY.mono hle.free e) _ _ hL,hty⟩;simp_all [Cx.put,upd_same]
 ·simp only[bJ];refine⟨hone,.inl ⟨_,Cx.put_get harr⟩,fun t' u' xs' h'=> ?_⟩;rw[Cx.put_get harr]at h';simp_all [iT,Cx.put,upd_same]
theorem O6 (hT:TOk P T) (hok:c.Ok W0) {st:St} (hhp:c.hp=st.hp) (hnx:c.nxt=st.nxt) {et:TypeId} (hu:P.underlying t=some (.slice et)) (hk:(T.at et).known=true) {e:Ty} (hsz:(T.at et).size=e.size) (hpos:0<e.size) (hbp:0<(T.at et).bytes)
  {id ver:Nat} {xs:List e.den} (harr:dH c.hp id=some (.arr e ver xs)) {v:Value} {k cp:Nat} {g:Option Addr} (hv:(c.mu id).v=.slice g xs.length cp) (hk2:k<=xs.length) (hv2:v=.slice g k cp)
  {ys:List e.den} {a:Option Addr} {m:Nat} {zs2:List Value} (hL2:fQ (eY c.w c.free e) e.size ys zs2) (hsrc:zs2=[]\/ ∃b off,a=some ⟨b,off,none⟩/\b<c.w.heap.size/\gV c.w b off zs2)
  (hfit:((xs.take k++ys).length)*(T.at et).bytes<=140737488355328) (ty:TypeId) (hety:e=.int .u8->et=oD):
  ∃c' v',CJ W0 c st c' {st with hp:=iV st.hp id (.arr e (ver+1) (xs.take k++ys))}/\(Builtin.append_ #[t,t] ty #[v,.slice a ys.length m]).run P c.w=.ok v' c'.w/\bJ c' (.slc id (ver+1) none) v':=by
 obtain⟨_,e0,zs,hown,hL,hty⟩:=hok.obj id _ harr;obtain⟨i,z,hi,hsi,hbi,hz,hzero,hz1⟩:=hT.info hk;have hzl:z.cells.size=e.size:=by
  have:=congrArg List.length hzero;rw[hT.zlen hk,hsz]at this;simpa using this
 have hL3:=fQ.take k _ _ hL;have hl2:=fQ.length _ _ hL2;have hone2:=fQ.one _ _ hL2;have hlen:(xs.take k).length=k:=by simp;omega
 have hown3:c.w.ownsRow W0.heap.size e0 e.size v k (zs.take (k*e.size)):=by
  rw[hv]at hown;rcases hown.2 with ⟨e1,e2⟩|⟨g',cap',cur,e1,_⟩
  ·simp only[Value.slice.injEq]at e1;obtain⟨rfl,_,rfl⟩:=e1;simp_all [World.ownsRow_nil]
  grind [XE]
 have h63:k+ys.length<=maxLen:=by
  have h2:k+ys.length<=(k+ys.length)*(T.at et).bytes:=bn _ hbp
  grind [maxLen]
 obtain⟨v',w',e1,hr,hown',hgr,hblk,hone,hwhich⟩:=O7 hT hu hi hz hsi hbi (by rw[hzl,hsz]) (by omega) (by rw[hsz];exact hown3) (a:=a) (cp:=m) (by rw[hsz];exact hl2) hone2 (hsrc.imp (fun h=>h) fun⟨b,off,q1,_,q3⟩=>⟨b,off,q1,q3⟩) h63
  (by simp_all) hok.size ty
 rw[hsz]at hown';have hvb:v.ownBlock=(c.mu id).v.ownBlock:=by rw[hv,hv2];cases g<;>rfl
 have hlow: ∀b,(c.mu id).v.ownBlock=some b->W0.heap.size<=b:=fun b hb=>(World.ownsRow.lt hown3 b (hvb.trans hb)).1;rw[hvb]at hgr hblk;obtain⟨c',d1,d2,d3⟩:=ahu hok hhp hnx hpos harr (ws:=xs.take k++ys) (by simp_all) (fQ.append _ _ _ _ hL3 hL2) hgr hlow hblk hone (fun h=>hwhich.elim (fun q=>q.trans (hty h)) fun q=>q.trans (hety h))
 grind
theorem Kq {w:World} {fr:Nat->Prop} (s:List UInt8):fQ (eY w fr (.int .u8)) (Ty.int .u8).size (bI s) (Lib.strCells ⟨s.toArray⟩):=by
 induction s with
 |nil=>rfl
 |cons b l ih=>
  refine⟨[.int .u8 b.toNat],Lib.strCells ⟨l.toArray⟩,by simp[Lib.strCells],rfl,rfl, ?_⟩
  assumption
theorem akw (hT:TOk P T) (hok:c.Ok W0) {cl:Bool} {dst:Option Tmp} {ty:TypeId} {pos:String} {after:Array Edge} {guard:Option (Nat×Bool)} {st:St} {a:Act} {K:bG->St->Option R} {args:Array Operand} {t t':TypeId} {s x:bG} (hhp:c.hp=st.hp) (hnx:c.nxt=st.nxt) (hfr:bF c st.fr a.tmps.toList)
  (hargs:args.toList.map (gK st.fr)=[s,x]) (h:zG T cl dst t t' s x st K=some r):GU P W0 c st ⟨dst,.call {callee:=.builtin .append,args:=args,argTypes:=[t,t'].toArray},ty,pos,after,guard⟩ a K r:=by
 obtain⟨al⟩:=args
 match al,hargs with
 |[s0,x0],hargs=>
  simp only[ax,aV,List.cons.injEq,and_true]at hargs;obtain⟨rfl,rfl⟩:=hargs;have hs:=dG hfr s0;have hx:=dG hfr x0;have hexec: ∀w,(execOp a.eval ⟨dst,.call {callee:=.builtin .append,args:=[s0,x0].toArray,argTypes:=[t,t'].toArray},ty,pos,after,guard⟩).run P w=
    ((Builtin.append_ #[t,t'] ty #[a.eval s0,a.eval x0]).run P w).andThen fun v w'=>.ok (.value v) w':=fun w=>by
   simp[execOp,resolve,invoke,builtin,Sem.run_bind]
  unfold zG at h;split at h
  ·rename_i et y hkk hx0
   rw[hx0]at hx;simp only[bJ]at hx;have hx:=hx.str_inv;split at h
   ·rename_i he
    replace h:=di h;obtain⟨hc,h⟩:=h;simp only[af]at hc;obtain⟨⟨hstr,hrow⟩,hb1⟩:=hc;have hus:=EY hT hstr;obtain⟨hu,hk,hsz,hpos,hbp⟩:=pO hT hkk hrow;have hb1:(T.at et).bytes=1:=ak hb1;obtain⟨i,z,hi,hsi,hbi,hz,hzero,hz1⟩:=hT.info hk;have het:et=oD:=hT.byte hk he;have hzb:i.zero=some (.int .u8 0):=by
     rcases(hT et hk).2.2.1 with q|q
     ·simp_all
     ·rw[he]at q;have hk2:(T.at et).k=.int .u8:=by
       cases hkq:(T.at et).k with
       |int k=>simp_all [lD]
       |struct fs=>
        rw[hkq]at q;simp only[lD]at q;cases fs with
        |nil=>simp[jC]at q
        |cons f l=>
         grind [jC]
       |slice e'=>
        rw[hkq]at q;simp only[lD]at q;cases hq:(T.at e').ty<;>rw[hq]at q<;>simp at q
       |bool=>rw[hkq]at q;cases q
       |str=>rw[hkq]at q;cases q
       |other=>rw[hkq]at q;cases q
       |fn=>rw[hkq]at q;cases q
       |ptr e'=>rw[hkq]at q;cases q
       |map _ _=>rw[hkq]at q;cases q
      exact hT.zero_byte hk hk2 hi
    cases hsv:gK st.fr s0 with
    |nils=>
     rw[hsv]at h hs;simp only at h;simp only[bJ]at hs;obtain⟨hfit,h⟩:=fU h;have hfit:y.length<=140737488355328:=of_decide_eq_true hfit;obtain⟨v',w',hr,hown',hgr,hblk,hone⟩:=O8 (ty:=ty) hu hus hi hzb (by omega) (by omega) (World.ownsRow_nil c.w c.w.heap.size et 1) ⟨y.toArray⟩ (by show 0+y.toArray.size<=_;simpa using hfit) (ae _);obtain⟨id,n',f1,f2,f3,f4⟩:=iW h;have hbw:Below c.w.heap.size c.w w':=⟨hgr.os,hgr.tape,hgr.output,hgr.size,fun k hk=>hgr.block k hk (by simp[Value.ownBlock])⟩;have hsz2:0+(⟨y.toArray⟩:ByteArray).size=(bI y).length:=by show 0+y.toArray.size=_;simp[bI]
     rw[aH,hsz2]at hown';obtain⟨c',d1,d2,d3⟩:=qy hok hhp hnx f1 f2 f3 (y:=.int .u8) (by simp[Ty.size]) hbw et _ hown' (Kq y) hone (fun _=>het);exact⟨_,_,c',_,f4,d1,d3,.inl (by simp_all)⟩
    |slc id ver vw=>
     rw[hsv]at h hs;simp only at h;split at h
     ·rename_i u xs harr
      rw[<-hhp]at harr;replace h:=di h;obtain⟨hver,h⟩:=h;have hver:u=ver:=by simpa using hver
      subst hver;split at h
      ·replace h:=fU h;obtain⟨hfit,h⟩:=h;have hfit:=zM hfit;simp only[bJ]at hs;have hs1:=(hs.2.2 _ _ _ harr).2 rfl;simp only[iT]at hs1;obtain⟨_,e0,zs,hown,hL,hty⟩:=hok.obj id _ harr;have he0:e0=et:=(hty rfl).trans het.symm;subst he0;have hlen2:(⟨y.toArray⟩:ByteArray).size=(bI y).length:=by show y.toArray.size=_;simp[bI]
       obtain⟨v',w',hr,hown',hgr,hblk,hone⟩:=O8 (ty:=ty) hu hus hi hzb (by omega) (by omega) hown ⟨y.toArray⟩ (by simp_all) hok.size;rw[hlen2,<-ag]at hown';obtain⟨c',d1,d2,d3⟩:=ahu hok hhp hnx (e:=.int .u8) (by simp[Ty.size]) harr hown' (fQ.append _ _ _ _ hL (Kq y)) hgr (fun b hb=>(World.ownsRow.lt hown b hb).1) hblk hone (fun _=>het);exact⟨_,_,c',_,h,d1,d3,.inl (by simp_all)⟩
      ·cases h
     ·cases h
    |_=>rw[hsv]at h;cases h
   ·cases h
  ·cases h
theorem ao3 (hT:TOk P T) (hok:c.Ok W0) {cl:Bool} {call:fV R} {o:Oper} {st:St} {a:Act} {K:bG->St->Option R} {args:Array Operand} {ts:Array TypeId} (hhp:c.hp=st.hp) (hnx:c.nxt=st.nxt) (hfr:bF c st.fr a.tmps.toList)
  (ho:o.op=.call {callee:=.builtin .append,args:=args,argTypes:=ts}) (h:dW T cl call o st K=some r):GU P W0 c st o a K r:=by
 obtain⟨dst,op,ty,pos,after,guard⟩:=o;simp only at ho;subst ho;simp only[dW,jV]at h;split at h<;>try (cases h;done)
 all_goals try (rename_i hb _;cases hb;done)
 rename_i s x hb hargs
 split at h<;>try (cases h;done)
 rename_i t t' hts
 obtain⟨ts⟩:=ts;simp only at hts;subst hts;rw[cond_eq_ite]at h;split at h
 rotate_left
 ·grind [akw]
 rename_i htt
 have htt:t=t':=by simpa using htt
 subst htt;obtain⟨al⟩:=args
 match al,hargs with
 |[s0,x0],hargs=>
  simp only[ax,aV,List.cons.injEq,and_true]at hargs;obtain⟨rfl,rfl⟩:=hargs;have hs:=dG hfr s0;have hx:=dG hfr x0;have hexec: ∀w,(execOp a.eval ⟨dst,.call {callee:=.builtin .append,args:=[s0,x0].toArray,argTypes:=[t,t].toArray},ty,pos,after,guard⟩).run P w=
    ((Builtin.append_ #[t,t] ty #[a.eval s0,a.eval x0]).run P w).andThen fun v w'=>.ok (.value v) w':=fun w=>by
   simp[execOp,resolve,invoke,builtin,Sem.run_bind]
  unfold IZ at h;split at h
  ·rename_i et hkk
   split at h
   ·rename_i e he
    split at h
    ·cases h
    ·rename_i ys hys
     rw[<-hhp]at hys;obtain⟨a2,m2,zs2,hu2,hL2,hsrc⟩:=Y0 hok hys hx;split at h
     ·
      rename_i hs0
      rw[hs0]at hs;simp only[bJ]at hs;replace h:=fU h;obtain⟨hn,h⟩:=h;simp only[af]at hn;obtain⟨hu,hk,hsz,hpos,hbp⟩:=pO hT hkk hn.1;have hfit:=zM hn.2;obtain⟨i,z,hi,hsi,hbi,hz,hzero,hz1⟩:=hT.info hk;have hzl:z.cells.size=e.size:=by
       have:=congrArg List.length hzero;rw[hT.zlen hk,hsz]at this;simpa using this
      have hl2:=fQ.length _ _ hL2;have hone2:=fQ.one _ _ hL2;have h63:0+ys.length<=maxLen:=by
       have h2:ys.length<=ys.length*(T.at et).bytes:=bn _ hbp;simp only[maxLen];omega
      obtain⟨v',w',e1,hr,hown',hgr,hblk,hone,hwhich⟩:=O7 hT hu hi hz hsi hbi (by rw[hzl,hsz]) (by omega) (World.ownsRow_nil c.w c.w.heap.size et (T.at et).size) (a:=a2) (cp:=m2) (by rw[hsz];exact hl2) hone2 (hsrc.imp (fun h=>h) fun⟨b,off,q1,_,q3⟩=>⟨b,off,q1,q3⟩) h63
       (by simp_all) (ae _) ty
      rw[hsz,aH,Nat.zero_add]at hown';obtain⟨id,n',f1,f2,f3,f4⟩:=iW h;have hbw:Below c.w.heap.size c.w w':=⟨hgr.os,hgr.tape,hgr.output,hgr.size,fun k hk=>hgr.block k hk (by simp[Value.ownBlock])⟩;obtain⟨c',d1,d2,d3⟩:=qy hok hhp hnx f1 f2 f3 hpos hbw e1 zs2 hown' hL2 hone (fun q=>(hwhich.elim (fun q=>q) fun q=>q).trans (hT.byte hk (by rw[he,q])));exact⟨_,_,c',_,f4,d1,d3,.inl (by simp_all)⟩
     ·
      rename_i hs0
      rw[hs0]at hs;simp only[bJ]at hs;obtain⟨av,hs⟩:=hs;replace h:=fU h;obtain⟨hn,h⟩:=h;simp only[af]at hn;obtain⟨hu,hk,hsz,hpos,hbp⟩:=pO hT hkk hn.1;have hfit:=zM hn.2;obtain⟨i,z,hi,hsi,hbi,hz,hzero,hz1⟩:=hT.info hk;have hzl:z.cells.size=e.size:=by
       have:=congrArg List.length hzero;rw[hT.zlen hk,hsz]at this;simpa using this
      have hl2:=fQ.length _ _ hL2;have hone2:=fQ.one _ _ hL2;have h63:0+ys.length<=maxLen:=by
       have h2:ys.length<=ys.length*(T.at et).bytes:=bn _ hbp;simp only[maxLen];omega
      cases hlt:NZ 0 ys.length with
      |false=>
       rw[hlt]at h;simp only[cond_false]at h;have h0:ys.length=0:=by simpa [NZ] using hlt
       refine⟨.emp,.slice av 0 0,c,st,h,CJ.refl hok hhp hnx,by simp only[bJ];exact⟨av,rfl⟩,.inl ?_⟩;rw[hexec,hs,hu2,h0];cases a2<;>cases av<;>simp[Builtin.append_,run_underlying hu,sizeOf,typeInfo,hi,Builtin.lenOf,Builtin.firstCells,loadCells,loadCellsFrom,storeCells]
      |true=>
       rw[hlt]at h;simp only[cond_true]at h;have hpl:0<ys.length:=by simpa [NZ] using hlt
       have hne:zs2≠[]:=by
        grind [Nat.mul_pos]
       obtain⟨b,off,rfl,_,hc⟩:=hsrc.resolve_left hne;obtain⟨v',w',e1,hr,hown',hgr,hone,hwhich⟩:=adb hT hu hi hz hsi hbi (by rw[hzl,hsz]) (by omega) (w:=c.w) (av:=av) (cp:=m2) (by rw[hsz];exact hl2) hone2 hc hpl (by omega) hfit ty;rw[hsz]at hown';obtain⟨id,n',f1,f2,f3,f4⟩:=iW h;obtain⟨c',d1,d2,d3⟩:=qy hok hhp hnx f1 f2 f3 hpos hgr e1 zs2 hown' hL2 hone (fun q=>hwhich.trans (hT.byte hk (by rw[he,q])));exact⟨_,_,c',_,f4,d1,d3,.inl (by simp_all)⟩
     ·
      rename_i id ver vw hs0
      rw[hs0]at hs;split at h
      ·rename_i e' u xs harr
       rw[<-hhp]at harr;replace h:=di h;obtain⟨hver,h⟩:=h;have hver:u=ver:=by simpa using hver
       subst hver;split at h
       ·rename_i xs' hcast
        have hee:=iF hcast;cases hee;rw[gp]at hcast;cases hcast;simp only[bJ]at hs;have hs1:=(hs.2.2 _ _ _ harr).2 rfl;obtain⟨_,e0,zs,hown,hL,hty⟩:=hok.obj id _ harr;obtain⟨g,cp,hv,hn,_⟩:=qK hown;split at h
        ·replace h:=fU h;obtain⟨hn2,h⟩:=h;simp only[af]at hn2;obtain⟨hu,hk,hsz,hpos,hbp⟩:=pO hT hkk hn2.1;have hfit:=zM hn2.2;simp only[iT]at hs1;rw[hv]at hs1;obtain⟨c',v',d1,d2,d3⟩:=O6 hT hok hhp hnx hu hk hsz hpos hbp harr hv (ae _) hs1 (m:=m2) hL2 hsrc (by simp_all) ty (fun q=>hT.byte hk (by rw[he,q]));rw[List.take_length]at d1;exact⟨_,_,c',_,h,d1,d3,.inl (by simp_all)⟩
        ·rename_i lo hi
         replace h:=fU h;obtain⟨hn2,h⟩:=h;simp only[af,bM,beq_iff_eq]at hn2;obtain⟨hn2,rfl,hn3⟩:=hn2;obtain⟨hu,hk,hsz,hpos,hbp⟩:=pO hT hkk hn2;have hfit:=zM hn3;simp only[iT]at hs1;obtain⟨g',m',cp',hv',p1,p2,p3,hs1⟩:=hs1;rw[hv]at hv';cases hv';have hs2:a.eval s0=.slice g hi.toNat cp:=by
          simp_all [Addr.add]
         obtain⟨c',v',d1,d2,d3⟩:=O6 hT hok hhp hnx hu hk hsz hpos hbp harr hv (k:=hi.toNat) (by omega) hs2 (m:=m2) hL2 hsrc hfit ty (fun q=>hT.byte hk (by rw[he,q]));exact⟨_,_,c',_,h,d1,d3,.inl (by rw[hexec,hu2,d2];rfl)⟩
       ·cases h
      ·cases h
     ·cases h
   ·cases h
  ·cases h
end
end
section
open Bool renaming and_eq_true → af, not_eq_true' → aW
open List renaming length_append → ag, append_assoc → ai, map_cons → ax, nil_append → aH, drop_of_length_le → aJ, map_nil → aV
open Nat renaming le_refl → ae, eq_of_beq_eq_true → ak, le_trans → aO
open Go.RowKit
section
variable {P:Program} {T:TT} {W0:World} {c:Cx} {R:Type} {r:R} {t:TypeId}
theorem Gw {cs vs cs':List bG} {off:Nat} (h:putCells cs off vs=some cs'):off+vs.length<=cs.length/\cs'=cs.take off++vs++cs.drop (off+vs.length):=by
 unfold putCells at h;replace h:=di h;simp_all
theorem NG (hT:TOk P T) (hk:(T.at t).known=true) {w:World} {g o:Nat} {cur:Array Value} {e:TypeId} (hg:w.heap[g]? =some (.cells cur e (0,0))) {v:Value} (hl:v.cells.size=(T.at t).size) (hfit:o+v.cells.size<=cur.size)
  (h1: ∀u∈v.cells.toList,u.oneCell'=true):
  (Instr.storeAt t (.pointer (some ⟨g,o,none⟩)) v).run P w=.ok () (w.setRow g (cur.toList.take o++v.cells.toList++cur.toList.drop (o+v.cells.size)).toArray):=by
 have hst:=run_storeCells_at P g o e v.cells.toList 0 cur w hg (by simpa using hfit) h1;simp only[Nat.add_zero,Array.length_toList]at hst;simp only[Instr.storeAt,Instr.sureAddr,Sem.run_bind,Sem.run_pure,Result.andThen_ok,storeVar,hT.sizeOf hk w,Sem.run_ite];simp_all
theorem ao5 (hT:TOk P T) (hok:c.Ok W0) {dst:Option Nat} {ty:TypeId} {pos} {after} {guard} {st:St} {a:Act} {K:St->Option R} {x y:Operand} (hhp:c.hp=st.hp) (hnx:c.nxt=st.nxt) (hfr:bF c st.fr a.tmps.toList)
  (h:I9 T st t (gK st.fr x) (gK st.fr y) K=some r): ∃c' st',K st'=some r/\CJ W0 c st c' st'/\(execOp a.eval ⟨dst,.store t x y,ty,pos,after,guard⟩).run P c.w=.ok .skip c'.w:=by
 simp only[I9]at h;split at h
 ·cases h
 rename_i vs hvs
 replace h:=di h;obtain⟨hk,h⟩:=h;simp only[af,beq_iff_eq]at hk;obtain⟨hk,hlen⟩:=hk;obtain⟨r1,r2⟩:=KA hvs (dG hfr y);have hl:vs.length=(a.eval y).cells.size:=by simpa using bF.length _ _ r1
 have hx:=dG hfr x;have hexec: ∀w w',(Instr.storeAt t (a.eval x) (a.eval y)).run P w=.ok () w'->(execOp a.eval ⟨dst,.store t x y,ty,pos,after,guard⟩).run P w=.ok .skip w':=fun w w' hw=>by
  simp_all [execOp]
 split at h
 ·rename_i id off hid
  rw[hid]at hx;split at h
  ·rename_i bt cs hcs
   split at h
   ·rename_i cs' hput
    obtain⟨p1,rfl⟩:=Gw hput;rw[<-hhp]at hcs;simp only[bJ]at hx;have hv:=hx.2.2 _ _ hcs;obtain⟨hB,us,h3,h4,h5⟩:=hok.obj id _ hcs;have hlu:cs.length=us.size:=by simpa using bF.length _ _ h4
    have hrun:=NG (o:=off) hT hk h3 (v:=a.eval y) (by rw[<-hl,hlen]) (by omega) r2;rw[<-hv]at hrun;have hlike:(dD.box bt cs).like (c.mu id) (.box bt (cs.take off++vs++cs.drop (off+vs.length))) (c.mu id):=rfl;have hsz:c.w.heap.size<=(c.w.setRow (c.mu id).blk (us.toList.take off++(a.eval y).cells.toList++us.toList.drop (off+(a.eval y).cells.size)).toArray).heap.size:=by simp
    have hbb: ∀b,b<c.w.heap.size->(dD.box bt cs).blk (c.mu id)≠some b->(c.w.setRow (c.mu id).blk (us.toList.take off++(a.eval y).cells.toList++us.toList.drop (off+(a.eval y).cells.size)).toArray).heap[b]? =c.w.heap[b]? :=
     fun b _ hne=>setRow_other _ _ _ _ (fun e=>hne (by simp[dD.blk,e]))
    have hll: ∀b,(dD.box bt (cs.take off++vs++cs.drop (off+vs.length))).blk (c.mu id)=some b->(dD.box bt cs).blk (c.mu id)=some b\/c.w.heap.size<=b:=fun b hb=>.inl hb;have hlp: ∀(b:Nat) (L:Loop),(dD.box bt cs).blk (c.mu id)=some b->c.w.heap[b]? =some (Obj.loop L)-> ∃L':Loop,(c.w.setRow (c.mu id).blk (us.toList.take off++(a.eval y).cells.toList++us.toList.drop (off+(a.eval y).cells.size)).toArray).heap[b]? =some (Obj.loop L'):=fun b L hb hL=>absurd hL ((hok.obj id _ hcs).no_loop (by simp) hb);have hle:=Cx.Le.put (w:=c.w.setRow (c.mu id).blk (us.toList.take off++(a.eval y).cells.toList++us.toList.drop (off+(a.eval y).cells.size)).toArray) hok hcs hlike hsz hbb hll hlp;have hBel:Below W0.heap.size W0 (c.w.setRow (c.mu id).blk (us.toList.take off++(a.eval y).cells.toList++us.toList.drop (off+(a.eval y).cells.size)).toArray):=
     hok.bel.trans ⟨rfl,rfl,rfl,by simp,fun k hk=>setRow_other _ _ _ _ (by omega)⟩
    refine⟨c.put id _ (c.mu id) _,_,h,⟨by simp[Cx.put,hhp],hnx,rfl,rfl,hok.put hcs hlike hBel hsz hbb hll hlp ?_,hle⟩,hexec _ _ hrun⟩;refine⟨by simp only[Cx.put,upd_same];exact hB,(us.toList.take off++(a.eval y).cells.toList++us.toList.drop (off+(a.eval y).cells.size)).toArray, ?_, ?_, ?_⟩
    ·simp only[Cx.put,upd_same]
     grind [setRow_heap]
    ·grind [bF.append,bF.take,bF.drop,bF.le]
    grind
   ·cases h
  ·cases h
 ·rename_i id ver i off hid
  rw[hid]at hx;split at h
  ·rename_i e u xs harr
   rw[<-hhp]at harr;replace h:=di h;obtain⟨hver,h⟩:=h;have hver:u=ver:=by simpa using hver
   subst hver;replace h:=di h;obtain⟨hi,h⟩:=h;have hi:i<xs.length:=by simpa [NZ] using hi
   split at h
   ·rename_i cs hput
    split at h
    ·rename_i x' hmk
     simp only[bJ]at hx;obtain⟨g',n',cp',q1,q2⟩:=(hx.2.2 _ _ _ harr).2 rfl;obtain⟨hpos,e0,zs,hown,hL,hty⟩:=hok.obj id _ harr;rcases hown.2 with ⟨e1,e2⟩|⟨g,cap,cur,e1,e2,e3,e4,e5,e6,e7⟩
     ·omega
     rw[q1]at e1;simp only[Value.slice.injEq,Option.some.injEq,Addr.mk.injEq,and_true]at e1;obtain⟨rfl,rfl,rfl⟩:=e1;obtain⟨d,d1,d2,l1,l2,d3,d4⟩:=fQ.at_ i xs zs hi hL;have hgx:xs.getD i e.dflt=xs[i]:=by simp[List.getD,hi]
     rw[hgx]at hput;obtain⟨p1,rfl⟩:=Gw hput;have hf:=Dl (c:=c) e _ _ d2;have hfl:=bF.length _ _ hf;have hod:off+vs.length<=d.length:=by omega
     have hnew:=bF.append _ _ _ _ (bF.append _ _ _ _ (bF.take off _ _ hf) r1) (bF.drop (off+vs.length) _ _ hf);have hd':=nS hmk hnew;have hdl:=eY.length _ _ _ hd';have hcl:cur.toList=l1++d++l2++cur.toList.drop (xs.length*e.size):=by
      grind [List.take_append_drop]
     have hcs:cur.size=xs.length*e.size+(cur.toList.drop (xs.length*e.size)).length:=by
      have h1:=congrArg List.length hcl;have h2:=congrArg List.length d3;rw[hown.1]at h2
      grind
     have hzl:=congrArg List.length d3;rw[hown.1]at hzl;simp only[ag]at hzl;have hrun:=NG (o:=i*e.size+off) hT hk e3 (v:=a.eval y) (by rw[<-hl,hlen]) (by omega) r2;rw[<-q2]at hrun;have hseg:cur.toList.take (i*e.size+off)++(a.eval y).cells.toList++cur.toList.drop (i*e.size+off+(a.eval y).cells.size)=l1++(d.take off++(a.eval y).cells.toList++d.drop (off+vs.length))++l2++cur.toList.drop (xs.length*e.size):=by
      have t1:cur.toList.take (i*e.size+off)=l1++d.take off:=by
       rw[hcl,ai,ai,List.take_append,List.take_of_length_le (by omega),d4,Nat.add_sub_cancel_left,List.take_append_of_le_length (by omega)]
      have t2:cur.toList.drop (i*e.size+off+(a.eval y).cells.size)=d.drop (off+vs.length)++l2++cur.toList.drop (xs.length*e.size):=by
       conv=>lhs;rw[hcl]
       rw[ai,ai,List.drop_append,aJ (by omega),aH,d4,List.drop_append,List.drop_append];have z1:i*e.size+off+(a.eval y).cells.size-i*e.size=off+vs.length:=by omega
       have z2:off+vs.length-d.length=0:=by omega
       rw[z1,z2];simp
      rw[t1,t2];simp
     rw[hseg]at hrun;have hL2:=fQ.set x' (d.take off++(a.eval y).cells.toList++d.drop (off+vs.length)) hdl hd' i xs l1 d l2 hi (by grind) d4 d1;generalize d.take off++(a.eval y).cells.toList++d.drop (off+vs.length)=d' at*;have hlike:(dD.arr e u xs).like (c.mu id) (.arr e u (ik xs i x')) (c.mu id):=⟨ae _,fun _=>⟨rfl,rfl⟩⟩;have hblk:(dD.arr e u xs).blk (c.mu id)=some g':=by simp[dD.blk,q1,Value.ownBlock]
     have hsz:c.w.heap.size<=(c.w.setRow g' (l1++d'++l2++cur.toList.drop (xs.length*e.size)).toArray).heap.size:=by simp
     have hbb: ∀b,b<c.w.heap.size->(dD.arr e u xs).blk (c.mu id)≠some b->(c.w.setRow g' (l1++d'++l2++cur.toList.drop (xs.length*e.size)).toArray).heap[b]? =c.w.heap[b]? :=
      fun b _ hne=>setRow_other _ _ _ _ (fun e=>hne (by rw[hblk,e]))
     have hll: ∀b,(dD.arr e u (ik xs i x')).blk (c.mu id)=some b->(dD.arr e u xs).blk (c.mu id)=some b\/c.w.heap.size<=b:=fun b hb=>.inl hb;have hlp: ∀(b:Nat) (L:Loop),(dD.arr e u xs).blk (c.mu id)=some b->c.w.heap[b]? =some (Obj.loop L)-> ∃L':Loop,(c.w.setRow g' (l1++d'++l2++cur.toList.drop (xs.length*e.size)).toArray).heap[b]? =some (Obj.loop L'):=fun b L hb hL=>absurd hL ((hok.obj id _ harr).no_loop (by simp) hb);have hle:=Cx.Le.put (w:=c.w.setRow g' (l1++d'++l2++cur.toList.drop (xs.length*e.size)).toArray) hok harr hlike hsz hbb hll hlp;have hBel:Below W0.heap.size W0 (c.w.setRow g' (l1++d'++l2++cur.toList.drop (xs.length*e.size)).toArray):=
      hok.bel.trans ⟨rfl,rfl,rfl,by simp,fun k hk=>setRow_other _ _ _ _ (by omega)⟩
     refine⟨c.put id _ (c.mu id) _,_,h,⟨by simp[Cx.put,hhp],hnx,rfl,rfl,hok.put harr hlike hBel hsz hbb hll hlp ?_,hle⟩,hexec _ _ hrun⟩;refine⟨hpos,e0,l1++d'++l2, ?_,fQ.mono (eY.mono hle.free e) _ _ hL2,hty⟩;have hlen2:(l1++d'++l2).length=xs.length*e.size:=by
      grind
     simp only[Cx.put,upd_same,ik,List.length_set];refine⟨hlen2,.inr ⟨g',cp',_,q1,e2,setRow_heap c.w _ cur _ e0 _ e3,e4,e5, ?_, ?_⟩⟩
     all_goals grind
    ·cases h
   ·cases h
  ·cases h
 ·cases h
theorem Gu {w:World} {B:Nat} {e:TypeId} {size n:Nat} {v v':Value} {zs:List Value} (h:w.ownsRow B e size v n zs) {hi:Int} (h0:0<=hi) (hn:hi<=n) (hv:iT size v (some (0,hi)) v'):
  w.ownsRow B e size v' hi.toNat (zs.take (hi.toNat*size))/\ ∀b,v'.ownBlock=some b->v.ownBlock=some b:=by
 obtain⟨a,m,cp,e1,_,_,e4,e5⟩:=hv;have hk:hi.toNat<=n:=by omega
 have hlen:(zs.take (hi.toNat*size)).length=hi.toNat*size:=by
  rw[List.length_take,h.1];simp_all
 rcases h.2 with ⟨h1,h2⟩|⟨g,cap,cur,h1,h2,h3,h4,h5,h6,h7⟩
 ·rw[e1]at h1;cases h1;subst h2;have:hi.toNat=0:=by omega
  have hv':v'=.slice none 0 0:=by rw[e5,this];rfl
  subst hv';refine⟨⟨hlen,.inl ⟨rfl,this⟩⟩,fun b hb=>by cases hb⟩
 ·rw[e1]at h1;cases h1;have hv':v'=.slice (some ⟨g,0,none⟩) hi.toNat cp:=by
   grind [Addr.add]
  subst hv';subst e1;refine⟨⟨hlen,.inr ⟨g,cp,cur,rfl,h2,h3,by omega,h5,h6, ?_⟩⟩,fun b hb=>hb⟩
  grind
theorem asC {st:St} {c':Cx} {st':St} (hd:CJ W0 c st c' st') {id off i:Nat} {bt:TypeId} {cs:List bG} {e:Ty} {w:Nat} {xs:List e.den} {hi:Int} (hne:id≠i)
  (hbox:dH st'.hp id=some (.box bt cs)) (harr:dH st'.hp i=some (.arr e w xs)) (hcell:cs.getD off .undef=.slc i w (some (0,hi))):
  ∃c'',CJ W0 c st c'' {st' with hp:=iV (iV st'.hp i (.arr e (w+1) (xs.take hi.toNat))) id (.box bt (cs.set off (.slc i (w+1) none)))}/\c''.w=c'.w:=by
 have hok:=hd.ok;rw[<-hd.hp]at hbox harr;obtain⟨hB,us,h3,h4,h5⟩:=hok.obj id _ hbox;have hlu:cs.length=us.toList.length:=bF.length _ _ h4;have hoff:off<cs.length:=by
  grind
 have hou:off<us.toList.length:=by omega
 have hv:bJ c' (.slc i w (some (0,hi))) us.toList[off]:=by
  have:=bF.getD h4 off;simp_all
 obtain⟨hpos,e0,zs,hown,hL,hty⟩:=hok.obj i _ harr;have hv1:=hv;simp only[bJ]at hv1;have hview:=(hv1.2.2 _ _ _ harr).2 rfl;have⟨hb1,hb2⟩:0<=hi/\hi<=bC xs:=by
  obtain⟨a1,n1,c1,e1,_,p2,p3,_⟩:=hview;obtain⟨a2,c2,e2,_⟩:=qK hown;rw[e2]at e1;cases e1;exact⟨p2,p3⟩
 obtain⟨hown',hblk⟩:=Gu hown hb1 hb2 hview;have hk:(dD.arr e w xs).like (c'.mu i) (.arr e (w+1) (xs.take hi.toNat)) ⟨(c'.mu i).blk,us.toList[off]⟩:=⟨by omega,fun e=>by omega⟩;have hle:=Cx.Le.put (w:=c'.w) hok harr hk (ae _) (fun _ _ _=>rfl) (fun b hb=>.inl (hblk b hb)) (fun b L _ hL=>⟨L,hL⟩);have hok1:=Cx.Ok.put (w:=c'.w) hok harr hk hok.bel (ae _) (fun _ _ _=>rfl) (fun b hb=>.inl (hblk b hb)) (fun b L _ hL=>⟨L,hL⟩) (by
  refine⟨hpos,e0,zs.take (hi.toNat*e.size), ?_,fQ.take _ _ _ (fQ.mono (eY.mono hle.free e) _ _ hL),hty⟩;simp_all [bC,Cx.put,upd_same])
 have hnew:bJ (c'.put i (dD.arr e (w+1) (List.take hi.toNat xs)) ⟨(c'.mu i).blk,us.toList[off]⟩ c'.w) (.slc i (w+1) none) us.toList[off]:=by
  simp only[bJ];refine⟨hv1.1,.inl ⟨_,Cx.put_get harr⟩,fun t' u' xs' hg'=> ?_⟩;rw[Cx.put_get harr]at hg';simp_all [iT,Cx.put,upd_same]
 have hbox1:dH (c'.put i (dD.arr e (w+1) (List.take hi.toNat xs)) ⟨(c'.mu i).blk,us.toList[off]⟩ c'.w).hp id=some (.box bt cs):=by
  simp only[Cx.put,jl]
  grind
 have hmu1:(c'.put i (dD.arr e (w+1) (List.take hi.toNat xs)) ⟨(c'.mu i).blk,us.toList[off]⟩ c'.w).mu id=c'.mu id:=by
  simp_all [Cx.put,upd_ne]
 generalize hc1:c'.put i (dD.arr e (w+1) (List.take hi.toNat xs)) ⟨(c'.mu i).blk,us.toList[off]⟩ c'.w=c1 at*;have hw1:c1.w=c'.w:=by rw[<-hc1];rfl
 have hhp1:c1.hp=iV c'.hp i (.arr e (w+1) (xs.take hi.toNat)):=by rw[<-hc1];rfl
 have hnx1:c1.nxt=c'.nxt:=by rw[<-hc1];rfl
 have hk2:(dD.box bt cs).like (c1.mu id) (.box bt (cs.set off (.slc i (w+1) none))) (c1.mu id):=rfl;have hle2:=Cx.Le.put (w:=c1.w) hok1 hbox1 hk2 (ae _) (fun _ _ _=>rfl) (fun b hb=>.inl hb) (fun b L _ hL=>⟨L,hL⟩);have hok2:=Cx.Ok.put (w:=c1.w) hok1 hbox1 hk2 hok1.bel (ae _) (fun _ _ _=>rfl) (fun b hb=>.inl hb) (fun b L _ hL=>⟨L,hL⟩) (by
  refine⟨by simp_all [Cx.put,upd_same],us,by simp_all [Cx.put,upd_same], ?_,h5⟩
  grind [bF.le,bF.setL])
 refine⟨_,⟨?_, ?_,hd.fr,hd.stk,hok2,(hd.le.trans hle).trans hle2⟩,hw1⟩
 ·simp only[Cx.put];rw[hhp1,hd.hp]
 ·show c1.nxt=st'.nxt;rw[hnx1,hd.nxt]
theorem aj3 {old:gz} {st:St} {x y:bG} {K:St->Option R} {c':Cx} {st':St} (hd:CJ W0 c st c' st') (h:aai old st' x y K=some r): ∃c'' st'',K st''=some r/\CJ W0 c st c'' st''/\c''.w=c'.w:=by
 have same:K st'=some r-> ∃c'' st'',K st''=some r/\CJ W0 c st c'' st''/\c''.w=c'.w:=fun h=>⟨c',st',h,hd,rfl⟩;unfold aai at h;split at h
 ·split at h
  ·split at h
   ·rw[cond_eq_ite]at h;split at h
    ·rename_i hne
     simp only[af,aW]at hne;split at h
     ·rename_i hbox harr
      split at h
      ·rename_i hcell
       rw[cond_eq_ite]at h;split at h
       ·rename_i hb
        simp only[af,beq_iff_eq]at hb
        grind [ak,asC]
       ·exact same h
      ·exact same h
     ·exact same h
    ·exact same h
   ·exact same h
  ·exact same h
 ·exact same h
theorem at7 (hT:TOk P T) (hok:c.Ok W0) {cl:Bool} {call:fV R} {o:Oper} {st:St} {a:Act} {K:bG->St->Option R} {x y:Operand} (hhp:c.hp=st.hp) (hnx:c.nxt=st.nxt) (hfr:bF c st.fr a.tmps.toList)
  (ho:o.op=.store t x y) (h:dW T cl call o st K=some r):GU P W0 c st o a K r:=by
 obtain⟨dst,op,ty,pos,after,guard⟩:=o;simp only at ho;subst ho;simp only[dW]at h;obtain⟨c',st',h1,hd,hx⟩:=ao5 (dst:=dst) (ty:=ty) (pos:=pos) (after:=after) (guard:=guard) hT hok hhp hnx hfr h;obtain⟨c'',st'',h2,hd2,hw⟩:=aj3 hd h1;exact⟨_,undef,c'',st'',h2,hd2,by simp[bJ],.inr ⟨by rw[hw];exact hx,rfl⟩⟩
theorem TW (w:World) (t et ty:TypeId) (B size n:Nat) (v:Value) (zs:List Value) (e0:TypeId) (h:w.ownsRow B e0 size v n zs) (hty:P.underlying ty=some (.pointer et)):
  ∃u w',(Builtin.unsafeSliceData_ #[t] ty #[v]).run P w=.ok u w'/\Below w.heap.size w w'/\u.oneCell'=true/\(∃p,u=.pointer p)/\ ∀a m cp,v=.slice a m cp->m≠0->u=.pointer a:=by
 rcases h.2 with ⟨rfl,rfl⟩|⟨g,cap,cur,rfl,_,hg,hnc,_⟩
 ·exact⟨_,w,Lib.run_unsafeSliceData_nil w _ _ 0 0,Below.refl _ _,rfl,⟨_,rfl⟩,fun a m cp h hm=>by simp_all⟩
 ·by_cases hc:cap=0
  ·subst hc;refine⟨_,_,Lib.run_unsafeSliceData_zero w _ _ et hty ⟨g,0,none⟩ n (e0,cur.size) (by simp[World.shape?,hg]),ny _ _,rfl,⟨_,rfl⟩,fun a m cp h hm=> ?_⟩;cases h;omega
  ·exact⟨_,w,Lib.run_unsafeSliceData_row w _ _ _ _ _ hc,Below.refl _ _,rfl,⟨_,rfl⟩,fun a m cp h _=>by cases h;rfl⟩
theorem abA (hT:TOk P T) (hok:c.Ok W0) {cl:Bool} {call:fV R} {o:Oper} {st:St} {a:Act} {K:bG->St->Option R} {args:Array Operand} {ts:Array TypeId} (hhp:c.hp=st.hp) (hnx:c.nxt=st.nxt) (hfr:bF c st.fr a.tmps.toList)
  (ho:o.op=.call {callee:=.builtin .unsafeSliceData,args:=args,argTypes:=ts}) (h:dW T cl call o st K=some r):GU P W0 c st o a K r:=by
 obtain⟨dst,op,ty,pos,after,guard⟩:=o;simp only at ho;subst ho;simp only[dW,jV]at h;split at h<;>try (cases h;done)
 all_goals try (rename_i hb _;cases hb;done)
 rename_i id ver hb hargs
 split at h<;>try (cases h;done)
 rename_i t hts
 split at h<;>try (cases h;done)
 rename_i e v xs harr
 rw[cond_eq_ite]at h;split at h
 ·rename_i hc
  simp only[af,beq_iff_eq]at hc;obtain⟨rfl,hrow,htyk⟩:=hc;obtain⟨ts⟩:=ts;simp only at hts;subst hts;obtain⟨al⟩:=args
  match al with
  |[]=>simp at hargs
  |_::_::_=>simp at hargs
  |[s0]=>
   simp only[ax,aV,List.cons.injEq,and_true]at hargs;have hs:=dG hfr s0;rw[hargs]at hs;simp only[bJ]at hs;rw[<-hhp]at harr;have hs1:=(hs.2.2 _ _ _ harr).2 rfl;simp only[iT]at hs1;obtain⟨_,e0,zs,hown,hL,hty⟩:=hok.obj id _ harr;obtain⟨et,hund⟩:=hT.isPtr htyk;obtain⟨u,w',hr,hbw,hone,hp,hpa⟩:=TW c.w t et ty W0.heap.size e.size xs.length (c.mu id).v zs e0 hown hund;refine⟨_,u,c.at_ w',st,h,⟨hhp,hnx,rfl,rfl,hok.ext hbw,Cx.Le.ext hbw⟩, ?_,.inl ?_⟩
   ·simp only[bJ];refine⟨hone,.inl ⟨_,harr⟩,fun t' u' xs' h'=> ?_⟩;have h':dH c.hp id=some (.arr t' u' xs'):=h';rw[harr]at h';cases h';exact⟨ae _,fun _=>⟨hp,hpa⟩⟩
   ·have:(execOp a.eval ⟨dst,.call {callee:=.builtin .unsafeSliceData,args:=[s0].toArray,argTypes:=[t].toArray},ty,pos,after,guard⟩).run P c.w=
      ((Builtin.unsafeSliceData_ #[t] ty #[a.eval s0]).run P c.w).andThen fun v w'=>.ok (.value v) w':=by
     simp[execOp,resolve,invoke,builtin,Sem.run_bind]
    rw[this,hs1,hr];rfl
 ·cases h
theorem JX (w:World): ∀(xs:List Int) (a:Addr) (acc:ByteArray),(∀j x,xs[j]? =some x->w.cell? (a.add j)=some (.int .u8 x))->(loadBytes a acc xs.length).run P w=.ok (xs.foldl (fun r n=>r.push (UInt8.ofNat n.toNat)) acc) w
 |[],a,acc,_=>by simp[loadBytes]
 |x::xs,a,acc,h=>by
  have h0:w.cell? a=some (.int .u8 x):=by
   have:=h 0 x rfl
   assumption
  have ih:=JX w xs (a.add 1) (acc.push (UInt8.ofNat x.toNat)) fun j y hj=>by
   have:=h (j+1) y (by simpa using hj)
   grind [Addr.add]
  simp_all [loadBytes]
theorem Rt {pt it ty et:TypeId} (hp:P.underlying pt=some (.pointer et)) (hc:P.cellsOf et=1) (w:World) (g cells:Nat) (hsh:w.shape? g=some (et,cells)) (xs:List Int) (h0:xs≠[]) (hn:xs.length<=cells) (h63:xs.length<=9223372036854775807)
  (hcell: ∀j x,xs[j]? =some x->w.cell? ((⟨g,0,none⟩:Addr).add j)=some (.int .u8 x)):
  (Builtin.unsafeString_ #[pt,it] ty #[.pointer (some ⟨g,0,none⟩),.int .i64 xs.length]).run P w=.ok (.string ⟨(ofBytes xs).toArray⟩) (w.freeze ⟨g,0,none⟩ xs.length):=by
 have hl:xs.length≠0:=by simpa using h0
 have hlb:=JX (P:=P) w xs ⟨g,0,none⟩ .empty hcell;have hlies:=Lib.liesAt_bytes (P:=P) hc (cells/P.cellsOf et) xs.length (by simp_all);have h63': ¬(9223372036854775807:Int)<(xs.length:Int):=by omega
 have hdef:Builtin.unsafeString_ #[pt,it] ty #[.pointer (some ⟨g,0,none⟩),.int .i64 xs.length]=
   (do
    let n<-asInt (.int .i64 xs.length)
    if n<0 then runtimePanic (.error "unsafe.String: len out of range")
    if n>IntKind.i64.max then unsupported (.unsafePointer "String: a length above the largest int")
    if n=0 then pure (.string .empty)
    else if<-variablesAt ⟨g,0,none⟩ (<-elemOf pt) n.toNat then do
     let s<-loadBytes ⟨g,0,none⟩ .empty n.toNat
     freeze ⟨g,0,none⟩ n.toNat
     pure (.string s)
    else unsupported (.unsafePointer "String: not so many bytes at ptr")):=rfl
 rw[hdef];have hmax:IntKind.i64.max=9223372036854775807:=rfl;have hneg: ¬(xs.length:Int)<0:=by omega
 have hfold:=KN xs [];have he:(⟨([]:List UInt8).toArray⟩:ByteArray)=.empty:=rfl;rw[he]at hfold;simp[asInt,asIntOf,hmax,h63',hneg,hl,variablesAt,hsh,elemOf,run_underlying hp,hlies,hlb];exact hfold
theorem abx (hok:c.Ok W0) {st:St} (hhp:c.hp=st.hp) (hnx:c.nxt=st.nxt) {id ver:Nat} {e:Ty} {xs:List e.den} (harr:dH c.hp id=some (.arr e ver xs)) {w':World} (hsz:c.w.heap.size<=w'.heap.size)
  (hbb: ∀b,(c.mu id).v.ownBlock≠some b->w'.heap[b]? =c.w.heap[b]?) (hos:w'.os=c.w.os/\w'.tape=c.w.tape/\w'.output=c.w.output):
  ∃c',CJ W0 c st c' {st with hp:=iV st.hp id .dead}/\c'.w=w':=by
 have hlike:(dD.arr e ver xs).like (c.mu id) .dead (c.mu id):=trivial;have hlp: ∀(b:Nat) (L:Loop),(dD.arr e ver xs).blk (c.mu id)=some b->c.w.heap[b]? =some (Obj.loop L)-> ∃L':Loop,w'.heap[b]? =some (Obj.loop L'):=fun b L hb hL=>absurd hL ((hok.obj id _ harr).no_loop (by simp) hb);have hll: ∀b,dD.dead.blk (c.mu id)=some b->(dD.arr e ver xs).blk (c.mu id)=some b\/c.w.heap.size<=b:=fun b hb=>by cases hb
 have hb2: ∀b,b<c.w.heap.size->(dD.arr e ver xs).blk (c.mu id)≠some b->w'.heap[b]? =c.w.heap[b]? :=fun b _ hne=>hbb b hne;have hB:Below W0.heap.size W0 w':=by
  refine⟨hos.1.trans hok.bel.os,hos.2.1.trans hok.bel.tape,hos.2.2.trans hok.bel.output,aO hok.bel.size hsz,fun b hb=>(hbb b fun h=> ?_).trans (hok.bel.block b hb)⟩;have:=((hok.obj id _ harr).lt (b:=b) h).1;omega
 have hle:=Cx.Le.put (w:=w') hok harr hlike hsz hb2 hll hlp;exact⟨c.put id .dead (c.mu id) w',⟨by simp[Cx.put,hhp],hnx,rfl,rfl,hok.put harr hlike hB hsz hb2 hll hlp trivial,hle⟩,rfl⟩
theorem Qv (hT:TOk P T) (hok:c.Ok W0) {cl:Bool} {call:fV R} {o:Oper} {st:St} {a:Act} {K:bG->St->Option R} {args:Array Operand} {ts:Array TypeId} (hhp:c.hp=st.hp) (hnx:c.nxt=st.nxt) (hfr:bF c st.fr a.tmps.toList)
  (ho:o.op=.call {callee:=.builtin .unsafeString,args:=args,argTypes:=ts}) (h:dW T cl call o st K=some r):GU P W0 c st o a K r:=by
 obtain⟨dst,op,ty,pos,after,guard⟩:=o;simp only at ho;subst ho;simp only[dW,jV]at h;split at h<;>try (cases h;done)
 all_goals try (rename_i hb _;cases hb;done)
 rename_i id ver n hb hargs
 split at h<;>try (cases h;done)
 rename_i pt it hts
 split at h<;>try (cases h;done)
 rename_i v xs harr
 rw[cond_eq_ite]at h;split at h
 ·rename_i hc
  simp only[af,beq_iff_eq]at hc;obtain⟨rfl,hpt⟩:=hc;replace h:=fU h;obtain⟨hn,h⟩:=h;have hn:n=(xs.length:Int):=by simpa [bM,bC] using hn
  subst hn;obtain⟨ts⟩:=ts;simp only at hts;subst hts;obtain⟨al⟩:=args
  match al with
  |[]=>simp at hargs
  |[_]=>simp at hargs
  |_::_::_::_=>simp at hargs
  |[s0,n0]=>
   simp only[ax,aV,List.cons.injEq,and_true]at hargs;have hs:=dG hfr s0;have hn0:=dG hfr n0;rw[hargs.1]at hs;rw[hargs.2]at hn0;simp only[bJ]at hs hn0;have hn0:=hn0.int_inv;rw[<-hhp]at harr;obtain⟨hp,hpa⟩:=(hs.2.2 _ _ _ harr).2 rfl;obtain⟨_,e0,zs,hown,hL,hty⟩:=hok.obj id _ harr;have hty:=hty rfl;obtain⟨hund,hcl⟩:=hT.isBytes hpt;have hexec:(execOp a.eval ⟨dst,.call {callee:=.builtin .unsafeString,args:=[s0,n0].toArray,argTypes:=[pt,it].toArray},ty,pos,after,guard⟩).run P c.w=
     ((Builtin.unsafeString_ #[pt,it] ty #[a.eval s0,a.eval n0]).run P c.w).andThen fun v w'=>.ok (.value v) w':=by
    simp[execOp,resolve,invoke,builtin,Sem.run_bind]
   have hzs:zs=xs.map (.int .u8):=Ht xs zs hL;by_cases hx:xs=[]
   ·subst hx;obtain⟨p,hp⟩:=hp;obtain⟨c',d1,d2⟩:=abx hok hhp hnx harr (w':=c.w) (ae _) (fun _ _=>rfl) ⟨rfl,rfl,rfl⟩;refine⟨_,.string .empty,c',_,h,d1, ?_,.inl ?_⟩
    ·simp only[bJ];exact VD.str_mk
    ·rw[hexec,hp,hn0];have:=Lib.run_unsafeString_none (P:=P) c.w pt it ty p;simp only[List.length_nil,Int.natCast_zero]at this ⊢;rw[this,d2];rfl
   ·have hx0:xs.length≠0:=by simpa using hx
    rcases hown.2 with ⟨_,h0⟩|⟨g,cap,cur,hv,hbg,hg,hnc,hcm,hcs,htake⟩
    ·exact absurd h0 hx0
    ·have hp:=hpa _ _ _ hv hx0;have hother: ∀b,(c.mu id).v.ownBlock≠some b->(c.w.freeze ⟨g,0,none⟩ xs.length).heap[b]? =c.w.heap[b]? :=fun b hb=>by
      have hne:g≠b:=fun e=>hb (by rw[hv,<-e];rfl);unfold World.freeze;rw[if_neg hx0];simp only[Array.getElem?_modify];rw[if_neg hne]
     have hsame:(c.w.freeze ⟨g,0,none⟩ xs.length).heap.size=c.w.heap.size:=by
      unfold World.freeze;rw[if_neg hx0];simp
     have hos:(c.w.freeze ⟨g,0,none⟩ xs.length).os=c.w.os/\(c.w.freeze ⟨g,0,none⟩ xs.length).tape=c.w.tape/\(c.w.freeze ⟨g,0,none⟩ xs.length).output=c.w.output:=by
      unfold World.freeze;rw[if_neg hx0];exact⟨rfl,rfl,rfl⟩
     obtain⟨c',d1,d2⟩:=abx hok hhp hnx harr (w':=c.w.freeze ⟨g,0,none⟩ xs.length) (Nat.le_of_eq hsame.symm) hother hos;refine⟨_,.string ⟨(ofBytes xs).toArray⟩,c',_,h,d1, ?_,.inl ?_⟩
     ·simp only[bJ];exact VD.str_mk
     ·rw[hexec,hp,hn0];have hcells: ∀j x,xs[j]? =some x->c.w.cell? ((⟨g,0,none⟩:Addr).add j)=some (.int .u8 x):=fun j x hj=>by
       have:=hown.cells (g:=g) (by rw[hv];rfl) j (.int .u8 x) (by rw[hzs];simp[hj]);exact this
      have hcs:cur.size=cap:=by simpa [Ty.size] using hcs
      rw[Rt (ty:=ty) (it:=it) hund hcl c.w g cur.size (by rw[<-hty];simp[World.shape?,hg]) xs hx (by omega) (by unfold maxLen at hcm;omega) hcells,d2];rfl
 ·cases h
end
end
section
open Bool renaming and_eq_true → af
open List renaming map_cons → ax
open Go.RowKit
theorem P8 {kk vk:IntKind} {a:Int}: ∀(ms:List MapEntry) (es:List (Int×Int)) (i:Nat),ms.map (fun e=>(e.key,e.val))=es.map (fun p=>(Value.int kk p.1,Value.int vk p.2))->
  (DR es a=none/\Instr.findNow (.int kk) (.int kk a) ms i=some none/\ ∀b cl,(ms++[(⟨.int kk a,.int vk b,cl⟩:MapEntry)]).map (fun e=>(e.key,e.val))=(tN es a b).map (fun p=>(Value.int kk p.1,Value.int vk p.2)))\/
  ∃v j,DR es a=some v/\Instr.findNow (.int kk) (.int kk a) ms i=some (some (i+j,.int vk v))/\(∃e0,ms[j]? =some e0/\e0.key=.int kk a)/\
   ∀b,(ms.modify j (fun e=>{e with key:=.int kk a,val:=.int vk b})).map (fun e=>(e.key,e.val))=(tN es a b).map (fun p=>(Value.int kk p.1,Value.int vk p.2))
 |[],[],i,_=>.inl ⟨rfl,rfl,fun b cl=>rfl⟩
 |[],_::_,_,h=>by simp at h
 |_::_,[],_,h=>by simp at h
 |e::ms,(k,v)::es,i,h=>by
  simp only[ax,List.cons.injEq,Prod.mk.injEq]at h;obtain⟨⟨h1,h2⟩,h3⟩:=h;have hs:Instr.sameNow (.int kk) (.int kk a) e.key=some (a==k):=by rw[h1];simp[Instr.sameNow]
  by_cases hak:a=k
  ·subst hak;refine .inr ⟨v,0,by simp[DR,bM], ?_,⟨e,rfl,h1⟩,fun b=> ?_⟩
   ·simp[Instr.findNow,hs,h2]
   ·simp[tN,bM,h3]
  ·have hb:(a==k)=false:=by simpa using hak
   rw[hb]at hs;rcases P8 (a:=a) ms es (i+1) h3 with ⟨g1,g2,g3⟩|⟨v',j,g1,g2,⟨e0,g3,g4⟩,g5⟩
   ·refine .inl ⟨by simp[DR,bM,hb,g1],by simp[Instr.findNow,hs,g2],fun b cl=> ?_⟩;have:=g3 b cl;simp only[tN,bM,hb,cond_false,List.cons_append,ax,List.cons.injEq,Prod.mk.injEq];simp_all
   ·refine .inr ⟨v',j+1,by simp[DR,bM,hb,g1], ?_,⟨e0,by simpa using g3,g4⟩,fun b=> ?_⟩
    ·grind [Instr.findNow]
    ·have:=g5 b;simp only[tN,bM,hb,cond_false,List.modify_succ_cons,ax,List.cons.injEq,Prod.mk.injEq];simp_all
section
variable {P:Program} {T:TT} {W0:World} {c:Cx} {R:Type} {r:R} {t:TypeId}
theorem QM (hT:TOk P T) {a b:IntKind} (h:T.mapOf t=some (a,b)): ∃k e,P.underlying t=some (.map k e)/\P.underlying k=some (.int a)/\ ∃i,P.info? e=some i/\i.zero=some (.int b 0):=by
 unfold TT.mapOf at h;replace h:=di h;obtain⟨hk,h⟩:=h;split at h
 ·rename_i k e hke
  replace h:=di h;obtain⟨hke2,h⟩:=h;simp only[af]at hke2;split at h
  ·rename_i a' b' ha hb
   cases h;obtain⟨i,z,hi,_⟩:=hT.info hke2.2;exact⟨k,e,hT.map hk hke,hT.int hke2.1 ha,i,hi,hT.zero_int hke2.2 hb hi⟩
  ·cases h
 ·cases h
theorem azV (hok:c.Ok W0) {st:St} (h1:c.hp=st.hp) (h2:c.nxt=st.nxt) {id n':Nat} (h3:dH st.hp id=none) (h4:st.nxt<=id) (h5:st.nxt<=n') (kk vk:IntKind):
  ∃c',CJ W0 c st c' {st with hp:=(id,.mp kk vk [])::st.hp,nxt:=n'}/\c'.w=c.w.alloc (.map #[] 0)/\bJ c' (.mpv id) (.map (some c.w.heap.size)):=by
 have hk:=zW h1 h2 h3 h4;have hb:=ny c.w (.map #[] 0);have hl: ∀b,dD.blk (.mp kk vk []) ⟨c.w.heap.size,undef⟩=some b->c.w.heap.size<=b:=fun b hb=>by
  simp_all [dD.blk]
 have hle:=Cx.Le.push (o:=.mp kk vk []) (l:=⟨c.w.heap.size,undef⟩) (nxt:=n') (w:=c.w.alloc (.map #[] 0)) hk (by omega) hb.size hb.block hl;have ho:(c.push id (.mp kk vk []) ⟨c.w.heap.size,undef⟩ n' (c.w.alloc (.map #[] 0))).ORel W0.heap.size id (.mp kk vk []):=by
  refine⟨by simp[Cx.push,upd_same];exact hok.size,#[],0, ?_,rfl⟩;simp only[Cx.push,upd_same];exact heap_alloc_new c.w _
 refine⟨_,⟨?_,rfl,rfl,rfl,hok.push hk (by omega) hb hl ho,hle⟩,rfl, ?_⟩
 ·simp[Cx.push,h1]
 ·simp only[bJ];refine⟨rfl,.inl ⟨.mp kk vk [],by simp[Cx.push,dV]⟩,fun _ _ _ _=>by simp[Cx.push,upd_same]⟩
theorem akx (hT:TOk P T) (hok:c.Ok W0) {cl:Bool} {call:fV R} {o:Oper} {st:St} {a:Act} {K:bG->St->Option R} {res:Option Operand} (hhp:c.hp=st.hp) (hnx:c.nxt=st.nxt) (ho:o.op=.makeMap t res)
  (h:dW T cl call o st K=some r):GU P W0 c st o a K r:=by
 obtain⟨dst,op,ty,pos,after,guard⟩:=o;simp only at ho;subst ho;simp only[dW]at h;split at h
 ·rename_i kk vk hm
  obtain⟨id,n',e1,e2,e3,e4⟩:=iW h;obtain⟨c',d1,d2,d3⟩:=azV hok hhp hnx e1 e2 e3 kk vk;refine qx (s:=Instr.makeMap t none) rfl e4 d1 d3 (by simp_all [Instr.makeMap])
 ·cases h
theorem ao4 (hT:TOk P T) (hok:c.Ok W0) {cl:Bool} {call:fV R} {o:Oper} {st:St} {a:Act} {K:bG->St->Option R} {x y:Operand} {ok:Bool} (hhp:c.hp=st.hp) (hnx:c.nxt=st.nxt) (hfr:bF c st.fr a.tmps.toList) (ho:o.op=.lookup t x y ok)
  (h:dW T cl call o st K=some r):GU P W0 c st o a K r:=by
 obtain⟨dst,op,ty,pos,after,guard⟩:=o;simp only at ho;subst ho;simp only[dW]at h;split at h
 ·rename_i kk vk id hm hid
  split at h
  ·rename_i kk' vk' es kk'' n hg hn
   replace h:=di h;obtain⟨hk,h⟩:=h;simp only[af,decide_eq_true_eq]at hk;obtain⟨rfl,rfl,rfl⟩:=hk;obtain⟨kt,et,u1,u2,i,u3,u4⟩:=QM hT hm;have hx:=dG hfr x;rw[hid]at hx;simp only[bJ]at hx;rw[<-hhp]at hg;have hv:=hx.2.2 _ _ _ hg;obtain⟨hB,ms,clock,h3,h4⟩:=hok.obj id _ hg;have hy:=dG hfr y;rw[hn]at hy;simp only[bJ]at hy;have hyv:=hy.int_inv;have hz:(zeroValue et).run P c.w=.ok (.int vk' 0) c.w:=by simp[zeroValue,typeInfo,u3,u4]
   have hkey:MapKept.IsKey (.int kk'') (.int kk'' n):=rfl;rcases P8 (a:=n) ms.toList es 0 h4 with ⟨g1,g2,_⟩|⟨v,j,g1,g2,_,_⟩
   ·simp only[lV,apu,g1]at h;refine qx (s:=Instr.lookup t (a.eval x) (a.eval y) ok) (u:=if ok then .tuple #[.int vk' 0,.bool false]else .int vk' 0) rfl h (CJ.refl hok hhp hnx) ?_ ?_
    ·cases ok
     ·simp_all [bJ,VD.int_mk]
     ·simp only[cond_true,bJ,if_true];exact⟨_,rfl,by simp_all [bF,bJ,VD.int_mk,VD.bool_mk]⟩
    ·rw[hv,hyv];simp[Instr.lookup,run_underlying u1,MapKept.run_getObj_map h3,MapKept.run_checkKey u2 hkey,MapKept.run_findKey u2 g2,hz,Result.andThen]
   ·simp only[lV,apu,g1]at h;refine qx (s:=Instr.lookup t (a.eval x) (a.eval y) ok) (u:=if ok then .tuple #[.int vk' v,.bool true]else .int vk' v) rfl h (CJ.refl hok hhp hnx) ?_ ?_
    ·cases ok
     ·simp_all [bJ,VD.int_mk]
     ·simp only[cond_true,bJ,if_true];exact⟨_,rfl,by simp_all [bF,bJ,VD.int_mk,VD.bool_mk]⟩
    ·rw[hv,hyv];simp[Instr.lookup,run_underlying u1,MapKept.run_getObj_map h3,MapKept.run_checkKey u2 hkey,MapKept.run_findKey u2 g2,Result.andThen]
  ·cases h
 ·cases h
theorem abz (hT:TOk P T) (hok:c.Ok W0) {cl:Bool} {call:fV R} {o:Oper} {st:St} {a:Act} {K:bG->St->Option R} {x y z:Operand} (hhp:c.hp=st.hp) (hnx:c.nxt=st.nxt) (hfr:bF c st.fr a.tmps.toList) (ho:o.op=.mapUpdate t x y z)
  (h:dW T cl call o st K=some r):GU P W0 c st o a K r:=by
 obtain⟨dst,op,ty,pos,after,guard⟩:=o;simp only at ho;subst ho;simp only[dW]at h;split at h
 ·rename_i kk vk id hm hid
  split at h
  ·rename_i kk' vk' es kk'' n vk'' b hg hn hb
   replace h:=di h;obtain⟨hk,h⟩:=h;simp only[af,decide_eq_true_eq]at hk;obtain⟨rfl,rfl,rfl,rfl⟩:=hk;obtain⟨kt,et,u1,u2,i,u3,u4⟩:=QM hT hm;have hx:=dG hfr x;rw[hid]at hx;simp only[bJ]at hx;rw[<-hhp]at hg;have hv:=hx.2.2 _ _ _ hg;obtain⟨hB,ms,clock,h3,h4⟩:=hok.obj id _ hg;have hy:=dG hfr y;rw[hn]at hy;simp only[bJ]at hy;have hyv:=hy.int_inv;have hzz:=dG hfr z;rw[hb]at hzz;simp only[bJ]at hzz;have hzv:=hzz.int_inv;have hkey:MapKept.IsKey (.int kk'') (.int kk'' n):=rfl;have hrun: ∃ms' cl',(Instr.mapUpdate t (a.eval x) (a.eval y) (a.eval z)).run P c.w=.ok () {c.w with heap:=c.w.heap.setIfInBounds (c.mu id).blk (.map ms' cl')}/\ms'.toList.map (fun e=>(e.key,e.val))=(tN es n b).map (fun p=>(Value.int kk'' p.1,Value.int vk'' p.2)):=by
    rw[hv,hyv,hzv];rcases P8 (a:=n) ms.toList es 0 h4 with ⟨g1,g2,g3⟩|⟨v,j,g1,g2,⟨e0,g3,g4⟩,g5⟩
    ·exact⟨ms.push ⟨.int kk'' n,.int vk'' b,clock⟩,clock+1,by
      simp[Instr.mapUpdate,run_underlying u1,MapKept.run_getObj_map h3,MapKept.run_checkKey u2 hkey,MapKept.run_findKey u2 g2,MapKept.run_setObj_map _ h3,Result.andThen],by
      simp_all⟩
    ·have hj:ms[j]? =some e0:=by simpa using g3
     exact⟨ms.modify j (fun e'=>{e' with key:=.int kk'' n,val:=.int vk'' b}),clock,by
      simp[Instr.mapUpdate,run_underlying u1,MapKept.run_getObj_map h3,MapKept.run_checkKey u2 hkey,MapKept.run_findKey u2 g2,hj,g4,MapKept.run_keyThatStays hkey,MapKept.run_setObj_map _ h3,Result.andThen],by
      simp_all⟩
   obtain⟨ms',cl',hrun,hrow⟩:=hrun;have hexec:(execOp a.eval ⟨dst,.mapUpdate t x y z,ty,pos,after,guard⟩).run P c.w=.ok .skip {c.w with heap:=c.w.heap.setIfInBounds (c.mu id).blk (.map ms' cl')}:=by
    simp_all [execOp]
   have iV:=MapKept.heap_set (o':=Obj.map ms' cl') h3;have hlike:(dD.mp kk'' vk'' es).like (c.mu id) (.mp kk'' vk'' (tN es n b)) (c.mu id):=rfl;have hsz:c.w.heap.size<=({c.w with heap:=c.w.heap.setIfInBounds (c.mu id).blk (.map ms' cl')}:World).heap.size:=by simp
   have hbb: ∀b',b'<c.w.heap.size->(dD.mp kk'' vk'' es).blk (c.mu id)≠some b'->({c.w with heap:=c.w.heap.setIfInBounds (c.mu id).blk (.map ms' cl')}:World).heap[b']? =c.w.heap[b']? :=
    fun b' _ hne=>iV.2 b' (fun e=>hne (by simp[dD.blk,e]))
   have hll: ∀b',(dD.mp kk'' vk'' (tN es n b)).blk (c.mu id)=some b'->(dD.mp kk'' vk'' es).blk (c.mu id)=some b'\/c.w.heap.size<=b':=fun b' hb=>.inl hb;have hlp: ∀(b':Nat) (L:Loop),(dD.mp kk'' vk'' es).blk (c.mu id)=some b'->c.w.heap[b']? =some (Obj.loop L)-> ∃L':Loop,({c.w with heap:=c.w.heap.setIfInBounds (c.mu id).blk (.map ms' cl')}:World).heap[b']? =some (Obj.loop L'):=fun b' L hb hL=>absurd hL ((hok.obj id _ hg).no_loop (by simp) hb);have hle:=Cx.Le.put (w:={c.w with heap:=c.w.heap.setIfInBounds (c.mu id).blk (.map ms' cl')}) hok hg hlike hsz hbb hll hlp;have hBel:Below W0.heap.size W0 {c.w with heap:=c.w.heap.setIfInBounds (c.mu id).blk (.map ms' cl')}:=
    hok.bel.trans ⟨rfl,rfl,rfl,by simp,fun k hk=>iV.2 k (by omega)⟩
   refine⟨_,undef,c.put id _ (c.mu id) _,_,h,⟨by simp[Cx.put,hhp],hnx,rfl,rfl,hok.put hg hlike hBel hsz hbb hll hlp ?_,hle⟩,by simp[bJ],.inr ⟨hexec,rfl⟩⟩;refine⟨by simp only[Cx.put,upd_same];exact hB,ms',cl', ?_,hrow⟩;simp_all [Cx.put,upd_same]
  ·cases h
 ·cases h
end
end
section
open Nat renaming le_refl → ae, le_trans → aO
open Go.RowKit
def FW (rd:Option Nat):Fence:={Fence.wide with round:=rd}
theorem sO (rd:Option Nat) {n:Nat}:(FW rd).depth.isSome=true->1<=n:=fun h=>by simp[FW,Fence.wide]at h
def mkD (r:Nat):Deferred:={target:=.collected r,args:= #[]}
def Cc (c:Cx):List (List bG)->List (Array Value)->Prop
 |[],[]=>True
 |f::fs,t::ts=>bF c f t.toList/\Cc c fs ts
 |_,_=>False
theorem Cc.le {c c':Cx} (h:c.Le c'): ∀(fs:List (List bG)) (ts:List (Array Value)),Cc c fs ts->Cc c' fs ts
 |[],[],_=>trivial
 |f::fs,t::ts,hh=>⟨bF.le h _ _ hh.1,Cc.le h fs ts hh.2⟩
 |[],_::_,hh=>hh.elim
 |_::_,[],hh=>hh.elim
structure Cx.Mono (c c':Cx):Prop where
 mks: ∀r,r∈c.mks->r∈c'.mks
 lp: ∀(b:Nat) (L:Loop),c.w.heap[b]? =some (Obj.loop L)-> ∃L':Loop,c'.w.heap[b]? =some (Obj.loop L')
 size:c.w.heap.size<=c'.w.heap.size
 bar:c'.bar=c.bar
 out: ∀b,c.out b->c'.out b/\c'.w.heap[b]? =c.w.heap[b]?
theorem Cx.Le.mono {c c':Cx} (h:c.Le c'):c.Mono c':=⟨h.mks,h.lp,h.size,h.bar,h.out⟩
theorem Cx.Mono.refl (c:Cx):c.Mono c:=⟨fun _ h=>h,fun b L h=>⟨L,h⟩,ae _,rfl,fun _ h=>⟨h,rfl⟩⟩
theorem Cx.Mono.trans {a b c:Cx} (h:a.Mono b) (k:b.Mono c):a.Mono c:=
 ⟨fun r hr=>k.mks r (h.mks r hr),fun b L hL=>let⟨L1,h1⟩:=h.lp b L hL;k.lp b L1 h1,aO h.size k.size,k.bar.trans h.bar,fun x hx=>⟨(k.out x (h.out x hx).1).1,(k.out x (h.out x hx).1).2.trans (h.out x hx).2⟩⟩
structure iO (W0:World) (b0:Nat) (rd:Option Nat) (c:Cx) (st:St) (a:Act) (ats:List (Array Value)):Prop where
 hp:c.hp=st.hp
 nxt:c.nxt=st.nxt
 ok:c.Ok W0
 fr:bF c st.fr a.tmps.toList
 stk:Cc c st.stk ats
 df: ∃ds:List Nat,a.defers=ds.map mkD/\ds.Nodup/\ ∀r∈ds,r∈c.mks/\b0<=r
 rd: ∀l,rd=some l-> ∃L:Loop,c.w.heap[l]? =some (Obj.loop L)
section
variable {P:Program} {T:TT} {W0:World} {b0 n:Nat} {rd:Option Nat} {c:Cx} {R:Type} {r:R} {st:St} {a:Act} {ats:List (Array Value)}
theorem apW (a:Act) (dst:Option Nat) (v:Value) (fr:List bG) (z:bG) (h:bF c fr a.tmps.toList) (hz:bJ c z v):bF c (match dst with|some d=>fr.set d z|none=>fr) (a.put dst v).tmps.toList:=by
 grind [Act.put,bF.set]
theorem aAu (st:St) (dst:Option Nat) (z:bG):(st.put dst z).fr=(match dst with|some d=>st.fr.set d z|none=>st.fr)/\(st.put dst z).hp=st.hp/\(st.put dst z).nxt=st.nxt/\(st.put dst z).stk=st.stk:=by
 cases dst<;>exact⟨rfl,rfl,rfl,rfl⟩
theorem put_defers (a:Act) (dst:Option Nat) (v:Value):(a.put dst v).defers=a.defers:=by cases dst<;>rfl
theorem iO.put (h:iO W0 b0 rd c st a ats) {dst:Option Nat} {z:bG} {v:Value} (hz:bJ c z v):iO W0 b0 rd c (st.put dst z) (a.put dst v) ats:=by
 obtain⟨e1,e2,e3,e4⟩:=aAu st dst z;exact⟨h.hp.trans e2.symm,h.nxt.trans e3.symm,h.ok,by rw[e1];exact apW a dst v _ z h.fr hz,by rw[e4];exact h.stk,by rw[put_defers];exact h.df,h.rd⟩
theorem iO.did (h:iO W0 b0 rd c st a ats) {c':Cx} {st':St} (hd:CJ W0 c st c' st'):iO W0 b0 rd c' st' a ats:=
 ⟨hd.hp,hd.nxt,hd.ok,by rw[hd.fr];exact bF.le hd.le _ _ h.fr,by rw[hd.stk];exact Cc.le hd.le _ _ h.stk,
  let⟨ds,h1,h2,h3⟩:=h.df;⟨ds,h1,h2,fun r hr=>⟨hd.le.mks r (h3 r hr).1,(h3 r hr).2⟩⟩,fun l hl=>let⟨L,hL⟩:=h.rd l hl;hd.le.lp l L hL⟩
def lW (P:Program) (W0:World) (n:Nat) (call:fV R):Prop:=
 ∀(b0:Nat) (rd:Option Nat) (fv:bG) (args:List bG) (dst:Option Nat) (st:St) (K:bG->St->Option R) (r:R),call fv args dst st K=some r->
  ∀(c:Cx) (a:Act) (ats:List (Array Value)) (fv':Value) (args':Array Value),iO W0 b0 rd c st a ats->bJ c fv fv'->bF c args args'.toList->
   ∀(o:Oper) (next:Act->World->Prop) (Q:Exit->Act->World->Prop),(∀c' z u st',K z st'=some r->iO W0 b0 rd c' st' a ats->bJ c' z u->c.Mono c'->next (a.put o.dst u) c'.w)->
    o.uponIn (FW rd) n P a next Q ((do let d<-Deferred.ofValue fv' args';invoke d.target d.args:Sem Next).run P c.w)
def qp:Op->Bool
 |.defer _=>true
 |_=>false
theorem wS {o:Oper} (h:qp o.op=false) (rd:Option Nat) (ρ:Operand->Value):Oper.semAt rd ρ o=execOp ρ o:=
 Oper.semAt_eq rd ρ o fun c hc=>by rw[hc]at h;cases h
theorem qj (o:Oper) (w:World) (ρ:Operand->Value): ∀f,o.about P w ρ=some f->(FW rd).fn f:=fun _ _=>trivial
theorem mZ {o:Oper} {K:bG->St->Option R} (hd:qp o.op=false) (h:GU P W0 c st o a K r) (hr:iO W0 b0 rd c st a ats) {next:Act->World->Prop} {Q:Exit->Act->World->Prop}
  (hn: ∀c' z u st',K z st'=some r->iO W0 b0 rd c' st' a ats->bJ c' z u->c.Mono c'->next (a.put o.dst u) c'.w):o.wpIn (FW rd) n P a c.w next Q:=by
 obtain⟨z,u,c',st',h1,h2,h3,h4⟩:=h;refine⟨qj o c.w _, ?_⟩;rw[wS hd];have:=hn c' z u st' h1 (hr.did h2) h3 h2.le.mono;rcases h4 with h4|⟨h4,rfl⟩
 ·rw[h4];exact this
 ·rw[h4];exact this
theorem QZ (hT:TOk P T) {cl:Bool} {call:fV R} (hcall:lW P W0 n call) {o:Oper} {K:bG->St->Option R} (h:dW T cl call o st K=some r) (hr:iO W0 b0 rd c st a ats) {next:Act->World->Prop} {Q:Exit->Act->World->Prop}
  (hn: ∀c' z u st',K z st'=some r->iO W0 b0 rd c' st' a ats->bJ c' z u->c.Mono c'->next (a.put o.dst u) c'.w):o.wpIn (FW rd) n P a c.w next Q:=by
 by_cases hq:iq o.op=true
 ·obtain⟨z,u,h1,h2,h3⟩:=zY hT hr.ok hq hr.hp hr.fr h;have hd:qp o.op=false:=by cases ho:o.op<;>simp_all [iq,jE,qp]
  exact mZ hd ⟨z,u,c,st,h1,CJ.refl hr.ok hr.hp hr.nxt,h2,.inl (h3 c.w (Below.refl _ _))⟩ hr hn
 ·cases ho:o.op with
  |alloc t=>exact mZ (by rw[ho];rfl) (at6 hT hr.ok hr.hp hr.nxt ho h) hr hn
  |box t x=>exact mZ (by rw[ho];rfl) (aCo hT hr.ok hr.hp hr.nxt hr.fr ho h) hr hn
  |buildSlice t k parts=>exact mZ (by rw[ho];rfl) (Xn hT hr.ok hr.hp hr.nxt hr.fr ho h) hr hn
  |makeSlice t l cp=>exact mZ (by rw[ho];rfl) (aby hT hr.ok hr.hp hr.nxt hr.fr ho h) hr hn
  |store t x y=>exact mZ (by rw[ho];rfl) (at7 hT hr.ok hr.hp hr.nxt hr.fr ho h) hr hn
  |makeFunc fn first caps=>
   obtain⟨dst,op,ty,pos,after,guard⟩:=o;simp only at ho;subst ho;simp only[dW]at h;split at h
   ·rename_i f hf
    obtain⟨fl⟩:=first
    simp only at hf;subst hf;refine mZ rfl ⟨_,.func (.func f) #[] (caps.map a.eval),c,st,h,CJ.refl hr.ok hr.hp hr.nxt, ?_,.inl ?_⟩ hr hn
    ·simp only[bJ];refine⟨_,rfl, ?_⟩;have:=bF.map_eval (c:=c) hr.fr caps.toList;simpa using this
    simp_all [execOp,Instr.makeFunc]
   ·rename_i l f hne
    replace h:=di h;obtain⟨hcaps,h⟩:=h;have hc0:caps= #[]:=by
     simp_all
    subst hc0;refine mZ rfl ⟨_,.func (.func f) (first.map a.eval) #[],c,st,h,CJ.refl hr.ok hr.hp hr.nxt, ?_,.inl ?_⟩ hr hn
    ·simp only[bJ];refine⟨_,rfl, ?_⟩;have:=bF.map_eval (c:=c) hr.fr first.toList;simpa using this
    simp_all [execOp,Instr.makeFunc]
   ·cases h
  |makeMap t res=>exact mZ (by rw[ho];rfl) (akx hT hr.ok hr.hp hr.nxt ho h) hr hn
  |lookup t x y k=>exact mZ (by rw[ho];rfl) (ao4 hT hr.ok hr.hp hr.nxt hr.fr ho h) hr hn
  |mapUpdate t x y z=>exact mZ (by rw[ho];rfl) (abz hT hr.ok hr.hp hr.nxt hr.fr ho h) hr hn
  |call cc=>
   obtain⟨callee,args,argTypes⟩:=cc;cases callee with
   |builtin b=>
    cases b with
    |append=>exact mZ (by rw[ho];rfl) (ao3 hT hr.ok hr.hp hr.nxt hr.fr ho h) hr hn
    |unsafeSliceData=>exact mZ (by rw[ho];rfl) (abA hT hr.ok hr.hp hr.nxt hr.fr ho h) hr hn
    |unsafeString=>exact mZ (by rw[ho];rfl) (Qv hT hr.ok hr.hp hr.nxt hr.fr ho h) hr hn
    |len=>rw[ho]at hq;exact absurd rfl hq
    |min=>rw[ho]at hq;exact absurd rfl hq
    |max=>rw[ho]at hq;exact absurd rfl hq
    |_=>
     obtain⟨dst,op,ty,pos,after,guard⟩:=o;simp only at ho;subst ho;simp[dW,jV]at h
   |invoke x m=>
    simp_all [dW]
   |value f=>
    obtain⟨dst,op,ty,pos,after,guard⟩:=o;simp only at ho;subst ho;simp only[dW]at h;refine⟨qj _ c.w _, ?_⟩;rw[wS rfl];have h2:=hcall b0 rd _ _ dst st K r h c a ats (a.eval f) (args.map a.eval) hr (dG hr.fr f) (by
     have:=bF.map_eval (c:=c) hr.fr args.toList;simpa using this) ⟨dst,.call {callee:=.value f,args:=args,argTypes:=argTypes},ty,pos,after,guard⟩ next Q hn
    exact h2
  |_=>
   obtain⟨dst,op,ty,pos,after,guard⟩:=o;simp only at ho;subst ho
   first
    |(simp[iq,jE]at hq;done)
    |(simp[dW]at h;done)
theorem IC (ops:Array Oper) (j d:Nat) (h:(ops[j]?).bind (·.dst)=some d) (tmps:Array Value):yielded ops tmps j=(match tmps[d]? with|some (.bool b)=>some b|_=>none):=by
 grind [yielded]
theorem Lu (hT:TOk P T) {cl:Bool} {call:fV R} (hcall:lW P W0 n call) (ops:Array Oper) {K:St->Option R} {Q:Exit->Act->World->Prop}: ∀(l:List Oper) (c:Cx) (st:St) (a:Act),gZ T cl call ops K l st=some r->iO W0 b0 rd c st a ats->
  (∀c' st' a',K st'=some r->iO W0 b0 rd c' st' a' ats->c.Mono c'->Q .normal a' c'.w)->wpListIn (FW rd) n P ops Q l a c.w
 |[],c,st,a,h,hr,hQ=>by
  simp only[gZ]at h;exact hQ c st a h hr (Cx.Mono.refl c)
 |o::l,c,st,a,h,hr,hQ=>by
  simp only[gZ]at h;have step: ∀(c:Cx) (st:St) (a:Act),iO W0 b0 rd c st a ats->(∀c' st' a',K st'=some r->iO W0 b0 rd c' st' a' ats->c.Mono c'->Q .normal a' c'.w)->dW T cl call o st (fun v st=>gZ T cl call ops K l (st.put o.dst v))=some r->
    o.wpIn (FW rd) n P a c.w (wpListIn (FW rd) n P ops Q l) Q:=fun c st a hr hQ h=>
   QZ hT hcall h hr fun c' z u st' h1 h2 h3 h4=>Lu hT hcall ops l c' (st'.put o.dst z) (a.put o.dst u) h1 (h2.put h3) fun c'' st'' a'' k1 k2 k3=>hQ c'' st'' a'' k1 k2 (h4.trans k3)
  have skip: ∀(st:St),iO W0 b0 rd c st a ats->gZ T cl call ops K l (st.put o.dst (.tup []))=some r->(∀f,o.about P c.w a.eval=some f->(FW rd).fn f)/\wpListIn (FW rd) n P ops Q l (a.put o.dst undef) c.w:=fun st hr h=>
   ⟨qj o c.w _,Lu hT hcall ops l c (st.put o.dst (.tup [])) (a.put o.dst undef) h (hr.put (by simp only[bJ];exact⟨#[],rfl,by simp[bF]⟩)) hQ⟩
  simp only[wpListIn];cases hg:o.guard with
  |none=>
   rw[hg]at h;rw[if_pos (by simp[Region.wanted,hg])]
   grind
  |some jw=>
   obtain⟨j,want⟩:=jw;rw[hg]at h;simp only at h;split at h
   ·cases h
   ·rename_i d hd
    have hy:=IC ops j d hd a.tmps;have hsl:=hr.fr.getD d;have hsz:=bF.length _ _ hr.fr;rw[Array.length_toList]at hsz;split at h
    ·rename_i b hb
     rw[hb]at hsl;simp only[bJ]at hsl;have hv:=hsl.bool_inv;have hdl:d<a.tmps.size:=by
      grind
     have hv2:a.tmps[d]? =some (.bool b):=by
      simp_all
     rw[hv2]at hy;simp only at hy;have hself:a.put (some d) (.bool b)=a:=by
      simp only[Act.put];obtain⟨hh1,hh2⟩:=Array.getElem?_eq_some_iff.1 hv2;have:a.tmps.setIfInBounds d (.bool b)=a.tmps:=by
       grind
      rw[this]
     have hr2:iO W0 b0 rd c (st.put (some d) (.val .bool b)) a ats:=by
      have:=hr.put (dst:=some d) (z:=.val .bool b) (v:=.bool b) (by simp_all [bJ]);rwa [hself]at this
     cases b<;>cases want<;>(try simp only[cond_true,cond_false]at h)
     ·rw[if_pos (by simp[Region.wanted,hg,hy])]
      grind
     ·rw[if_neg (by simp[Region.wanted,hg,hy])];exact skip _ hr2 h
     ·rw[if_neg (by simp[Region.wanted,hg,hy])];exact skip _ hr2 h
     ·rw[if_pos (by simp[Region.wanted,hg,hy])]
      grind
    ·rename_i hb
     rw[hb]at hsl;simp only[bJ]at hsl;obtain⟨vs,hv,_⟩:=hsl;have hy2:yielded ops a.tmps j=none:=by
      rw[hy];cases he:a.tmps[d]? with
      |none=>rfl
      |some x=>
       simp_all
     rw[if_neg (by simp[Region.wanted,hg,hy2])];exact skip st hr h
    ·cases h
end
end
section
open Bool renaming not_eq_true' → aW
open List renaming mem_cons_of_mem → aj, map_cons → ax
open Nat renaming le_refl → ae
open Go.RowKit
structure Cx.Keeps (c c':Cx) (l:List Nat):Prop where
 free: ∀b,c.free b->c'.free b/\c'.w.heap[b]? =c.w.heap[b]?
 ref: ∀id∈l,c.known id->c'.known id
 obj: ∀id∈l,∀o',dH c'.hp id=some o'-> ∃o,dH c.hp id=some o/\o.like (c.mu id) o' (c'.mu id)
theorem Cx.Keeps.sub {c c':Cx} {l m:List Nat} (h:c.Keeps c' l) (hs: ∀i∈m,i∈l):c.Keeps c' m:=⟨h.free,fun i hi=>h.ref i (hs i hi),fun i hi=>h.obj i (hs i hi)⟩
theorem Cx.Keeps.left {c c':Cx} {l m:List Nat} (h:c.Keeps c' (l++m)):c.Keeps c' l:=h.sub fun i hi=>List.mem_append_left _ hi
theorem Cx.Keeps.right {c c':Cx} {l m:List Nat} (h:c.Keeps c' (l++m)):c.Keeps c' m:=h.sub fun i hi=>List.mem_append_right _ hi
mutual
theorem bJ.keeps {c c':Cx}: ∀(v:bG) (x:Value),c.Keeps c' (refs v)->bJ c v x->bJ c' v x
 |.undef,_,_,_=>by simp[bJ]
 |.val t x,v,h,hv=>by
  simp only[bJ]at hv ⊢;exact⟨fun e=>let⟨cs,h1,h2⟩:=hv.1 e;⟨cs,h1,eY.mono h.free t x _ h2⟩,fun e=>eY.mono h.free t x _ (hv.2 e)⟩
 |.nils,_,_,hv=>by assumption
 |.emp,_,_,hv=>by assumption
 |.lst t x b,v,h,hv=>by
  simp only[bJ]at hv ⊢;exact⟨⟨fun e=>let⟨cs,h1,h2⟩:=hv.1.1 e;⟨cs,h1,eY.mono h.free (.list t) x _ h2⟩,fun e=>eY.mono h.free (.list t) x _ (hv.1.2 e)⟩,hv.2⟩
 |.nilp,_,_,hv=>by assumption
 |.nilfn,_,_,hv=>by assumption
 |.tup l,v,h,hv=>by simp only[bJ]at hv ⊢;obtain⟨vs,h1,h2⟩:=hv;exact⟨vs,h1,bF.keeps l _ (by simpa [refs] using h) h2⟩
 |.agg l,v,h,hv=>by simp only[bJ]at hv ⊢;obtain⟨vs,h1,h2,h3⟩:=hv;exact⟨vs,h1,bF.keeps l _ (by simpa [refs] using h) h2,h3⟩
 |.cellp t x,v,h,hv=>by
  simp only[bJ]at hv ⊢;obtain⟨b,o,zs,h1,h2,h3,h4⟩:=hv;exact⟨b,o,zs,h1,(h.free b h2).1,h3.of_block (h.free b h2).2,eY.mono h.free t x _ h4⟩
 |.ptr id off,v,h,hv=>by
  simp only[bJ]at hv ⊢;obtain⟨hone,hv⟩:=hv;refine⟨hone,h.ref id (by simp[refs]) hv.1,fun t cs hc=> ?_⟩;obtain⟨o,h1,h2⟩:=h.obj id (by simp[refs]) _ hc;cases o<;>simp only[dD.like]at h2;simp_all
 |.slf id,v,h,hv=>by
  simp only[bJ]at hv ⊢;obtain⟨hone,hv⟩:=hv;refine⟨hone,h.ref id (by simp[refs]) hv.1,fun t cs hc=> ?_⟩;obtain⟨o,h1,h2⟩:=h.obj id (by simp[refs]) _ hc;cases o<;>simp only[dD.like]at h2;simp_all
 |.sd id ver,v,h,hv=>by
  simp only[bJ]at hv ⊢;obtain⟨hone,hv⟩:=hv;refine⟨hone,h.ref id (by simp[refs]) hv.1,fun t u xs hc=> ?_⟩;obtain⟨o,h1,h2⟩:=h.obj id (by simp[refs]) _ hc;cases o with
  |arr t' v' xs'=>
   grind [dD.like]
  |box _ _=>simp[dD.like]at h2
  |lp _ _ _ _ _ _ _ _=>simp[dD.like]at h2
  |dead=>simp[dD.like]at h2
  |mp _ _ _=>simp[dD.like]at h2
 |.slc id ver vw,v,h,hv=>by
  simp only[bJ]at hv ⊢;obtain⟨hone,hv⟩:=hv;refine⟨hone,h.ref id (by simp[refs]) hv.1,fun t u xs hc=> ?_⟩;obtain⟨o,h1,h2⟩:=h.obj id (by simp[refs]) _ hc;cases o with
  |arr t' v' xs'=>
   grind [dD.like]
  |box _ _=>simp[dD.like]at h2
  |lp _ _ _ _ _ _ _ _=>simp[dD.like]at h2
  |dead=>simp[dD.like]at h2
  |mp _ _ _=>simp[dD.like]at h2
 |.ep id ver i off,v,h,hv=>by
  simp only[bJ]at hv ⊢;obtain⟨hone,hv⟩:=hv;refine⟨hone,h.ref id (by simp[refs]) hv.1,fun t u xs hc=> ?_⟩;obtain⟨o,h1,h2⟩:=h.obj id (by simp[refs]) _ hc;cases o with
  |arr t' v' xs'=>
   grind [dD.like]
  |box _ _=>simp[dD.like]at h2
  |lp _ _ _ _ _ _ _ _=>simp[dD.like]at h2
  |dead=>simp[dD.like]at h2
  |mp _ _ _=>simp[dD.like]at h2
 |.fn f l,v,h,hv=>by simp only[bJ]at hv ⊢;obtain⟨vs,h1,h2⟩:=hv;exact⟨vs,h1,bF.keeps l _ (by simpa [refs] using h) h2⟩
 |.mfn f l,v,h,hv=>by simp only[bJ]at hv ⊢;obtain⟨vs,h1,h2⟩:=hv;exact⟨vs,h1,bF.keeps l _ (by simpa [refs] using h) h2⟩
 |.mpv id,v,h,hv=>by
  simp only[bJ]at hv ⊢;obtain⟨hone,hv⟩:=hv;refine⟨hone,h.ref id (by simp[refs]) hv.1,fun kk vk es hc=> ?_⟩;obtain⟨o,h1,h2⟩:=h.obj id (by simp[refs]) _ hc;cases o<;>simp only[dD.like]at h2;simp_all
 |.yld id,v,h,hv=>by
  simp only[bJ]at hv ⊢;obtain⟨hone,hv⟩:=hv;refine⟨hone,h.ref id (by simp[refs]) hv.1,fun f fr ps iY bd ky n p hc=> ?_⟩;obtain⟨o,h1,h2⟩:=h.obj id (by simp[refs]) _ hc;cases o<;>simp only[dD.like]at h2;simp_all
theorem bF.keeps {c c':Cx}: ∀(l:List bG) (xs:List Value),c.Keeps c' (lw l)->bF c l xs->bF c' l xs
 |[],[],_,_=>by simp[bF]
 |v::l,x::xs,h,hv=>by
  simp only[lw]at h;simp only[bF]at hv ⊢;exact⟨bJ.keeps v x h.left hv.1,bF.keeps l xs h.right hv.2⟩
 |[],_::_,_,hv=>by simp[bF]at hv
 |_::_,[],_,hv=>by simp[bF]at hv
end
theorem Cc.keeps {c c':Cx}: ∀(fs:List (List bG)) (ts:List (Array Value)),c.Keeps c' (rC fs)->Cc c fs ts->Cc c' fs ts
 |[],[],_,_=>trivial
 |f::fs,t::ts,h,hh=>by
  simp only[rC]at h;exact⟨bF.keeps _ _ h.left hh.1,Cc.keeps fs ts h.right hh.2⟩
 |[],_::_,_,hh=>hh.elim
 |_::_,[],_,hh=>hh.elim
theorem jO (p:Nat->Bool): ∀(h:gz) (i:Nat),dH (h.filter fun e=>p e.1) i=if p i=true then dH h i else none
 |[],i=>by simp[dH]
 |(k,o)::h,i=>by
  rw[List.filter_cons];by_cases hk:p k=true
  ·simp only[hk,if_true,dV,jO p h i]
   grind
  ·rw[if_neg hk,jO p h i,dV]
   grind
theorem wG: ∀(h:gz) (i:Nat) (o:dD),dH h i=some o->(i,o)∈h
 |[],i,o,hh=>by simp[dH]at hh
 |(k,o')::h,i,o,hh=>by
  rw[dV]at hh;split at hh
  ·simp_all
  ·exact aj _ (wG h i o hh)
theorem zZ: ∀(h:gz) (e:Nat×dD),e∈h-> ∀i∈e.2.refs,i∈wQ h
 |[],e,he,i,hi=>by simp at he
 |(k,o)::h,e,he,i,hi=>by
  simp only[wQ,List.mem_append];rcases List.mem_cons.1 he with e1|e1
  ·simp_all
  ·right;exact zZ h e e1 i hi
theorem tV {d l:List Nat} (h:DV d l=true): ∀i∈l,i∉d:=by
 intro i hi hd;have:=List.all_eq_true.1 h i hi;simp only[aW,Xt]at this;have h2:d.any (Nat.beq i)=true:=List.any_eq_true.2 ⟨i,hd,by simp⟩;simp_all
theorem Cx.keeps_filter {c:Cx} {p:Nat->Bool} {l:List Nat} (hno: ∀i∈l,i∉((c.hp.filter fun e=> !p e.1).map (·.1))):c.Keeps {c with hp:=c.hp.filter fun e=>p e.1} l:=by
 refine⟨fun b hb=>⟨⟨hb.1, ?_,hb.2.2⟩,rfl⟩,fun i hi hk=> ?_,fun i hi o' ho=> ?_⟩
 ·rintro ⟨i,o,h1,h2⟩;rw[jO]at h1;split at h1
  ·exact hb.2.1 ⟨i,o,h1,h2⟩
  ·cases h1
 ·rcases hk with ⟨o,ho⟩|hk
  ·left;refine⟨o, ?_⟩;rw[jO];split
   ·exact ho
   ·rename_i hp
    exfalso;refine hno i hi (List.mem_map.2 ⟨(i,o),List.mem_filter.2 ⟨wG _ _ _ ho,by simp[hp]⟩,rfl⟩)
  ·exact .inr hk
 ·rw[jO]at ho;split at ho
  ·exact⟨o',ho,o'.like_refl _⟩
  ·cases ho
section
variable {P:Program} {T:TT} {W0:World} {b0 n:Nat} {rd:Option Nat} {c:Cx} {R:Type} {r:R} {st:St} {a:Act} {ats:List (Array Value)}
theorem Q3 (c:Cx) (p:Nat->Bool): ∀b,c.out b->({c with hp:=c.hp.filter fun e=>p e.1}:Cx).out b/\({c with hp:=c.hp.filter fun e=>p e.1}:Cx).w.heap[b]? =c.w.heap[b]? :=fun b hb=>⟨⟨hb.1,(by
 rintro ⟨i,o,h1,h2⟩;simp only at h1 h2;rw[jO]at h1;split at h1
 ·exact hb.2.1 ⟨i,o,h1,h2⟩
 ·cases h1),hb.2.2⟩,rfl⟩
theorem Cx.Ok.filter (hc:c.Ok W0) {p:Nat->Bool} (hk:c.Keeps {c with hp:=c.hp.filter fun e=>p e.1} (wQ (c.hp.filter fun e=>p e.1))):({c with hp:=c.hp.filter fun e=>p e.1}:Cx).Ok W0:=by
 have sub: ∀i o,dH (c.hp.filter fun e=>p e.1) i=some o->dH c.hp i=some o:=fun i o h=>by
  simp_all [jO]
 refine⟨hc.bel,fun i o ho=> ?_,fun i j o q b h1 h2=>hc.inj i j o q b (sub i o h1) (sub j q h2),hc.mks,fun b hb=>⟨(hc.bar b hb).1,(fun⟨i,o,h1,h2⟩=>(hc.bar b hb).2.1 ⟨i,o,sub i o h1,h2⟩),(hc.bar b hb).2.2⟩,hc.phi⟩;have h0:=hc.obj i o (sub i o ho);have hm:=wG _ _ _ ho;cases o with
 |box e cs=>
  obtain⟨h1,vs,h2,h3,h4⟩:=h0;exact⟨h1,vs,h2,bF.keeps _ _ (hk.sub fun j hj=>zZ _ _ hm j hj) h3,h4⟩
 |arr t ver xs=>
  obtain⟨h0,e,zs,h1,h2,h3⟩:=h0;exact⟨h0,e,zs,h1,fQ.mono (eY.mono hk.free t) _ _ h2,h3⟩
 |lp f fr ps iY bd ky n p=>
  obtain⟨h0,h1,L,h2,h3,h4⟩:=h0;exact⟨h0,h1,L,h2,bF.keeps _ _ (hk.sub fun j hj=>zZ _ _ hm j hj) h3,h4⟩
 |dead=>trivial
 |mp kk vk es=>exact h0
theorem iO.gc (hr:iO W0 b0 rd c st a ats) {mark:Nat} {v:bG} {u:Value} (hv:bJ c v u) {st':St} (h:gc mark v st=some st'):
  ∃c',iO W0 b0 rd c' st' a ats/\bJ c' v u/\c.Mono c'/\c'.w=c.w/\st'.stk=st.stk/\st'.fr=st.fr:=by
 obtain⟨fr,stk,hp,nxt⟩:=st;simp only[Go.Proofs.YtfmikaahgehndaaGreatDoor.gc]at h;rw[cond_eq_ite]at h;split at h
 ·rename_i hno
  cases h;have hhp:=hr.hp;simp only at hhp;subst hhp;have key: ∀p:Nat->Bool,DV ((c.hp.filter fun e=> !p e.1).map (·.1)) (refs v++lw fr++rC stk++wQ (c.hp.filter fun e=>p e.1))=true->
    ∃c',iO W0 b0 rd c' ⟨fr,stk,c.hp.filter fun e=>p e.1,nxt⟩ a ats/\bJ c' v u/\c.Mono c'/\c'.w=c.w/\stk=stk/\fr=fr:=fun p hno=>by
   have hno':=tV hno;have hk:=Cx.keeps_filter (c:=c) (p:=p) hno';exact⟨{c with hp:=c.hp.filter fun e=>p e.1},⟨rfl,hr.nxt,hr.ok.filter (p:=p) hk.right,bF.keeps _ _ hk.left.left.right hr.fr,Cc.keeps _ _ hk.left.right hr.stk,hr.df,hr.rd⟩,bJ.keeps _ _ hk.left.left.left hv,⟨fun _ h=>h,fun b L h=>⟨L,h⟩,ae _,rfl,Q3 c p⟩,rfl,rfl,rfl⟩
  exact key (fun i=>Nat.blt i mark||Xt (apZ (c.hp.filter fun e=> !Nat.blt e.1 mark) 3 (refs v++lw fr++rC stk++wQ (c.hp.filter fun e=>Nat.blt e.1 mark))) i) hno
 ·cases h
theorem aaP (f:dD->dD): ∀(h:gz) (i:Nat),dH (h.map fun e=>(e.1,f e.2)) i=(dH h i).map f
 |[],i=>rfl
 |(k,o)::h,i=>by
  simp only[ax,dV,aaP f h i];split<;>rfl
def Cx.anew (c:Cx):Cx:={c with hp:=c.hp.map fun e=>(e.1,e.2.anew c.hp)}
theorem dD.anew_blk (h:gz) (o:dD) (l:Loc):(o.anew h).blk l=o.blk l:=by cases o<;>rfl
theorem Cx.anew_get (c:Cx) (i:Nat):dH c.anew.hp i=(dH c.hp i).map (dD.anew c.hp):=aaP _ _ _
theorem Cx.anew_free (c:Cx): ∀b,c.free b->c.anew.free b/\c.anew.w.heap[b]? =c.w.heap[b]? :=fun b hb=>⟨⟨hb.1,by
 rintro ⟨i,o,h1,h2⟩;rw[Cx.anew_get]at h1;obtain⟨o',h3,rfl⟩:=Option.map_eq_some_iff.1 h1;rw[dD.anew_blk]at h2;exact hb.2.1 ⟨i,o',h3,h2⟩,hb.2.2⟩,rfl⟩
theorem Cx.anew_out (c:Cx): ∀b,c.out b->c.anew.out b/\c.anew.w.heap[b]? =c.w.heap[b]? :=fun b hb=>⟨⟨hb.1,(by
 rintro ⟨i,o,h1,h2⟩;rw[Cx.anew_get]at h1;obtain⟨o',h3,rfl⟩:=Option.map_eq_some_iff.1 h1;rw[dD.anew_blk]at h2;exact hb.2.1 ⟨i,o',h3,h2⟩),hb.2.2⟩,rfl⟩
theorem Cx.anew_known (c:Cx) {i:Nat} (h:c.known i):c.anew.known i:=by
 rcases h with ⟨o,ho⟩|h
 ·exact .inl ⟨_,by rw[Cx.anew_get,ho];rfl⟩
 ·exact .inr h
theorem Dt {h:gz} {id ver:Nat} (hf:Qh h id ver=true): ∃t xs,dH h id=some (.arr t ver xs):=by
 simp only[Qh,axb]at hf
 grind
mutual
theorem bJ.anew {c:Cx}: ∀(v:bG) (x:Value),bJ c v x->bJ c.anew (Go.Proofs.YtfmikaahgehndaaGreatDoor.anew c.hp v) x
 |.undef,_,_=>by simp[bJ,Go.Proofs.YtfmikaahgehndaaGreatDoor.anew]
 |.val t x,v,hv=>by
  simp only[bJ,Go.Proofs.YtfmikaahgehndaaGreatDoor.anew]at hv ⊢;exact⟨fun e=>let⟨cs,h1,h2⟩:=hv.1 e;⟨cs,h1,eY.mono c.anew_free t x _ h2⟩,fun e=>eY.mono c.anew_free t x _ (hv.2 e)⟩
 |.nils,_,hv=>by simpa only[bJ,Go.Proofs.YtfmikaahgehndaaGreatDoor.anew] using hv
 |.emp,_,hv=>by simpa only[bJ,Go.Proofs.YtfmikaahgehndaaGreatDoor.anew] using hv
 |.lst t x b,v,hv=>by
  simp only[bJ,Go.Proofs.YtfmikaahgehndaaGreatDoor.anew]at hv ⊢;exact⟨⟨fun e=>let⟨cs,h1,h2⟩:=hv.1.1 e;⟨cs,h1,eY.mono c.anew_free (.list t) x _ h2⟩,fun e=>eY.mono c.anew_free (.list t) x _ (hv.1.2 e)⟩,hv.2⟩
 |.nilp,_,hv=>by simpa only[bJ,Go.Proofs.YtfmikaahgehndaaGreatDoor.anew] using hv
 |.nilfn,_,hv=>by simpa only[bJ,Go.Proofs.YtfmikaahgehndaaGreatDoor.anew] using hv
 |.tup l,v,hv=>by simp only[bJ,Go.Proofs.YtfmikaahgehndaaGreatDoor.anew]at hv ⊢;obtain⟨vs,h1,h2⟩:=hv;exact⟨vs,h1,bF.anew l _ h2⟩
 |.agg l,v,hv=>by simp only[bJ,Go.Proofs.YtfmikaahgehndaaGreatDoor.anew]at hv ⊢;obtain⟨vs,h1,h2,h3⟩:=hv;exact⟨vs,h1,bF.anew l _ h2,h3⟩
 |.cellp t x,v,hv=>by
  simp only[bJ,Go.Proofs.YtfmikaahgehndaaGreatDoor.anew]at hv ⊢;obtain⟨b,o,zs,h1,h2,h3,h4⟩:=hv;exact⟨b,o,zs,h1,(c.anew_free b h2).1,h3.of_block (c.anew_free b h2).2,eY.mono c.anew_free t x _ h4⟩
 |.ptr id off,v,hv=>by
  simp only[bJ,Go.Proofs.YtfmikaahgehndaaGreatDoor.anew]at hv ⊢;obtain⟨hone,hv⟩:=hv;refine⟨hone,c.anew_known hv.1,fun t cs hc=> ?_⟩;rw[Cx.anew_get]at hc;obtain⟨o,h1,h2⟩:=Option.map_eq_some_iff.1 hc;cases o<;>simp only[dD.anew,reduceCtorEq]at h2;exact hv.2 _ _ h1
 |.slf id,v,hv=>by
  simp only[bJ,Go.Proofs.YtfmikaahgehndaaGreatDoor.anew]at hv ⊢;obtain⟨hone,hv⟩:=hv;refine⟨hone,c.anew_known hv.1,fun t cs hc=> ?_⟩;rw[Cx.anew_get]at hc;obtain⟨o,h1,h2⟩:=Option.map_eq_some_iff.1 hc;cases o<;>simp only[dD.anew,reduceCtorEq]at h2;exact hv.2 _ _ h1
 |.sd id ver,v,hv=>by
  simp only[bJ,Go.Proofs.YtfmikaahgehndaaGreatDoor.anew]at hv ⊢;rw[cond_eq_ite];split
  ·rename_i hf
   obtain⟨t0,xs0,h0⟩:=Dt hf;simp only[bJ];obtain⟨hone,hv⟩:=hv;refine⟨hone,c.anew_known hv.1,fun t u xs hc=>⟨Nat.zero_le _,fun hu=> ?_⟩⟩;exact(hv.2 _ _ _ h0).2 rfl
  ·simp[bJ]
 |.slc id ver vw,v,hv=>by
  simp only[bJ,Go.Proofs.YtfmikaahgehndaaGreatDoor.anew]at hv ⊢;rw[cond_eq_ite];split
  ·rename_i hf
   obtain⟨t0,xs0,h0⟩:=Dt hf;simp only[bJ];obtain⟨hone,hv⟩:=hv;refine⟨hone,c.anew_known hv.1,fun t u xs hc=>⟨Nat.zero_le _,fun hu=> ?_⟩⟩;rw[Cx.anew_get,h0]at hc;simp only[Option.map_some,dD.anew,Option.some.injEq,dD.arr.injEq]at hc;obtain⟨e1,_,_⟩:=hc;rw[<-e1];exact(hv.2 _ _ _ h0).2 rfl
  ·simp[bJ]
 |.ep id ver i off,v,hv=>by
  simp only[bJ,Go.Proofs.YtfmikaahgehndaaGreatDoor.anew]at hv ⊢;rw[cond_eq_ite];split
  ·rename_i hf
   obtain⟨t0,xs0,h0⟩:=Dt hf;simp only[bJ];obtain⟨hone,hv⟩:=hv;refine⟨hone,c.anew_known hv.1,fun t u xs hc=>⟨Nat.zero_le _,fun hu=> ?_⟩⟩;rw[Cx.anew_get,h0]at hc;simp only[Option.map_some,dD.anew,Option.some.injEq,dD.arr.injEq]at hc;obtain⟨e1,_,_⟩:=hc;rw[<-e1];exact(hv.2 _ _ _ h0).2 rfl
  ·simp[bJ]
 |.fn f l,v,hv=>by simp only[bJ,Go.Proofs.YtfmikaahgehndaaGreatDoor.anew]at hv ⊢;obtain⟨vs,h1,h2⟩:=hv;exact⟨vs,h1,bF.anew l _ h2⟩
 |.mfn f l,v,hv=>by simp only[bJ,Go.Proofs.YtfmikaahgehndaaGreatDoor.anew]at hv ⊢;obtain⟨vs,h1,h2⟩:=hv;exact⟨vs,h1,bF.anew l _ h2⟩
 |.mpv id,v,hv=>by
  simp only[bJ,Go.Proofs.YtfmikaahgehndaaGreatDoor.anew]at hv ⊢;obtain⟨hone,hv⟩:=hv;refine⟨hone,c.anew_known hv.1,fun kk vk es hc=> ?_⟩;rw[Cx.anew_get]at hc;obtain⟨o,h1,h2⟩:=Option.map_eq_some_iff.1 hc;cases o<;>simp only[dD.anew,reduceCtorEq]at h2;exact hv.2 _ _ _ h1
 |.yld id,v,hv=>by
  simp only[bJ,Go.Proofs.YtfmikaahgehndaaGreatDoor.anew]at hv ⊢;obtain⟨hone,hv⟩:=hv;refine⟨hone,c.anew_known hv.1,fun f fr ps iY bd ky n p hc=> ?_⟩;rw[Cx.anew_get]at hc;obtain⟨o,h1,h2⟩:=Option.map_eq_some_iff.1 hc;cases o<;>simp only[dD.anew,reduceCtorEq]at h2;exact hv.2 _ _ _ _ _ _ _ _ h1
theorem bF.anew {c:Cx}: ∀(l:List bG) (xs:List Value),bF c l xs->bF c.anew (zt c.hp l) xs
 |[],[],_=>by simp[bF,zt]
 |v::l,x::xs,hv=>by
  simp only[bF,zt]at hv ⊢;exact⟨bJ.anew v x hv.1,bF.anew l xs hv.2⟩
 |[],_::_,hv=>by simp[bF]at hv
 |_::_,[],hv=>by simp[bF]at hv
end
theorem Cc.anew {c:Cx}: ∀(fs:List (List bG)) (ts:List (Array Value)),Cc c fs ts->Cc c.anew (fs.map (zt c.hp)) ts
 |[],[],_=>trivial
 |f::fs,t::ts,hh=>⟨bF.anew _ _ hh.1,Cc.anew fs ts hh.2⟩
 |[],_::_,hh=>hh.elim
 |_::_,[],hh=>hh.elim
theorem iO.anew (hr:iO W0 b0 rd c st a ats): ∃c',iO W0 b0 rd c' (VY st) a ats/\c.Mono c'/\c'.w=c.w:=by
 obtain⟨fr,stk,hp,nxt⟩:=st;have hhp:=hr.hp;simp only at hhp;subst hhp;refine⟨c.anew,⟨rfl,hr.nxt,⟨hr.ok.bel,fun i o ho=> ?_,fun i j o q b h1 h2 h3 h4=> ?_,hr.ok.mks,fun b hb=>(Cx.anew_out c b (hr.ok.bar b hb)).1,hr.ok.phi⟩,bF.anew _ _ hr.fr,Cc.anew _ _ hr.stk,hr.df,hr.rd⟩,⟨fun _ h=>h,fun b L h=>⟨L,h⟩,ae _,rfl,Cx.anew_out c⟩,rfl⟩
 ·rw[Cx.anew_get]at ho;obtain⟨o',h1,rfl⟩:=Option.map_eq_some_iff.1 ho;have h0:=hr.ok.obj i o' h1;cases o' with
  |box e cs=>
   obtain⟨h1,vs,h2,h3,h4⟩:=h0;exact⟨h1,vs,h2,bF.anew _ _ h3,h4⟩
  |arr t ver xs=>
   obtain⟨h0,e,zs,h1,h2,h3⟩:=h0;exact⟨h0,e,zs,h1,fQ.mono (eY.mono c.anew_free t) _ _ h2,h3⟩
  |lp f fr ps iY bd ky n p=>
   obtain⟨h0,h1,L,h2,h3,h4⟩:=h0;exact⟨h0,h1,L,h2,bF.anew _ _ h3,h4⟩
  |dead=>trivial
  |mp kk vk es=>exact h0
 ·rw[Cx.anew_get]at h1 h2;obtain⟨o1,h5,rfl⟩:=Option.map_eq_some_iff.1 h1;obtain⟨q1,h6,rfl⟩:=Option.map_eq_some_iff.1 h2;rw[dD.anew_blk]at h3 h4;exact hr.ok.inj i j o1 q1 b h5 h6 h3 h4
theorem zS {l:List Nat}: ∀(i:Nat) (fr:List bG) (xs:List Value),bF c fr xs->bF c (Gs l i fr) xs
 |i,[],[],_=>by simp[bF,Gs]
 |i,v::fr,x::xs,h=>by
  simp only[bF,Gs]at h ⊢;refine⟨?_,zS (i+1) fr xs h.2⟩;rw[cond_eq_ite]
  grind [bJ]
 |i,[],_::_,h=>by simp[bF]at h
 |i,_::_,[],h=>by simp[bF]at h
end
end
end Go.Proofs.YtfmikaahgehndaaGreatDoor
