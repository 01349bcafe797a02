/- Parts of the proof, joined and shortened by a program: the plain machine, the functions as it prints them, and the mathematics over them. -/
import Derived.Test.YtlhpdcadgbjhiaaGreatDoorProg
import Derived.KernelRfl
import Derived.Below
import Derived.WalkKit
import Derived.Lib.Walk
import Derived.Lib.SliceRun
import Derived.Lib.AppendZerosOnto
import Derived.Lib.Overlaps
import Derived.Laws.CopyRow
import Derived.Laws.NewBlocks
import Derived.Shelf.RegionOpenPlain
import Derived.Shelf.SlLaysF0
import Derived.Shelf.SlSortCmp.WholeK
import Derived.Sort.LotA
import Derived.ChangeArms
import Derived.WideShapes
import Derived.Shelf.Strings.Builder1
import Derived.Ground.NamesProg
import Derived.Shelf.Strings.Replace
import Derived.Test.YtlhpdcadgbjhiaaGreatDoorY2
set_option linter.unusedVariables false
set_option linter.unusedSimpArgs false
set_option maxRecDepth 100000
set_option maxHeartbeats 4000000
namespace Go.Proofs.YtlhpdcadgbjhiaaGreatDoor
section
open Option renaming some → a6, none → a7
open List renaming mem_cons_of_mem → ak, mem_cons_self → aF
open Nat renaming eq_of_beq_eq_true → aj
open Go.RowKit
def av2:List (FuncId×Sum)->FuncId->Option Sum
 |[],_=>a7
 |e::l,g=>bif Nat.beq g e.1 then a6 e.2 else av2 l g
theorem abJ {P:Program}: ∀(l:List (FuncId×Sum)),(∀e∈l,dU P e.1 e.2)-> ∀g s,av2 l g=a6 s->dU P g s
 |[],_,g,s,h=>by cases h
 |e::l,hl,g,s,h=>by
  simp only[av2]at h;rw[cond_eq_ite]at h;split at h
  .simp_all
  .exact abJ l (fun e d=>hl e (ak _ d)) g s h
def aJW (f:FuncId) (l:List (Nat×eQ)) (g:FuncId) (id:Nat):Option eQ:=cond (Nat.beq g f) ((l.find? fun e=>Nat.beq id e.1).map (·.2)) a7
def aEN (f:FuncId) (l:List (Nat×dE)) (g:FuncId) (id:Nat):Option dE:=
 bif Nat.beq g f then(match l.find? fun e=>Nat.beq id e.1 with|some e=>a6 e.2|none=>a7)else a7
theorem ag9 {f g:FuncId} (l:List (Nat×dE)) (h:g≠f) (id:Nat):aEN f l g id=a7:=by
 grind [aj,aEN]
def aHm:FuncId:=123
def GV (g:FuncId):Bool:=Nat.beq g aHm&& !Nat.beq aHm 1000000
def aHr:List (Nat×Nat×Nat):=[(1000000,2,5)]
def DT (t o n:Nat):Bool:=aHr.any fun e=>Nat.blt e.1 900000&&(Nat.beq e.1 t&&(Nat.beq e.2.1 o&&Nat.beq e.2.2 n))
def anX:FuncId:=37
def GX (g:FuncId):Bool:=Nat.beq g anX&& !Nat.beq anX 1000000
def abO:FuncId:=26
def CG:FuncId:=27
def GY (g:FuncId):Bool:=Nat.beq g abO&&(!Nat.beq abO 1000000&& !Nat.beq CG 1000000)
def aoC:List (FuncId×fZ)->FuncId->Option fZ
 |[],_=>a7
 |e::l,g=>bif Nat.beq g e.1 then a6 e.2 else aoC l g
theorem Qn {P:Program}: ∀(l:List (FuncId×fZ)),(∀e∈l,dW P e.1 e.2)-> ∀g s,aoC l g=a6 s->dW P g s
 |[],_,g,s,h=>by cases h
 |e::l,hl,g,s,h=>by
  simp only[aoC]at h;cases hb:Nat.beq g e.1 with
  |true=>
   simp_all
  |false=>
   rw[hb]at h;exact Qn l (fun e d=>hl e (ak _ d)) g s h
def iJ (P:Program) (T:TT) (f:FuncId) (sg:List (FuncId×Sum)) (kp:List (Nat×eQ)) (lp:List (Nat×dE)) (sb:List (FuncId×fZ):=[]):Env:=
 {P:=P,T:=T,cl:=false,kp:=aJW f kp,sg:=av2 sg,lp:=aEN f lp,bf:=GV,em:=DT,il:=GX,sl:=GY,sc:=CG,sb:=aoC sb}
theorem ar7 {P:Program} {T:TT} (hT:TOk P T) (d:P.follows .mixedOrders=true) (h:Jf P) {f:FuncId} {sg:List (FuncId×Sum)} {kp:List (Nat×eQ)} {lp:List (Nat×dE)} {sb:List (FuncId×fZ)}
  (i: ∀e∈sg,dU P e.1 e.2) {fn:Func} {c:Code} (hf:P.funcs[f]? =a6 fn) (hb:fn.body=a6 c) (hl:dM (iJ P T f sg kp lp sb) f c) (j: ∀E,sQ P E->afJ E) (l: ∀g,(GV g=true->xN P DT g)/\(GX g=true->Je P g)/\(GY g=true->Jh P g CG)) (hx: ∀e∈sb,dW P e.1 e.2:=by simp):eu (iJ P T f sg kp lp sb):=by
 have hL:sQ P (iJ P T f sg kp lp sb):= ?_;exact⟨hT,d,h,abJ sg i,hL,j _ hL,l,Qn sb hx⟩;intro g p o q s;by_cases e:g=f
 .simp_all
 .exact iZ (fun id=>ag9 lp e id) (fun _=>rfl) o
def aHT (l:List (FuncId×Nat×eQ)) (g:FuncId) (id:Nat):Option eQ:=match l.find? fun e=>Nat.beq g e.1&&Nat.beq id e.2.1 with
 |some e=>a6 e.2.2
 |none=>a7
def ajO:List (FuncId×Nat×dE)->FuncId->Nat->Option dE
 |[],_,_=>a7
 |e::l,g,id=>bif Nat.beq g e.1&&Nat.beq id e.2.1 then a6 e.2.2 else ajO l g id
theorem TN: ∀(l:List (FuncId×Nat×dE)) (g:FuncId),(∀e∈l,e.1≠g)-> ∀id,ajO l g id=a7
 |[],g,_,id=>rfl
 |e::l,g,h,id=>by
  have d:Nat.beq g e.1=false:=by
   grind [aj]
  simp only[ajO,d,Bool.false_and,ac];exact TN l g (fun e f=>h e (ak _ f)) id
def gB (P:Program) (T:TT) (sg:List (FuncId×Sum)) (kp:List (FuncId×Nat×eQ)) (lp:List (FuncId×Nat×dE)) (rf:List FuncId) (sb:List (FuncId×fZ):=[]):Env:=
 {P:=P,T:=T,cl:=false,kp:=aHT kp,sg:=av2 sg,lp:=ajO lp,rf:=fun g _=>rf.any fun x=>Nat.beq g x,bf:=GV,em:=DT,il:=GX,sl:=GY,sc:=CG,sb:=aoC sb}
theorem anE {P:Program} {T:TT} (hT:TOk P T) (f:P.follows .mixedOrders=true) (h:Jf P) {sg:List (FuncId×Sum)} {kp:List (FuncId×Nat×eQ)} {lp:List (FuncId×Nat×dE)}
  {rf:List FuncId} {sb:List (FuncId×fZ)} (i: ∀e∈sg,dU P e.1 e.2) (d:List FuncId) (p:(lp.all fun e=>d.any fun g=>Nat.beq e.1 g)=true) (q:(rf.all fun e=>d.any fun g=>Nat.beq e g)=true) (hl: ∀g∈d,∃fn c,P.funcs[g]? =a6 fn/\fn.body=a6 c/\dM (gB P T sg kp lp rf sb) g c)
  (j: ∀E,sQ P E->afJ E) (l: ∀g,(GV g=true->xN P DT g)/\(GX g=true->Je P g)/\(GY g=true->Jh P g CG)) (hx: ∀e∈sb,dW P e.1 e.2:=by simp):eu (gB P T sg kp lp rf sb):=by
 have hL:sQ P (gB P T sg kp lp rf sb):= ?_;exact⟨hT,f,h,abJ sg i,hL,j _ hL,l,Qn sb hx⟩;intro g s o u v;by_cases e:g∈d
 .grind
 .refine iZ (fun id=>TN lp g (fun x hx y=>e ?_) id) (fun _=> ?_) o
  .grind [aj]
  .cases hr:rf.any fun x=>Nat.beq g x with
   |false=>exact hr
   |true=>
    simp_all
def bT {d:Type} (a b:List d):List d:=a++b
def dC (i:Int):Nat:=i.toNat
def dJ {e:Type} (l:List e) (d:e) (i:Nat):e:=l.getD i d
def takeN {d:Type} (l:List d) (n:Nat):List d:=l.take n
def aoz {d:Type} (n:Nat) (x:d):List d:=List.replicate n x
def iH (a b:List UInt8):Bool:=decide (a.length+b.length<=kH)
def lZ {d:Type} (i:Nat) (l:List d):Bool:=PG i l.length
def ER (k:IntKind) (n:Int):Int:=k.wrap n
def ak8 (c:Int) (n:Nat):Bool:=decide (c.toNat*n<=kH)
def jv (a b:Bool):Bool:=a==b
def mr (t:Ty) (x y:List t.den):Bool:=wQ (Yu t) x y
def ibW (s:List UInt8) (c:Int):Int:=Lib.indexByte s c.toNat.toUInt8
def amG (a b:List UInt8):Int:=Lib.compareBytes a b
def cA:Code->Code
 |.seq a _=>a
 |.block _ c=>c
 |.loop c=>c
 |.scope c=>c
 |.cond _ a _=>a
 |.rangeFunc _ _ a _=>a
 |c=>c
def cB:Code->Code
 |.seq _ b=>b
 |.cond _ _ b=>b
 |.rangeFunc _ _ _ b=>b
 |c=>c
def jJ:Code->List Code
 |.seq a b=>jJ a++jJ b
 |.cond _ a b=>jJ a++jJ b
 |.block _ c=>jJ c
 |.scope c=>jJ c
 |.loop c=>jJ c++[c]
 |.rangeFunc _ _ a b=>jJ a++jJ b
 |_=>[]
def jP:Code->List (Code×Code)
 |.seq a b=>jP a++jP b
 |.cond _ a b=>jP a++jP b
 |.block _ c=>jP c
 |.scope c=>jP c
 |.loop c=>jP c
 |.rangeFunc _ _ a b=>(a,b)::(jP a++jP b)
 |_=>[]
def qw:Code->List Code
 |.seq a b=>qw a++(b::qw b)
 |.cond _ a b=>qw a++qw b
 |.block _ c=>qw c
 |.scope c=>qw c
 |.loop c=>qw c
 |.rangeFunc _ _ a b=>qw a++qw b
 |_=>[]
def Zf (E:Env) (f:FuncId) (c:Code):Bool:=(qw c).all fun d=>(E.lp f (800000+dH d)).isNone
theorem jT {R:Type} {E:Env} {x:nG R} {e:X0} {f:FuncId}: ∀c:Code,(∀x∈jP c,E.rf f (dH x.2)=true->rH f (dH x.2)=a6 x)->(∀d∈jJ c,∀L,E.lp f (dH d)=a6 L->L.dep.ble E.dp=true->XX E x e f d L)->
  (∀d∈qw c,∀L,E.lp f (800000+dH d)=a6 L->L.dep.ble E.dp=true->afI E x e f d L)->jq E x e f c
 |.seq a b,g,h,k=>⟨⟨jT a (fun d hd=>g d (List.mem_append.2 (.inl hd))) (fun d hd=>h d (List.mem_append.2 (.inl hd))) fun d hd=>k d (List.mem_append.2 (.inl hd)),k b (List.mem_append.2 (.inr aF))⟩,
   jT b (fun d hd=>g d (List.mem_append.2 (.inr hd))) (fun d hd=>h d (List.mem_append.2 (.inr hd))) fun d hd=>k d (List.mem_append.2 (.inr (ak _ hd)))⟩
 |.cond _ a b,g,h,k=>⟨jT a (fun d hd=>g d (List.mem_append.2 (.inl hd))) (fun d hd=>h d (List.mem_append.2 (.inl hd))) fun d hd=>k d (List.mem_append.2 (.inl hd)),jT b (fun d hd=>g d (List.mem_append.2 (.inr hd))) (fun d hd=>h d (List.mem_append.2 (.inr hd))) fun d hd=>k d (List.mem_append.2 (.inr hd))⟩
 |.block _ c,g,h,k=>jT (E:=E) c g h k
 |.scope c,g,h,k=>jT (E:=E) c g h k
 |.loop c,g,h,k=>⟨jT c g (fun d hd=>h d (List.mem_append.2 (.inl hd))) k,h c (List.mem_append.2 (.inr (List.mem_singleton.2 rfl)))⟩
 |.rangeFunc _ _ a b,g,h,k=>⟨jT a (fun d hd=>g d (ak _ (List.mem_append.2 (.inl hd)))) (fun d hd=>h d (List.mem_append.2 (.inl hd))) fun d hd=>k d (List.mem_append.2 (.inl hd)),
   jT b (fun d hd=>g d (ak _ (List.mem_append.2 (.inr hd)))) (fun d hd=>h d (List.mem_append.2 (.inr hd))) fun d hd=>k d (List.mem_append.2 (.inr hd)),g (a,b) aF⟩
 |.skip,_,_,_|.label _,_,_,_|.region _ _ _,_,_,_|.exit _,_,_,_|.goto _,_,_,_|.ret,_,_,_|.refuse _,_,_,_=>trivial
theorem DX {E:Env} {f:FuncId} (c:Code) (g: ∀x∈jP c,E.rf f (dH x.2)=true->rH f (dH x.2)=a6 x) (h: ∀d∈jJ c,∀L,E.lp f (dH d)=a6 L->dQ E f d L)
  (k: ∀d∈qw c,∀L,E.lp f (800000+dH d)=a6 L->zD E f d L):dM E f c:=fun R m=>
 jT (E:=E.at m) c g (fun d hd L hL i=>by
  have e:=h d hd L hL R (m-L.dep);rw[show m-L.dep+L.dep=m from Nat.sub_add_cancel (Nat.le_of_ble_eq_true (m:=m) i)]at e;exact e) fun d hd L hL i=>by
  have e:=k d hd L hL R (m-L.dep);rw[show m-L.dep+L.dep=m from Nat.sub_add_cancel (Nat.le_of_ble_eq_true (m:=m) i)]at e;exact e
theorem aon {E:Env} {f:FuncId} {c:Code} (h:Zf E f c=true): ∀d∈qw c,∀L,E.lp f (800000+dH d)=a6 L->zD E f d L:=fun d hd L hL=>by
 have:=List.all_eq_true.1 h d hd;simp_all
def MC (E:Env) (f:FuncId) (c:Code):List Code:=(qw c).filter fun d=>(E.lp f (800000+dH d)).isSome
theorem JM {E:Env} {f:FuncId} {c:Code} (h: ∀d∈MC E f c,∀L,E.lp f (800000+dH d)=a6 L->zD E f d L): ∀d∈qw c,∀L,E.lp f (800000+dH d)=a6 L->zD E f d L:=fun d hd L hL=>
 h d (List.mem_filter.2 ⟨hd,by rw[hL];rfl⟩) L hL
theorem uz {E:Env} {f:FuncId} (c:Code) (g: ∀x∈jP c,E.rf f (dH x.2)=true->rH f (dH x.2)=a6 x) (h: ∀d∈jJ c,∀L,E.lp f (dH d)=a6 L->dQ E f d L) (k:Zf E f c=true:=by kernel_rfl):dM E f c:=
 DX c g h (aon k)
theorem ag6 {E:Env} {f:FuncId} (c:Code) (e: ∀id,E.rf f id=false) (h: ∀d∈jJ c,∀L,E.lp f (dH d)=a6 L->dQ E f d L) (k:Zf E f c=true:=by kernel_rfl):dM E f c:=
 uz c (fun x _ g=>by simp_all) h k
theorem cO {d e:Type} (b:Bool) (x y:Option d) (k:d->Option e):bH (bif b then x else y) k=bif b then bH x k else bH y k:=by cases b<;>rfl
theorem cZ {d e:Type} (k:d->Option e):bH a7 k=a7:=rfl
theorem bG {d e:Type} (x:d) (k:d->Option e):bH (a6 x) k=k x:=rfl
theorem bW {d e f:Type} (x:Option d) (k:d->Option e) (l:e->Option f):bH (bH x k) l=bH x fun a=>bH (k a) l:=by cases x<;>rfl
theorem ava {d h e:Type} (a:d) (f:d->e) (g:h->e):dN (.inl a) f g=f a:=rfl
theorem dh {e h d i:Type} (o:e⊕h) (f:e->Option d) (g:h->Option d) (k:d->Option i):bH (dN o f g) k=dN o (fun a=>bH (f a) k) fun b=>bH (g b) k:=by cases o<;>rfl
end
section
open Option renaming some → a6, none → a7
open List renaming append_assoc → ag, map_cons → ax
open Tryz
open Go.RowKit
theorem tC {P:Program} (w:World) (h p ty elem:TypeId) (g o e q:Nat) (a:Addr) (f s:Nat) (d:Array Value) (t:TypeId) (cs:List Value) (size:Nat)
  (u:P.underlying h=a6 (.slice elem)) (l:(P.info? elem).map (·.size)=a6 size)
  (x:w.heap[g]? =a6 (.cells d t (0,0))) (y:cs.length=Nat.min f e*size)
  (z: ∀j v,cs[j]? =a6 v->w.cell? (a.add j)=a6 v) (A:o+cs.length<=d.size) (B: ∀v∈cs,v.oneCell'=true):
  (Builtin.copy_ #[h,p] ty #[.slice (a6 ⟨g,o,a7⟩) e q,.slice (a6 a) f s]).run P w=
   .ok (goInt (Nat.min f e)) (w.setRow g (d.toList.take o++cs++d.toList.drop (o+cs.length)).toArray):=by
 have hl:=run_loadCells_list (P:=P) w a cs z;have D:=run_storeCells_at P g o t cs 0 d w x (by simpa using A) B;cases hq:P.info? elem with
 |none=>simp[hq]at l
 |some i=>
  have E:i.size=size:=by simpa [hq] using l
  rw[y]at hl;simp[Builtin.copy_,run_underlying u,Builtin.lenOf,Builtin.firstCells,sizeOf,typeInfo,hq,E,hl,D]
theorem Hy {P:Program} (w:World) {ops:Array Oper} {e:List Oper} {o:Oper} {a:Act} {Q:Exit->Act->World->Prop} (g:o.guard=a7) (d s:Operand) (t t':TypeId)
  (i:o.op=.call {callee:=.builtin .copy,args:= #[d,s],argTypes:= #[t,t']}) (v u:Value) (hd:a.eval d=v) (j:a.eval s=u) {f:Value} {w':World}
  (hr:(Builtin.copy_ #[t,t'] o.type #[v,u]).run P w=.ok f w') (h:wpList P ops Q e (a.put o.dst f) w'):wpList P ops Q (o::e) a w:=
 wpList_plain g fun _ l=>by
  unfold Oper.wp execOp;simp only[i,resolve,invoke,builtin,Sem.run_bind,Sem.run_pure,Result.andThen_ok,List.map_toArray,ax,List.map_nil,hd,j,hr];exact l _ _ h
theorem Pq {P:Program} {ops:Array Oper} {o:Oper} {a:Act} {w:World} {K:Act->World->Prop} {Q:Exit->Act->World->Prop} {E:Prop}
  (h:o.guard=a7) (d x:Operand) (e f:TypeId) (i:o.op=Op.call {callee:=Callee.builtin Builtin.copy,args:= #[d,x],argTypes:= #[e,f]})
  (v u:Value) (hd:a.eval d=v) (hx:a.eval x=u) {g:Value} {w':World} (hr:(Builtin.copy_ #[e,f] o.type #[v,u]).run P w=.ok g w') (j:K (a.put o.dst g) w'):
  if Region.wanted o (yielded ops a.tmps)=true then Oper.wp P o a w K Q else E:=by
 have l:Region.wanted o (yielded ops a.tmps)=true:=by simp[Region.wanted,h]
 rw[am l];unfold Oper.wp;simp[execOp,i,resolve,invoke,builtin,hd,hx,hr,Result.andThen];exact j
theorem MB:(prog.info? 41).map (·.size)=a6 2:=by kernel_rfl
theorem ayO:(prog.info? 41).map (fun i=>(i.size,i.bytes,i.zero.map (·.cells.size)))=a6 (2,32,a6 2):=by kernel_rfl
theorem atc: ∃d z,prog.info? 41=a6 d/\d.zero=a6 z/\d.size=2/\d.bytes=32/\z.cells.size=2:=by
 have h:=ayO;cases hq:prog.info? 41 with
 |none=>simp[hq]at h
 |some i=>
  simp only[hq,Option.map_some,Option.some.injEq,Prod.mk.injEq,Option.map_eq_some_iff]at h;obtain⟨e,f,z,g,j⟩:=h;exact⟨i,z,rfl,g,e,f,j⟩
theorem aFY (w:World):(Go.sizeOf 41).run prog w=.ok 2 w:=by
 cases hq:prog.info? 41 with
 |none=>have:=MB;simp[hq]at this
 |some i=>have:=MB;simp[hq]at this;simp[sizeOf,typeInfo,hq,this]
theorem ate (g n c i l c2:Nat) (f:Array Value) (o e2:TypeId) (q s:Value) (I:List Value) (w:World) (hi:i<n) (au:n+1<=c) (hc:c<=9223372036854775807) (J:w.heap[g]? =a6 (.cells f o (0,0))) (Y:f.size=c*2)
  (K:w.heap[l]? =a6 (.cells (q::s::I).toArray e2 (0,0))) (Z:g≠l) (af: ∀v∈f.toList.take (n*2),v.oneCell'=true) (h1:q.oneCell'=true) (h2:s.oneCell'=true):
  Calls prog 37 #[.slice (a6 ⟨g,0,a7⟩) n c,.int .i64 (i:Int),.slice (a6 ⟨l,0,a7⟩) 1 c2] w fun e w'=>
   e=.returned (.slice (a6 ⟨g,0,a7⟩) (n+1) c)/\ ∃R:Array Value,w.grownBy w' (a6 g)/\w'.heap[g]? =a6 (.cells R o (0,0))/\R.size=c*2/\
    R.toList.take ((n+1)*2)=(f.toList.take (n*2)).take (i*2)++[q,s]++(f.toList.take (n*2)).drop (i*2):=by
 have av: ¬((1:Int)=0):=by omega
 have aw: ¬((i:Int)=(n:Int)):=by omega
 have ay:IntKind.i64.wrap ((i:Int)+1)=(i:Int)+1:=by rw[IntKind.wrap_i64];omega
 have az:IntKind.i64.wrap ((n:Int)+1)=(n:Int)+1:=by rw[IntKind.wrap_i64];omega
 have aA: ¬((c:Int)<(n:Int)+1):=by omega
 have aB:(0:Int)<=(i:Int)+1:=by omega
 have aF:i<=n:=by omega
 have aG:((i:Int)+1).toNat=i+1:=by omega
 have aH:((n:Int)+1).toNat=n+1:=by omega
 have aI: ¬(c=i+1):=by omega
 have aJ:(i:Int)<=(n:Int)+1:=by omega
 have aK: ¬(c=i):=by omega
 have ah: ∀O S,(callFunc 65 #[.slice (a6 ⟨l,0,a7⟩) 1 c2,.slice (a6 ⟨g,(i+1)*2,a7⟩) O S]).run prog w=.ok (.value (.bool false)) w:=fun O S=>by
  rw[run_callFunc_extern func65 (by kernel_rfl) (by kernel_rfl) (by kernel_rfl) (e:=Extern.SlicesOverlaps.overlaps #[22,22] #[4]) (by kernel_rfl),
   Lib.run_overlaps_apart w 22 4 41 underlying22 2 aFY ⟨l,0,a7⟩ ⟨g,(i+1)*2,a7⟩ 1 c2 O S (fun h=>Z h.symm) e2 o (q::s::I).toArray.size f.size (by simp[World.shape?,K]) (by simp[World.shape?,J]) (by omega) (by simp[World.frozen?,K]) (by simp[World.frozen?,K])]
  rfl
 have z:f.toList.length=c*2:=by simpa using Y
 obtain⟨cs,A⟩: ∃cs,cs=(f.toList.take (n*2)).drop (i*2):=⟨_,rfl⟩;have B:cs.length=(n-i)*2:=by rw[A];simp[z];omega
 obtain⟨d,D⟩: ∃d:Array Value,d=(f.toList.take ((i+1)*2)++cs++f.toList.drop ((i+1)*2+cs.length)).toArray:=⟨_,rfl⟩;have U:d.size=c*2:=by rw[D];simp[z,B];omega
 have ab: ∀u x V,(Builtin.copy_ #[22,22] u #[.slice (a6 ⟨g,(i+1)*2,a7⟩) (n-i) x,.slice (a6 ⟨g,i*2,a7⟩) (n+1-i) V]).run prog w.drew=.ok (goInt (Nat.min (n+1-i) (n-i))) (w.drew.setRow g d):=fun u x V=>by
  rw[D];refine tC w.drew _ _ u 41 g ((i+1)*2) (n-i) x ⟨g,i*2,a7⟩ (n+1-i) V f o cs 2 underlying22 MB J ?_ ?_ ?_ ?_
  .rw[B,show Nat.min (n+1-i) (n-i)=n-i from by simp only[Nat.min_def];split<;>omega]
  .intro j v y;rw[Addr.add_lit,cell_of_row w.drew g (i*2+j) f o (0,0) J];rw[A,List.getElem?_drop,List.getElem?_take]at y;split at y
   .simpa using y
   .cases y
  .rw[B,Y];omega
  .intro v M;exact af v (List.mem_of_mem_drop (A▸M))
 obtain⟨p,N⟩: ∃p:Array Value,p=(d.toList.take (i*2)++[q,s]++d.toList.drop (i*2+2)).toArray:=⟨_,rfl⟩;have ai: ∀W:World,W.heap[g]? =a6 (.cells d o (0,0))->W.heap[l]? =a6 (.cells (q::s::I).toArray e2 (0,0))-> ∀u x,(Builtin.copy_ #[22,22] u #[.slice (a6 ⟨g,i*2,a7⟩) (n+1-i) x,.slice (a6 ⟨l,0,a7⟩) 1 c2]).run prog W=.ok (goInt (Nat.min 1 (n+1-i))) (W.setRow g p):=fun W E aj u x=>by
  rw[N];refine tC W _ _ u 41 g (i*2) (n+1-i) x ⟨l,0,a7⟩ 1 c2 d o [q,s] 2 underlying22 MB E ?_ ?_ ?_ ?_
  .rw[show Nat.min 1 (n+1-i)=1 from by simp only[Nat.min_def];split<;>omega];rfl
  .intro j v y;rw[Addr.add_lit,cell_of_row W l (0+j) _ e2 (0,0) aj,<-y]
   match j with
   |0=>rfl
   |1=>rfl
   |j+2=>simp at y
  .rw[U];simp;omega
  .intro v M;simp at M;rcases M with rfl|rfl<;>assumption
 have X:(w.drew.setRow g d).heap[g]? =a6 (.cells d o (0,0)):=setRow_heap w.drew g f d o _ J;have ad:(w.drew.setRow g d).heap[l]? =a6 (.cells (q::s::I).toArray e2 (0,0)):=(setRow_other w.drew g l d (fun e=>Z e.symm)).trans K;obtain⟨G,E⟩: ∃G,G=w.drew.setRow g d:=⟨_,rfl⟩;rw[<-E]at ab X ad;have ak:p.size=c*2:=by
  have:d.toList.length=c*2:=by simpa using U
  rw[N];simp[this];omega
 have al:p.toList.take ((n+1)*2)=(f.toList.take (n*2)).take (i*2)++[q,s]++(f.toList.take (n*2)).drop (i*2):=by
  have e1:d.toList.take (i*2)=(f.toList.take (n*2)).take (i*2):=by
   rw[D,List.toList_toArray,ag,List.take_append_of_le_length (by simp[z];omega),List.take_take,List.take_take,show min (i*2) ((i+1)*2)=i*2 by omega,show min (i*2) (n*2)=i*2 by omega]
  have e2:d.toList.drop (i*2+2)=cs++f.toList.drop ((i+1)*2+cs.length):=by
   rw[D,List.toList_toArray,ag];exact List.drop_left' (by simp[z];omega)
  rw[N,List.toList_toArray,e1,e2,<-ag,List.take_left' (by simp[z,B];omega),A]
 have an:(G.setRow g p).heap[g]? =a6 (.cells p o (0,0)):=setRow_heap G g d p o _ X;have ao:w.grownBy (G.setRow g p) (a6 g):=by
  rw[E];refine⟨rfl,rfl,rfl,by simp[World.setRow],fun k _ hk=> ?_⟩;have ae:k≠g:=fun e=>hk (by rw[e]);rw[setRow_other _ g k _ ae,setRow_other _ g k _ ae];rfl
 clear E D N A B U z;have mixed:prog.follows .mixedOrders=true:=by kernel_rfl
 go_enter func37,ntmps37
 go_wp2_with (simp only[ah])
 go_region_law_o (refine Pq rfl _ _ 22 22 rfl _ _ (by simp[Act.eval,Act.put]) (by simp[Act.eval,Act.put]) (ab _ _ _) ?_)
 go_wp2_with (at_builtin;refine Hy _ rfl _ _ 22 22 rfl _ _ rfl rfl (ai _ X ad _ _) ?_)
 go_ret
 exact⟨rfl,p,ao,an,ak,al⟩
theorem atd (g n c i q c2:Nat) (d:Array Value) (B e2:TypeId) (y A:Value) (cu:List Value) (w:World) (hi:i<n) (aW:n<=c) (aG:c<n+1) (hn:n<=2199023255552) (hg:w.heap[g]? =a6 (.cells d B (0,0))) (aH:d.size=c*2)
  (ah:w.heap[q]? =a6 (.cells (y::A::cu).toArray e2 (0,0))) (aX:g≠q) (aI: ∀v∈d.toList.take (n*2),v.oneCell'=true) (h1:y.oneCell'=true) (h2:A.oneCell'=true):
  Calls prog 37 #[.slice (a6 ⟨g,0,a7⟩) n c,.int .i64 (i:Int),.slice (a6 ⟨q,0,a7⟩) 1 c2] w fun e w'=>
   ∃(G:Nat) (R:Array Value),e=.returned (.slice (a6 ⟨w.heap.size,0,a7⟩) (n+1) G)/\n+1<=G/\G<=maxLen/\w.grownBy w' a7/\w'.heap[w.heap.size]? =a6 (.cells R 41 (0,0))/\R.size=G*2/\
    R.toList.take ((n+1)*2)=(d.toList.take (n*2)).take (i*2)++[y,A]++(d.toList.take (n*2)).drop (i*2):=by
 have aY: ¬((1:Int)=0):=by omega
 have aZ: ¬((i:Int)=(n:Int)):=by omega
 have bd:IntKind.i64.wrap ((i:Int)+1)=(i:Int)+1:=by rw[IntKind.wrap_i64];omega
 have bf:IntKind.i64.wrap ((n:Int)+1)=(n:Int)+1:=by rw[IntKind.wrap_i64];omega
 have bg:(c:Int)<(n:Int)+1:=by omega
 have bi:(0:Int)<=(i:Int)+1:=by omega
 have bn:i<=n:=by omega
 have bt:((i:Int)+1).toNat=i+1:=by omega
 have bu:(i:Int)<=(n:Int):=by omega
 have bz: ¬(c=i):=by omega
 have ai:(n:Int)+1-(i:Int)=((n+1-i:Nat):Int):=by omega
 have ab:i+(n+1-i)=n+1:=by omega
 have D:d.toList.length=c*2:=by simpa using aH
 obtain⟨cs,K⟩: ∃cs,cs=(d.toList.take (n*2)).drop (i*2):=⟨_,rfl⟩;have M:cs.length=(n-i)*2:=by rw[K];simp[D];omega
 obtain⟨i0,z,aj,ak,al,ad,an⟩:=atc;have ao:(Builtin.firstCells i0.size i (.slice (a6 ⟨g,0,a7⟩) i c)).run prog w.drew=.ok (d.toList.take (i*2)).toArray w.drew:=by
  rw[al];exact run_firstCells_some w.drew 2 i ⟨g,0,a7⟩ i c (d.toList.take (i*2)) (by simp[D];omega) (fun j v o=>by
   rw[Addr.add_lit,cell_of_row w.drew g (0+j) d B (0,0) hg,Nat.zero_add];rw[List.getElem?_take]at o;split at o
   .simpa using o
   .cases o)
 have O: ∀s,(Builtin.append_ #[22,3] s #[.slice (a6 ⟨g,0,a7⟩) i c,.int .i64 ((n:Int)+1-(i:Int))]).run prog w=
   .ok (.slice (a6 ⟨w.heap.size,0,a7⟩) (n+1) (grownCap w (n+1) c 41)) (w.drew.alloc (.cells ((d.toList.take (i*2)).toArray++Builtin.zeroCells z.cells (n+1-i)++Builtin.zeroCells z.cells (grownCap w (n+1) c 41-(n+1))) 41)):=fun s=>by
  have h:=Lib.run_append_grow_zeros w 22 3 s 41 i0 z .i64 .i64 underlying22 underlying3 aj ak (a6 ⟨g,0,a7⟩) i c (d.toList.take (i*2)) ao (n+1-i) (by omega) (by omega) (by omega) (by omega) (by rw[ad];omega) (by rw[ad,ab];exact growslice_fits aG (by omega));rw[ab]at h;rw[ai];exact h
 obtain⟨G,S⟩: ∃G,G=grownCap w (n+1) c 41:=⟨_,rfl⟩;obtain⟨p,U⟩: ∃p:Array Value,p=(d.toList.take (i*2)).toArray++Builtin.zeroCells z.cells (n+1-i)++Builtin.zeroCells z.cells (G-(n+1)):=⟨_,rfl⟩;rw[<-S]at O;rw[<-U]at O;have aJ:n+1<=G:=by rw[S];exact grownCap_ge w _ _ _
 have au:G<=maxLen:=by rw[S];exact grownCap_le_maxLen w (n+1) c 41 (by unfold maxLen;omega)
 have bC:G<=9223372036854775807:=by unfold maxLen at au;omega
 have ae:p.size=G*2:=by
  rw[U];simp[size_zeroCells,an,D];omega
 have av:p.toList.take (i*2)=d.toList.take (i*2):=by
  rw[U,Array.toList_append,Array.toList_append,ag,List.toList_toArray];exact List.take_left' (by simp[D];omega)
 have aw:g<w.heap.size:=(Array.getElem?_eq_some_iff.1 hg).1;have ay:q<w.heap.size:=(Array.getElem?_eq_some_iff.1 ah).1;obtain⟨N,V⟩: ∃N,N=w.heap.size:=⟨_,rfl⟩;rw[<-V]at O;obtain⟨u,x⟩: ∃u,u=w.drew.alloc (.cells p 41):=⟨_,rfl⟩;rw[<-x]at O;have a1:u.heap[N]? =a6 (.cells p 41 (0,0)):=by rw[x,V];exact heap_alloc_new w.drew _
 have a2:u.heap[q]? =a6 (.cells (y::A::cu).toArray e2 (0,0)):=by rw[x];exact(Below.heap_alloc w.drew _ q ay).trans ah
 have a3:u.heap[g]? =a6 (.cells d B (0,0)):=by rw[x];exact(Below.heap_alloc w.drew _ g aw).trans hg
 obtain⟨f,X⟩: ∃f:Array Value,f=(p.toList.take (i*2)++[y,A]++p.toList.drop (i*2+2)).toArray:=⟨_,rfl⟩;have az:p.toList.length=G*2:=by simpa using ae
 have af:f.size=G*2:=by rw[X];simp[az];omega
 have aA: ∀W:World,W.heap[N]? =a6 (.cells p 41 (0,0))->W.heap[q]? =a6 (.cells (y::A::cu).toArray e2 (0,0))-> ∀s E,(Builtin.copy_ #[22,22] s #[.slice (a6 ⟨N,i*2,a7⟩) (n+1-i) E,.slice (a6 ⟨q,0,a7⟩) 1 c2]).run prog W=.ok (goInt (Nat.min 1 (n+1-i))) (W.setRow N f):=fun W x I s E=>by
  rw[X];refine tC W _ _ s 41 N (i*2) (n+1-i) E ⟨q,0,a7⟩ 1 c2 p 41 [y,A] 2 underlying22 MB x ?_ ?_ ?_ ?_
  .rw[show Nat.min 1 (n+1-i)=1 from by simp only[Nat.min_def];split<;>omega];rfl
  .intro j v o;rw[Addr.add_lit,cell_of_row W q (0+j) _ e2 (0,0) I,<-o]
   match j with
   |0=>rfl
   |1=>rfl
   |j+2=>simp at o
  .rw[ae];simp;omega
  .intro v Y;simp at Y;rcases Y with rfl|rfl<;>assumption
 obtain⟨l,Z⟩: ∃l:Array Value,l=(f.toList.take ((i+1)*2)++cs++f.toList.drop ((i+1)*2+cs.length)).toArray:=⟨_,rfl⟩;have aK: ∀W:World,W.heap[N]? =a6 (.cells f 41 (0,0))->W.heap[g]? =a6 (.cells d B (0,0))-> ∀s E sc,(Builtin.copy_ #[22,22] s #[.slice (a6 ⟨N,(i+1)*2,a7⟩) (n-i) E,.slice (a6 ⟨g,i*2,a7⟩) (n-i) sc]).run prog W=.ok (goInt (Nat.min (n-i) (n-i))) (W.setRow N l):=fun W x I s E sc=>by
  rw[Z];refine tC W _ _ s 41 N ((i+1)*2) (n-i) E ⟨g,i*2,a7⟩ (n-i) sc f 41 cs 2 underlying22 MB x ?_ ?_ ?_ ?_
  .rw[M,show Nat.min (n-i) (n-i)=n-i from by simp only[Nat.min_def];split<;>omega]
  .intro j v o;rw[Addr.add_lit,cell_of_row W g (i*2+j) d B (0,0) I];rw[K,List.getElem?_drop,List.getElem?_take]at o;split at o
   .simpa using o
   .cases o
  .rw[M,af];omega
  .intro v Y;exact aI v (List.mem_of_mem_drop (K▸Y))
 have aO:g≠N:=by omega
 have bD:q≠N:=by omega
 have b1:(u.setRow N f).heap[N]? =a6 (.cells f 41 (0,0)):=setRow_heap u N p f _ _ a1;have b2:(u.setRow N f).heap[g]? =a6 (.cells d B (0,0)):=(setRow_other u N g f aO).trans a3;obtain⟨J,I⟩: ∃J,J=u.setRow N f:=⟨_,rfl⟩;have aB:=aA u a1 a2;clear aA;rw[<-I]at aB b1 b2;have aP:l.size=G*2:=by
  have:f.toList.length=G*2:=by simpa using af
  rw[Z];simp[this,M];omega
 have aQ:l.toList.take ((n+1)*2)=(d.toList.take (n*2)).take (i*2)++[y,A]++(d.toList.take (n*2)).drop (i*2):=by
  have B:(d.toList.take (n*2)).take (i*2)=d.toList.take (i*2):=by rw[List.take_take,show min (i*2) (n*2)=i*2 by omega]
  have e1:f.toList.take ((i+1)*2)=d.toList.take (i*2)++[y,A]:=by
   rw[X,List.toList_toArray,av];exact List.take_left' (by simp[D];omega)
  rw[Z,List.toList_toArray,e1,B,List.take_left' (by simp[D,M];omega),K]
 have aS: ∀W:World,W.heap[N]? =a6 (.cells f 41 (0,0))->(W.setRow N l).heap[N]? =a6 (.cells l 41 (0,0)):=fun W hW=>setRow_heap W N f l _ _ hW;have aU:w.grownBy (J.drew.setRow N l) a7:=by
  rw[I,x];refine⟨rfl,rfl,rfl,by simp[World.setRow,World.alloc],fun k hk _=> ?_⟩;have aF:k≠N:=by omega
  rw[setRow_other _ N k _ aF];show(((w.drew.alloc _).setRow N f).heap[k]?)=_;rw[setRow_other _ N k _ aF];exact Below.heap_alloc w.drew _ k hk
 have aV:(J.drew.setRow N l).heap[N]? =a6 (.cells l 41 (0,0)):=setRow_heap J.drew N f l _ _ b1;have bF: ¬(G=i):=by omega
 have cb: ¬(G=i+1):=by omega
 rw[<-V];clear I x X Z K M af D az av ae U S V aS ao ai ab aj ak al ad an a3 aw ay;have mixed:prog.follows .mixedOrders=true:=by kernel_rfl
 go_enter func37,ntmps37
 go_wp2_with (first
  |(at_builtin;refine Lib.wpList_append_run _ rfl _ _ _ _ rfl _ _ rfl rfl _ _ (O _) ?_)
  |(at_builtin;refine Hy _ rfl _ _ 22 22 rfl _ _ rfl rfl (aB _ _) ?_))
 go_region_law_o (refine Pq rfl _ _ 22 22 rfl (.slice (a6 ⟨N,(i+1)*2,a7⟩) (n-i) (G-(i+1))) (.slice (a6 ⟨g,i*2,a7⟩) (n-i) (c-i)) (by simp[Act.eval,Act.put]) (by simp[Act.eval,Act.put]) (aK J.drew b1 b2 3 (G-(i+1)) (c-i)) ?_)
 go_wp2
 go_ret
 exact⟨G,l,rfl,aJ,au,aU,aV,aP,aQ⟩
end
section
open Option renaming some → a6, none → a7
open List renaming drop_eq_nil_of_le → aV, take_of_length_le → bn
open Nat renaming le_refl → ae
open Tryz
open Go.RowKit
theorem ayP (w:World) (B:Nat) (x:TypeId) (v:Value) (n l c2:Nat) (o:List Value) (i j:Value) (W:B<=w.heap.size) (q:w.ownsRow B x 2 v n o) (hn:n<=2199023255552) (X:i.oneCell'=true) (h2:j.oneCell'=true)
  (Y:gW w l 0 [i,j]):
  Calls prog anX #[v,.int .i64 (n:Int),.slice (a6 ⟨l,0,a7⟩) 1 c2] w fun e w'=> ∃d f,e=.returned d/\w'.ownsRow B f 2 d (n+1) (o++[i,j])/\w.grownBy w' v.ownBlock/\(d.ownBlock=v.ownBlock\/ ∃k,d.ownBlock=a6 k/\w.heap.size<=k)/\d.oneCell'=true:=by
 obtain⟨i0,z,y,A,D,E,G⟩:=atc;have I: ∀u,∃d w' f,(Builtin.append_ #[22,22] u #[v,.slice (a6 ⟨l,0,a7⟩) 1 c2]).run prog w=.ok d w'/\w'.ownsRow B f 2 d (n+1) (o++[i,j])/\w.grownBy w' v.ownBlock/\(d.ownBlock=v.ownBlock\/d.ownBlock=a6 w.heap.size)/\d.oneCell'=true/\(f=x\/f=41):=fun u=>
  H7 underlying22 y A D E G (by decide) q (a:=a6 ⟨l,0,a7⟩) (m:=1) (cp:=c2) (news:=[i,j]) rfl (by simp[X,h2]) (.inr ⟨l,0,rfl,Y⟩) (by unfold maxLen;omega) (by omega) W u
 obtain⟨d,w',f,J,K,M,N,O,_⟩:=I 22;have af: ¬((1:Int)=0):=by omega
 have mixed:prog.follows .mixedOrders=true:=by kernel_rfl
 have S: ∃p f,Ending.returned d=.returned p/\w'.ownsRow B f 2 p (n+1) (o++[i,j])/\w.grownBy w' v.ownBlock/\(p.ownBlock=v.ownBlock\/ ∃k,p.ownBlock=a6 k/\w.heap.size<=k)/\p.oneCell'=true:=
  ⟨d,f,rfl,K,M,N.imp (fun h=>h) (fun h=>⟨_,h,ae _⟩),O⟩
 have Z:=show anX=37 from rfl
 rw[Z];generalize U:(fun(e:Ending) (w':World)=> ∃d f,e=.returned d/\w'.ownsRow B f 2 d (n+1) (o++[i,j])/\w.grownBy w' v.ownBlock/\(d.ownBlock=v.ownBlock\/ ∃k,d.ownBlock=a6 k/\w.heap.size<=k)/\d.oneCell'=true)=Post;have s:Post (.returned d) w':=by rw[<-U];exact S
 clear S;obtain⟨V,cv,rfl,ag,ah⟩:=F7 q;have ad:V=a7->n=0/\cv=0:=fun h=>by
  rcases q.2 with ⟨f,e2⟩|⟨g,ai,aj,f,_⟩
  .cases f;exact⟨e2,rfl⟩
  .cases f;cases h
 clear U K M N O I q y A D E G;cases V with
 |none=>
  obtain⟨rfl,rfl⟩:=ad rfl
  go_enter func37,ntmps37
  go_wp2_with (at_builtin;refine Lib.wpList_append_run _ rfl _ _ _ _ rfl _ _ rfl rfl _ _ J ?_)
  first|exact s|(go_ret;exact s)
 |some a=>
  obtain⟨ab,ao,ak⟩:=a
  go_enter func37,ntmps37
  go_wp2_with (at_builtin;refine Lib.wpList_append_run _ rfl _ _ _ _ rfl _ _ rfl rfl _ _ J ?_)
  all_goals first|exact s|(go_ret;exact s)
theorem Jm {P:Program} {f:FuncId} {fn:Func} {d:Code} (e:(fn.name== "runtime.NumGoroutine")=false) (hf:P.funcs[f]? =a6 fn) (hb:fn.body=a6 d) (args:Array Value) (w:World):(callFunc f args).run P w=.ok (.enter f args) w:=by
 simp_all [callFunc]
theorem anZ:Je prog anX:=by
 intro w B j v n i d q s f h D E af I l J hi W ag u x y X ah ai;refine⟨Jm (fn:=f37) (by kernel_rfl) (by kernel_rfl) (show _=a6 ((f37.body).getD .skip) by kernel_rfl) _ _, ?_⟩;have Y:gW w d 0 [f,h]:=by
  have:=(gW.of_block_cells y).sub 0 2;simpa using this
 by_cases o:i=n
 .subst o;refine(ayP w B j v i d q s f h I l J u x Y).mono ?_;rintro e K ⟨Z,e1,g1,g2,g3,g4,g5⟩;refine⟨Z,e1,g1, ?_,g3,g4,g5⟩;have hl:=l.1;rw[bn (by omega),aV (by omega),List.append_nil];exact g2
 .have o:i<n:=by omega
  rcases l.2 with ⟨rfl,e⟩|⟨g,p,z,rfl,ab,M,ad,N,O,A⟩
  .omega
  .have S:g≠d:=fun e=>X (by rw[e];rfl);have U: ∀v∈z.toList.take (n*2),v.oneCell'=true:=by rw[A];exact W
   have V:(s.take (i*2)++[f,h]++s.drop (i*2)).length=(n+1)*2:=by
    have:=l.1;simp;omega
   by_cases hroom:n+1<=p
   .refine(ate g n p i d q z j D f h E w o hroom (by unfold maxLen at N;omega) M O y S U u x).mono ?_;rintro e K ⟨rfl,R,g1,g2,g3,g4⟩;refine⟨_,j,rfl,⟨V,.inr ⟨g,p,R,rfl,ab,g2,hroom,N,g3, ?_⟩⟩,g1,.inl rfl,rfl⟩;rw[g4,A]
   .refine(atd g n p i d q z j D f h E w o ad (by omega) J M O y S U u x).mono ?_;rintro e K ⟨G,R,rfl,g1,g2,g3,g4,g5,g6⟩;refine⟨_,41,rfl,⟨V,.inr ⟨w.heap.size,G,R,rfl,I,g4,g1,g2,g5, ?_⟩⟩,⟨g3.os,g3.tape,g3.output,g3.size,fun k hk _=>g3.block k hk (by simp)⟩,.inr ⟨_,rfl,ae _⟩,rfl⟩;rw[g6,A]
end
section
open Option renaming some → a6, none → a7
open Tryz
open Go.Shelf
def DW:Go.Shelf.Ren:=⟨fun|6=>26|15=>46|14=>45|28=>81|29=>82|20=>73|21=>74|22=>75|23=>76|24=>77|25=>78|26=>79|27=>80|46=>108|47=>109|48=>110|49=>111|50=>112|57=>149|n=>n,fun|22=>28|24=>32|25=>68|3=>3|39=>96|0=>0|53=>120|55=>122|4=>4|46=>114|45=>113|50=>80|5=>5|9=>9|66=>140|70=>144|76=>162|77=>146|n=>n,fun|n=>n⟩
theorem ay9:Go.Proofs.SlLaysF0.n6 prog DW:={
 mixed:=by kernel_rfl
 f6:=⟨Tryz.f26.name,by decide,func26.trans (congrArg a6 (by kernel_rfl))⟩
 f14:=⟨f45.name,by decide,func45.trans (congrArg a6 (by kernel_rfl))⟩
 f15:=func46.trans (congrArg a6 (by kernel_rfl))
 f20:=⟨f73.name,by decide,func73.trans (congrArg a6 (by kernel_rfl))⟩
 f21:=⟨f74.name,by decide,func74.trans (congrArg a6 (by kernel_rfl))⟩
 f22:=⟨f75.name,by decide,func75.trans (congrArg a6 (by kernel_rfl))⟩
 f23:=⟨f76.name,by decide,func76.trans (congrArg a6 (by kernel_rfl))⟩
 f24:=⟨f77.name,by decide,func77.trans (congrArg a6 (by kernel_rfl))⟩
 f25:=⟨f78.name,by decide,func78.trans (congrArg a6 (by kernel_rfl))⟩
 f26:=⟨f79.name,by decide,func79.trans (congrArg a6 (by kernel_rfl))⟩
 f27:=⟨f80.name,by decide,func80.trans (congrArg a6 (by kernel_rfl))⟩
 f28:=func81.trans (congrArg a6 (by kernel_rfl))
 f29:=func82.trans (congrArg a6 (by kernel_rfl))
 f46:=⟨f108.name,by decide,func108.trans (congrArg a6 (by kernel_rfl))⟩
 f47:=func109.trans (congrArg a6 (by kernel_rfl))
 f48:=func110.trans (congrArg a6 (by kernel_rfl))
 f49:=⟨f111.name,by decide,func111.trans (congrArg a6 (by kernel_rfl))⟩
 f50:=⟨f112.name,by decide,func112.trans (congrArg a6 (by kernel_rfl))⟩
 f57:=⟨f149.name,by decide,func149.trans (congrArg a6 (by kernel_rfl))⟩
 t0:=underlying0
 a0:=isAgg0
 z0:=sizeOf0
 v0:=zeroValue0
 t3:=underlying3
 a3:=isAgg3
 z3:=sizeOf3
 v3:=zeroValue3
 t4:=underlying4
 a4:=isAgg4
 z4:=sizeOf4
 v4:=zeroValue4
 t5:=underlying5
 a5:=isAgg5
 z5:=sizeOf5
 v5:=zeroValue5
 t9:=underlying9
 a9:=isAgg9
 z9:=sizeOf9
 v9:=zeroValue9
 t22:=underlying28
 a22:=isAgg28
 z22:=sizeOf28
 v22:=zeroValue28
 t25:=underlying68
 a25:=isAgg68
 z25:=sizeOf68
 v25:=zeroValue68
 t39:=underlying96
 a39:=isAgg96
 z39:=sizeOf96
 v39:=zeroValue96
 t45:=underlying113
 a45:=isAgg113
 z45:=sizeOf113
 v45:=zeroValue113
 t46:=underlying114
 a46:=isAgg114
 z46:=sizeOf114
 v46:=zeroValue114
 t50:=underlying80
 a50:=isAgg80
 z50:=sizeOf80
 v50:=zeroValue80
 t53:=underlying120
 a53:=isAgg120
 z53:=sizeOf120
 v53:=zeroValue120
 t55:=underlying122
 a55:=isAgg122
 z55:=sizeOf122
 v55:=zeroValue122
 t66:=underlying140
 a66:=isAgg140
 z66:=sizeOf140
 v66:=zeroValue140
 t70:=underlying144
 a70:=isAgg144
 z70:=sizeOf144
 v70:=zeroValue144
 t76:=underlying162
 a76:=isAgg162
 z76:=sizeOf162
 v76:=zeroValue162
 t77:=underlying146
 a77:=isAgg146
 z77:=sizeOf146
 v77:=zeroValue146}
end
section
open Option renaming some → a6, none → a7
open Bool renaming and_eq_true → af
open Tryz
open Go.RowKit Go.Shelf Go.Lib Go.Sort
def NW (x:xE.den):List Value:=[.int .i64 x.1,.int .i64 x.2.1,.int .i64 x.2.2.1,.bool x.2.2.2.1]
theorem axG (x:xE.den): ∀v∈NW x,v.oneCell'=true:=by
 intro v d;simp[NW]at d;rcases d with rfl|rfl|rfl|rfl<;>rfl
theorem flat_get: ∀(xs:List xE.den) (j:Nat) (h:j/4<xs.length),(xs.flatMap NW)[j]? =(NW xs[j/4])[j %4]?
 |[],j,h=>by simp at h
 |x::xs,j,h=>by
  rw[List.flatMap_cons];by_cases hj:j<4
  .rw[List.getElem?_append_left (by simpa [NW] using hj)];have d:j/4=0:=by omega
   have e:j %4=j:=by omega
   simp only[d,e,List.getElem_cons_zero]
  .rw[List.getElem?_append_right (by simp[NW];omega)];have d:j/4=(j-4)/4+1:=by omega
   have e:j %4=(j-4) %4:=by omega
   have f:(j-4)/4<xs.length:=by simp at h;omega
   have g:=flat_get xs (j-4) f;simp only[show(NW x).length=4 from rfl,g,d,e,List.getElem_cons_succ]
def frm (x:xE.den):Int:=x.2.1
theorem KL: ∀(xs:List xE.den) (n:Int),Xj n xs=true-> ∀(i:Nat) (hi:i<xs.length),n<=frm xs[i]/\frm xs[i]<=4611686018427387904/\ ∀(j:Nat) (d:j<xs.length),i<j->frm xs[i]<frm xs[j]
 |[],_,_,i,hi=>by simp at hi
 |x::xs,n,h,i,hi=>by
  simp only[Xj,af,leI,decide_eq_true_eq]at h;obtain⟨e,f,l⟩:=h;have e:n<=frm x:=e;have f:frm x<=4611686018427387904:=f;have g:=KL xs (frm x+1) l;cases i with
  |zero=>
   refine⟨e,f,fun j d o=> ?_⟩;obtain⟨j,rfl⟩: ∃k,j=k+1:=⟨j-1,by omega⟩;have:=(g j (by simpa using d)).1;simp only[List.getElem_cons_zero,List.getElem_cons_succ];omega
  |succ i=>
   obtain⟨g1,g2,g3⟩:=g i (by simpa using hi);refine⟨by simp only[List.getElem_cons_succ];omega,g2,fun j d o=> ?_⟩;obtain⟨j,rfl⟩: ∃k,j=k+1:=⟨j-1,by omega⟩;exact g3 j (by simpa using d) (by omega)
section
variable (m:Nat) (xs:List xE.den) (hl:xs.length=m+1)
def afV (i:Fin (m+1)):List Value:=NW (xs[i.val]'(by omega))
def Yi (i j:Fin (m+1)):Int:=frm (xs[i.val]'(by omega))-frm (xs[j.val]'(by omega))
variable (hr:afh xs=true)
include hr in
theorem auO (i j:Fin (m+1)):ltOf (Yi m xs hl) i j=decide (i.val<j.val):=by
 unfold ltOf Yi;have d:=(KL xs 0 hr i.val (by omega)).2.2 j.val (by omega);have f:=(KL xs 0 hr j.val (by omega)).2.2 i.val (by omega);by_cases h:i.val<j.val
 .have:=d h;simp[h];omega
 .by_cases h':j.val<i.val
  .have:=f h';simp[h];omega
  .have e:i=j:=Fin.ext (by omega);subst e;simp
include hr in
theorem aCH:SWO (ltOf (Yi m xs hl))where
 irrefl x:=by rw[auO m xs hl hr];simp
 trans x y z h1 h2:=by rw[auO m xs hl hr]at*;simp at*;omega
 ntrans x y z h1 h2:=by rw[auO m xs hl hr]at*;simp at*;omega
include hr in
theorem aHp (i j:Fin (m+1)) (W:World):Calls prog CG #[.agg (afV m xs hl i).toArray,.agg (afV m xs hl j).toArray] W fun e w'=>e=.returned (.int .i64 (Yi m xs hl i j))/\ ∃q h,w'=grow (W.drewN q) h:=by
 have d:=KL xs 0 hr i.val (by omega);have f:=KL xs 0 hr j.val (by omega);unfold afV Yi NW frm at*;generalize xs[i.val]=x at*;generalize xs[j.val]=y at*;obtain⟨p,l,s,u,v⟩:=x;obtain⟨z,o,A,B,D⟩:=y;have g: ∀x y:Int,0<=x->x<=4611686018427387904->0<=y->y<=4611686018427387904->IntKind.i64.wrap (x-y)=x-y:=fun x y k1 k2 k3 k4=>by rw[IntKind.wrap_i64];omega
 have g:=g l o d.1 d.2.1 f.1 f.2.1;clear d f hr;show Calls prog 27 _ _ _
 go_enter func27,ntmps27
 go_wp2
 go_ret
 exact⟨rfl,0,_,by rw[alloc_eq_grow,alloc_eq_grow,grow_grow];rfl⟩
end
theorem atb:(prog.info? 32).map (·.size)=a6 4:=by kernel_rfl
theorem aFZ (w:World):(Go.sizeOf (DW.t 24)).run prog w=.ok 4 w:=by
 show(Go.sizeOf 32).run prog w=_;cases hq:prog.info? 32 with
 |none=>have:=atb;simp[hq]at this
 |some i=>have:=atb;simp[hq]at this;simp[sizeOf,typeInfo,hq,this]
theorem ayQ (w:World):(isAgg (DW.t 24)).run prog w=.ok true w:=by
 show(isAgg 32).run prog w=_;simp[isAgg,run_underlying underlying32]
theorem afg (m:Nat) (xs:List xE.den) (f:xs.length=m+1) (hr:afh xs=true) (d:Array (Fin (m+1))) (hd:d.toList.Pairwise fun i j=>i.val<=j.val) (u:d.size<4611686018427387904) (w:World) (g cap:Nat) (v:g<w.heap.size) (l:HoldsK (afV m xs f) 4 w g 0 d):
  Calls prog abO #[.slice (a6 ⟨g,0,a7⟩) d.size cap,.func (.func CG) #[] #[]] w fun e w'=>e=.returned (.tuple #[])/\ ∃q os,w'=grow (Sort.ahead w q) os:=by
 have hT: ∀x y,(ltOf (Yi m xs f)) x y=false->(ltOf (Yi m xs f)) y x=false->x=y:=fun x y o p=>by
  rw[auO m xs f hr]at o p;simp at o p;exact Fin.ext (by omega)
 have z:=AnyQ.slices_SortFunc ay9 4 (fun w=>ayQ w) (fun w=>aFZ w) (afV m xs f) (fun x=>rfl) (fun x=>axG _) (Yi m xs f) (aCH m xs f hr) CG #[] g 0 cap d w
  (enters_of (fn:=Tryz.f27) func27 (by kernel_rfl) (show _=a6 ((Tryz.f27.body).getD .skip) by kernel_rfl))
  (fun _ _ _ _ x y=>aHp m xs f hr x y _) l v u
 refine Calls.mono z ?_;rintro e w' ⟨A,s,q,os,B,D,E⟩;refine⟨A,q,os, ?_⟩;have G: ∀i j:Fin (m+1),i.val<=j.val->(!(ltOf (Yi m xs f)) j i)=true:=fun i j M=>by rw[auO m xs f hr];simp;omega
 have I:Holds id (Sort.ahead w q) g 0 (flatK (afV m xs f) 4 d):=fun j J=>l j J;have K:s=d:=Array.ext' ((sorted_unique_holds (aCH m xs f hr) hT d s B D).trans (List.mergeSort_of_pairwise (hd.imp fun h=>G _ _ h)));rw[E,K];unfold sortWorldK putRowK;rw[putRow_self _ _ _ _ _ I]
theorem aoG (I: ∀w,XZ w->Calls prog abO #[.slice a7 0 0,.func (.func CG) #[] #[]] w fun e w'=>e=.returned (.tuple #[])/\w.grownBy w' a7):Jh prog abO CG:=by
 intro w B x v n J xs K hB y M ad hr N;refine⟨Jm (fn:=Tryz.f26) (by kernel_rfl) (by kernel_rfl) (show _=a6 ((Tryz.f26.body).getD .skip) by kernel_rfl) _ _, ?_⟩;subst M;rcases y.2 with ⟨rfl,h0⟩|⟨g,f,h,rfl,O,o,S,U,V,D⟩
 .refine(I w K).mono ?_;rintro e w' ⟨W,l⟩;exact⟨W,⟨y.1,.inl ⟨rfl,h0⟩⟩,⟨l.os,l.tape,l.output,l.size,fun k hk _=>l.block k hk (by simp)⟩⟩
 .have z:g<w.heap.size:=(Array.getElem?_eq_some_iff.1 o).1;have p: ∀e w',(e=Ending.returned (.tuple #[])/\ ∃q A,w'=grow (Sort.ahead w q) A)->e=.returned (.tuple #[])/\w'.ownsRow B x 4 (.slice (a6 ⟨g,0,a7⟩) xs.length f) xs.length J/\w.grownBy w' (Value.slice (a6 ⟨g,0,a7⟩) xs.length f).ownBlock:=by
   rintro e w' ⟨rfl,q,A,rfl⟩;have X:(grow (Sort.ahead w q) A).heap[g]? =a6 (.cells h x (0,0)):=(Array.getElem?_append_left z).trans o;exact⟨rfl,⟨y.1,.inr ⟨g,f,h,rfl,O,X,S,U,V,D⟩⟩,⟨rfl,rfl,rfl,by simp[grow,Sort.ahead],fun k hk _=>Array.getElem?_append_left hk⟩⟩
  cases hm:xs.length with
  |zero=>
   have Y:afh [((0:Int),((0:Int),((0:Int),(false,()))))]=true:=rfl;have s:=afg 0 [((0:Int),((0:Int),((0:Int),(false,()))))] rfl Y #[] List.Pairwise.nil (by decide) w g f z (fun j d=>by simp at d);rw[hm]at p;exact Calls.mono s p
  |succ m=>
   have u:(Array.ofFn (fun i:Fin (m+1)=>i)).size=m+1:=by simp
   have Z: ∀j (d:j<(m+1)*4),h[j]? =(NW (xs[j/4]'(by omega)))[j %4]? :=by
    intro j d;rw[<-flat_get xs j (by omega)];have h6:h.toList.take (xs.length*4)=xs.flatMap NW:=D.trans N;rw[<-h6,List.getElem?_take,hm,am d];simp
   have hH:HoldsK (afV m xs hm) 4 w g 0 (Array.ofFn (fun i:Fin (m+1)=>i)):=by
    intro j d;rw[size_flatK,u]at d;refine⟨?_,by simp[World.frozen?,o]⟩;have E:j/4<m+1:=by omega
    have hd:(Array.ofFn (fun i:Fin (m+1)=>i))[j/4]! =⟨j/4,E⟩:=by
     simp[E]
    rw[get_flatK _ _ _ _ (by rw[u];exact d),Nat.zero_add,cell_of_row w g j h x (0,0) o,Z j d,hd];have G:j %4<(NW (xs[j/4]'(by omega))).length:=by show _<4;omega
    rw[List.getElem?_eq_getElem G];show a6 _=a6 ((NW (xs[j/4]'(by omega)))[j %4]!);rw[List.getElem!_eq_getElem?_getD,List.getElem?_eq_getElem G];rfl
   have ab:(Array.ofFn (fun i:Fin (m+1)=>i)).toList.Pairwise fun i j=>i.val<=j.val:=by
    rw[List.pairwise_iff_getElem];intro i j hi d ae;simp only[Array.getElem_toList,Array.getElem_ofFn];omega
   have s:=afg m xs hm hr _ ab (by rw[u];omega) w g f z hH;rw[u]at s;rw[hm]at p;exact Calls.mono s p
end
section
open Option renaming some → a6, none → a7
open Bool renaming and_eq_true → af, not_eq_true → aY
open List renaming mem_cons_of_mem → ak
open Nat renaming le_refl → ae
open Go.RowKit
def TT.allK:TT->Bool
 |.nil=>true
 |.node _ i l r=>i.known&&(l.allK&&r.allK)
theorem TT.allK_at: ∀(T:TT) (t:TypeId),T.allK=true->(T.at t).ty.isSome=true->(T.at t).known=true
 |.nil,t,_,h=>by assumption
 |.node k i l r,t,h,d=>by
  simp only[TT.allK,af]at h;simp only[TT.at]at d ⊢;by_cases e:Nat.beq k t=true
  .simp_all
  .have f:Nat.beq k t=false:=(aY _).mp e;simp only[f,ac]at d ⊢;by_cases e2:Nat.blt t k=true
   .simp only[e2,aa]at d ⊢;exact TT.allK_at l t h.2.1 d
   .have g:Nat.blt t k=false:=(aY _).mp e2;simp only[g,ac]at d ⊢;exact TT.allK_at r t h.2.2 d
def wfD:(t:Ty)->t.den->Prop
 |.unit,_=>True
 |.bool,_=>True
 |.int k,x=>(Lit.int k x).wf=true
 |.str,x=>x.length<=maxLen
 |.list e,xs=>xs.length<=maxLen/\ ∀x∈xs,wfD e x
 |.pair a b,x=>wfD a x.1/\wfD b x.2
section
variable {P:Program} {T:TT} {w:World} {H:Type} {enc:TypeId×Value->H} {spare:Nat->Bool} {held:Bool}
theorem axK {t:TypeId} {k:TK} (h:(P.underlying t).map kM=a6 (a6 k)): ∃d,P.underlying t=a6 d/\kM d=a6 k:=by
 simp_all
theorem Ib (hT:TOk P T) {t:TypeId} (hk:(T.at t).known=true):P.cellsOf t=(T.at t).size:=by
 obtain⟨h,_⟩:=hT t hk;unfold Program.cellsOf;cases hi:P.info? t with
 |none=>simp_all
 |some f=>
  simp_all
theorem ax2 {a:Addr} {v:Value} (h:w.cell? a=a6 v):a.block<w.heap.size/\a.spot=a7:=by
 unfold World.cell? at h;split at h
 .rename_i d
  refine⟨(Array.getElem?_eq_some_iff.1 d).1, ?_⟩;simp_all
 .cases h
theorem addr_add_add (a:Addr) (x m:Nat):(a.add x).add m=a.add (x+m):=by
 grind [Addr.add]
theorem ae3 {e:Ty} {size:Nat} (p:e.size=size) {a:Addr} {len:Nat} {F:List Value->Option (DataW H×List MemPlace)} (hF: ∀cs y,F cs=a6 y-> ∃x:e.den,eY w (fun b=>b<w.heap.size) e x cs/\wfD e x)
  (h: ∀i,i<len-> ∃y,(w.cells? 0 (a.add (i*size)) size).bind F=a6 y): ∀(k j:Nat),j+k<=len->
  ∃(xs:List e.den) (d:List Value),xs.length=k/\fP (eY w (fun b=>b<w.heap.size) e) e.size xs d/\(∀m (f:m<d.length),w.cell? (a.add (j*size+m))=a6 d[m])/\ ∀x∈xs,wfD e x
 |0,j,_=>⟨[],[],rfl,rfl,fun m f=>absurd f (by simp),fun x g=>by cases g⟩
 |k+1,j,v=>by
  obtain⟨xs,d,q,s,A,B⟩:=ae3 p hF h k (j+1) (by omega);obtain⟨y,l⟩:=h j (by omega);obtain⟨c,o,l⟩:=Option.bind_eq_some_iff.1 l;obtain⟨x,g,D⟩:=hF c y l;have u:c.length=e.size:=eY.length e x c g;have E: ∀m (f:m<c.length),w.cell? (a.add (j*size+m))=a6 c[m]:=fun m f=>by
   simp only[World.cells?,Nat.zero_le,if_true]at o;have:=mapM_some_get o m m (by simp_all);simp_all [addr_add_add]
  refine⟨x::xs,c++d,by simp[q],⟨c,d,rfl,u,g,s⟩,fun m f=> ?_,fun z G=> ?_⟩
  all_goals grind
theorem Sr (hT:TOk P T) {n:Nat} {cs:List Value} (e: ∀(t:TypeId) (cs:List Value) (y:DataW H×List MemPlace) (ty:Ty),(T.at t).known=true->(T.at t).ty=a6 ty->DataW.trod enc P w 0 spare held n t cs=a6 y-> ∃x:ty.den,eY w (fun b=>b<w.heap.size) ty x cs/\wfD ty x):
  ∀(f:List (Nat×TypeId)) (off:Nat) (ty:Ty),jG T off f=a6 ty->(∀p∈f,∃y,DataW.trod enc P w 0 spare held n p.2 ((cs.drop p.1).take (P.cellsOf p.2))=a6 y)->
   ∃x:ty.den,eY w (fun b=>b<w.heap.size) ty x ((cs.drop off).take ty.size)/\wfD ty x
 |[],off,ty,h,_=>by
  simp only[jG,Option.some.injEq]at h;subst h;exact⟨(),by simp[eY,Ty.size],trivial⟩
 |(o,g)::l,off,ty,h,i=>by
  simp only[jG]at h;split at h
  .rename_i q
   split at h
   .rename_i a s
    split at h
    .rename_i d
     split at h
     .rename_i b u
      simp only[Option.some.injEq]at h;subst h q;obtain⟨y,j⟩:=i (o,g) (by simp);simp only[Ib hT d.2,<-d.1]at j;obtain⟨v,z,A⟩:=e g _ y a d.2 s j;obtain⟨B,D,E⟩:=Sr hT e l _ b u fun p G=>i p (ak _ G);refine⟨(v,B),⟨_,_, ?_,z,D⟩,A,E⟩;simp_all [Ty.size,List.take_add]
     .cases h
    .cases h
   .cases h
  .cases h
theorem Va (hT:TOk P T) (u:T.allK=true): ∀(o:Nat) (t:TypeId) (cs:List Value) (y:DataW H×List MemPlace) (ty:Ty),(T.at t).known=true->(T.at t).ty=a6 ty->DataW.trod enc P w 0 spare held o t cs=a6 y->
  ∃x:ty.den,eY w (fun b=>b<w.heap.size) ty x cs/\wfD ty x
 |0,t,cs,y,ty,_,_,h=>by simp[DataW.trod]at h
 |o+1,t,cs,y,ty,hk,K,h=>by
  obtain⟨ag,M,ah,N,-,-,-,-⟩:=hT t hk;obtain⟨d,hd,l⟩:=axK M;have g:lG T (T.at t).k=a6 ty:=by
   simp_all
  have hc:=Ib hT hk;have ai:=N ty K;cases d with
  |bool=>
   simp only[kM,Option.some.injEq]at l;rw[<-l]at g;simp only[lG,Option.some.injEq]at g;subst g;obtain⟨b,rfl,_⟩:=DataW.trod_bool hd h;exact⟨b,rfl,trivial⟩
  |int k=>
   simp only[kM,Option.some.injEq]at l;rw[<-l]at g;simp only[lG,Option.some.injEq]at g;subst g;obtain⟨b,rfl,_,B⟩:=DataW.trod_int hd h;exact⟨b,rfl,B⟩
  |string=>
   simp only[kM,Option.some.injEq]at l;rw[<-l]at g;simp only[lG,Option.some.injEq]at g;subst g;obtain⟨s,rfl,_,B⟩:=DataW.trod_string hd h;exact⟨s.data.toList,by simp[eY],(show s.data.toList.length<=maxLen from by assumption)⟩
  |slice e=>
   simp only[kM,Option.some.injEq]at l;rw[<-l]at g;simp only[lG,Option.map_eq_some_iff]at g;obtain⟨q,v,rfl⟩:=g;have z:=TT.allK_at T e u (by rw[v];rfl);have O:q.size=(T.at e).size:=(hT e z).2.2.2.1 q v;have S:=Ib hT z;rcases DataW.trod_slice hd h with ⟨rfl,_⟩|⟨a,D,U,aj,al,n,V,rfl,_,_,hl,hm,W,an,_,_⟩
   .exact⟨[],⟨a7,0,[],rfl,ae _,rfl,.inl rfl⟩,Nat.zero_le _,fun x X=>by cases X⟩
   .obtain rfl:n=o:=by omega
    have Y: ∀i,i<D-> ∃y,(w.cells? 0 (a.add (i*P.cellsOf e)) (P.cellsOf e)).bind (DataW.trod enc P w 0 spare held n e)=a6 y:=fun i Z=>by
     simp_all
    obtain⟨xs,E,A,G,h3,h4⟩:=ae3 (w:=w) (e:=q) (O.trans S.symm) (fun cs y hy=>Va hT u n e cs y q z v hy) Y D 0 (by omega);refine⟨xs,⟨a6 a,U,E,by rw[A],by omega,G, ?_⟩,by rw[A];omega,h4⟩;by_cases hz:E=[]
    .exact .inl hz
    .have h0:=h3 0 (List.length_pos_iff.2 hz);rw[show a.add (0*P.cellsOf e+0)=a by simp[Addr.add]]at h0;obtain⟨I,J⟩:=ax2 h0;obtain⟨ab,ao,au⟩:=a;simp only at I J;subst J;refine .inr ⟨ab,ao,rfl,I,fun j hj=> ?_⟩;simp_all [jY]
  |struct fs=>
   simp only[kM,Option.some.injEq]at l;rw[<-l]at g;simp only[lG]at g;obtain⟨xs,n,V,_,W,av,hf⟩:=DataW.trod_struct hd h;obtain rfl:n=o:=by omega
   obtain⟨x,A,G⟩:=Sr (P:=P) (T:=T) (w:=w) (enc:=enc) (spare:=spare) (held:=held) (cs:=cs) hT (fun t cs y ty a b c=>Va hT u n t cs y ty a b c) _ 0 ty g (fun p hp=>by
    obtain⟨f,ad,rfl⟩:=List.mem_map.1 hp;obtain⟨i,Z⟩:=List.getElem?_of_mem ad
    grind)
   grind
  |func a b c=>
   grind [kM,lG]
  |array a b=>simp[kM]at l
  |_=>
   grind [kM,lG]
theorem Ud (hT:TOk P T) (z:T.allK=true) {t:TypeId} {v:Value} {d:DataW H} {D:List MemPlace} {r:Reach} {b0:Nat} {ty:Ty} (q:(T.at t).ty=a6 ty) (s:Value.okWide P w r b0 t v) (h:DataW.Trod enc P w 0 spare held t v d D):
  ∃x:ty.den,VD (kQ w fun _=>False) ty x v/\wfD ty x:=by
 have hk:=TT.allK_at T t z (by rw[q];rfl);obtain⟨E,G⟩:=h;obtain⟨x,u,I⟩:=Va hT z E t _ _ ty hk q G;have y:eY w (kQ w fun _=>False).free ty x v.cells.toList:=eY.mono (fun b J=>⟨⟨J,(by rintro ⟨i,o,h,_⟩;simp[kQ,dO]at h),by simp[kQ],fun h=>h⟩,rfl⟩) ty x _ u;refine⟨x, ?_,I⟩;obtain⟨O,K,M,-⟩:=hT t hk;obtain⟨A,hd,j⟩:=axK K;have g:lG T (T.at t).k=a6 ty:=by
  rcases M with u|u
  .rw[u]at q;cases q
  .rw[<-u,q]
 cases ha:ty.isAgg with
 |true=>
  cases A with
  |struct B=>
   obtain⟨cs,rfl,_⟩:=Go.WideShapes.okWide_struct hd s;exact(VD.agg ha).2 ⟨cs,rfl,y⟩
  |array a b=>simp[kM]at j
  |slice e=>
   simp only[kM,Option.some.injEq]at j;rw[<-j]at g;simp only[lG,Option.map_eq_some_iff]at g;obtain⟨S,_,rfl⟩:=g;cases ha
  |_=>
   simp only[kM,Option.some.injEq]at j;rw[<-j]at g;simp[lG]at g
   all_goals (subst g;cases ha)
 |false=>
  rw[VD.leaf ha];have N:v.cells= #[v]:=by
   cases A with
   |struct B=>
    simp only[kM,Option.some.injEq]at j;rw[<-j]at g;simp only[lG]at g;exfalso;cases hfs:(B.toList.map fun f=>(f.offset,f.type))with
    |nil=>rw[hfs]at g;simp only[jG,Option.some.injEq]at g;subst g;cases ha
    |cons p l=>
     rw[hfs]at g;simp only[jG]at g;split at g
     .split at g
      .split at g
       .split at g
        .simp only[Option.some.injEq]at g;subst g;cases ha
        .cases g
       .cases g
      .cases g
     .cases g
   |array a b=>simp[kM]at j
   |bool=>obtain⟨b,rfl⟩:=Go.WideShapes.okWide_bool hd s;rfl
   |int k=>obtain⟨b,rfl⟩:=Go.WideShapes.okWide_int hd s;rfl
   |string=>obtain⟨b,rfl⟩:=Go.WideShapes.okWide_string hd s;rfl
   |slice e=>obtain⟨a,b,c,rfl⟩:=Go.WideShapes.okWide_slice hd s;rfl
   |_=>
    simp only[kM,Option.some.injEq]at j;rw[<-j]at g;simp[lG]at g
  rw[N]at y;exact y
end
abbrev dA:Ty:=.int .i64
abbrev gu:Type:=Int×(List UInt8)×(Int×Int×Unit)
abbrev bZ:Type:=List UInt8
abbrev gJ:Type:=Int×Int×Int×Int×Unit
abbrev Vo:Ty:=.pair dA (.pair dA .unit)
abbrev jd:Type:=Int×Int×Int×Int×Bool×Unit
abbrev Hu:Ty:=.pair dA (.pair dA (.pair dA (.pair .bool .unit)))
abbrev Vb:Ty:=.pair dA (.pair .str Vo)
abbrev nK:Ty:=.pair dA (.pair dA Vo)
abbrev taE:Type:=(List gu)×Int×(List gJ)×Int×Int×Unit
abbrev taF:Type:=(List gu)×bZ×(List gJ)×Int×Int×Int×Unit
abbrev sO:Type:=Int×Int×Int×Bool×Unit
abbrev kW:Type:=bZ×(bZ×(Unit))
abbrev pq:Type:=Bool×Unit
abbrev Vp:Ty:=.pair .str (.pair .str .unit)
abbrev oD:Type:=Int×Int×Unit
abbrev tyG:Ty:=.pair .bool .unit
abbrev jM:Type:=List (Int)
abbrev Gu:Type:=Bool×Bool×bZ×(Unit)
abbrev VT:Ty:=.pair .bool (.pair .bool (.pair .str .unit))
abbrev Dj:Type:=List (bZ×pq)
abbrev taN:Type:=(List oD)×Bool×Int×Unit
abbrev Jd:Ty:=.pair dA Hu
abbrev Dk:Ty:=.pair .str tyG
abbrev oG:Ty:=.list Vb
abbrev Ht:Type:=bZ×(jM×pq)
abbrev qm:Type:=Int×Int
abbrev AV:Type:=taE×(Unit)
abbrev tyL:Ty:=.pair (.list dA) tyG
abbrev CQ:Type:=Int×Unit
abbrev Jc:Type:=taF×(Unit)
abbrev taT:Type:=sO×(Int×Dj×pq)×Unit
abbrev tyM:Ty:=.pair (.list Dk) tyG
abbrev LD:Ty:=.list Vp
abbrev VU:Ty:=.list Jd
abbrev taU:Type:=Ht×Unit
abbrev GH:List (Ty×Bool):=[(.list Vb,false),(.int .i64,false),(.list nK,true),(.int .i64,false),(.int .i64,false)]
abbrev Vd:List (Ty×Bool):=[(.list Vb,false),(.str,false),(.list nK,true),(.int .i64,false),(.int .i64,false),(.int .i64,false)]
abbrev tzC:List (Ty×Bool):=[(.list Vo,true),(.bool,false),(.int .i64,false)]
abbrev Ve:List (Ty×Bool):=[(.int .i64,false)]
abbrev NZ:List (Ty×Bool):=[(.bool,false)]
abbrev tzF:List (Ty×Bool):=[(.int .i64,false),(.list Vp,true)]
abbrev tzG:List (Ty×Bool):=[(.pair .str tyL,false)]
abbrev tzH:List (Ty×Bool):=[(.pair dA (.pair dA (.pair dA tyG)),false),(.pair dA tyM,false)]
abbrev tzI:List (Ty×Bool):=[(.str,false)]
abbrev tzJ:List (Ty×Bool):=[(.int .i64,false),(.int .i64,false)]
end
section
open Option renaming some → a6, none → a7
open Bool renaming and_eq_true → af, not_true → au
open Nat renaming eq_of_beq_eq_true → aj
open Tryz
open Go.RowKit
def iQ:TI:=⟨true,.fn,1,8,a7,[.nilfn],false,false,true⟩
def ti2:TI:=⟨true,(.int .i64),1,8,a6 (.int .i64),[.val (.int .i64) 0],false,false,true⟩
def ti4:TI:=⟨true,.bool,1,1,a6 .bool,[.val .bool false],false,false,true⟩
def ti5:TI:=⟨true,(.int .u8),1,1,a6 (.int .u8),[.val (.int .u8) 0],false,false,true⟩
def ti7:TI:=⟨true,(.struct [(0,2),(1,3),(2,4),(3,6)]),4,24,a7,[.val (.int .i64) 0,.val (.int .i64) 0,.val .bool false,.val (.int .u8) 0],false,false,true⟩
def ti9:TI:=⟨true,.str,1,16,a6 .str,[.val .str []],false,false,true⟩
def aA0:TI:=⟨true,(.int .u64),1,8,a6 (.int .u64),[.val (.int .u64) 0],false,false,true⟩
def aI2:TI:=⟨true,(.struct [(0,9),(1,12)]),2,24,a6 (.pair .str (.pair (.int .u64) .unit)),[.val .str [],.val (.int .u64) 0],false,false,true⟩
def aJ4:TI:=⟨true,(.ptr 253),1,8,a7,[.nilp],false,false,true⟩
def aJ5:TI:=⟨true,(.ptr 256),1,8,a7,[.nilp],false,false,true⟩
def aJ6:TI:=⟨true,(.ptr 263),1,8,a7,[.nilp],false,false,true⟩
def aJc:TI:=⟨true,(.struct [(0,17)]),1,8,a7,[.nilp],false,false,true⟩
def aGH:TI:=⟨true,(.int .i32),1,4,a6 (.int .i32),[.val (.int .i32) 0],false,false,true⟩
def aJ7:TI:=⟨true,(.slice 41),1,24,a6 (.list (.pair .str (.pair .str .unit))),[.nils],false,false,true⟩
def aJ8:TI:=⟨true,(.ptr 79),1,8,a7,[.nilp],false,false,true⟩
def aJ9:TI:=⟨true,(.slice 32),1,24,a6 (.list (.pair (.int .i64) (.pair (.int .i64) (.pair (.int .i64) (.pair .bool .unit))))),[.nils],false,false,true⟩
def aKa:TI:=⟨true,(.struct [(0,3),(1,3),(2,3),(3,4)]),4,32,a6 (.pair (.int .i64) (.pair (.int .i64) (.pair (.int .i64) (.pair .bool .unit)))),[.val (.int .i64) 0,.val (.int .i64) 0,.val (.int .i64) 0,.val .bool false],false,false,true⟩
def aKb:TI:=⟨true,(.struct [(0,3),(1,3),(2,3),(3,4)]),4,32,a6 (.pair (.int .i64) (.pair (.int .i64) (.pair (.int .i64) (.pair .bool .unit)))),[.val (.int .i64) 0,.val (.int .i64) 0,.val (.int .i64) 0,.val .bool false],true,false,true⟩
def aKc:TI:=⟨true,(.struct [(0,9),(1,9)]),2,32,a6 (.pair .str (.pair .str .unit)),[.val .str [],.val .str []],false,false,true⟩
def aKd:TI:=⟨true,(.struct [(0,9),(1,9)]),2,32,a6 (.pair .str (.pair .str .unit)),[.val .str [],.val .str []],true,false,true⟩
def aKe:TI:=⟨true,(.slice 149),1,24,a6 (.list (.pair .str (.pair .bool .unit))),[.nils],false,false,true⟩
def aKf:TI:=⟨true,(.struct [(0,3),(1,48),(2,4)]),3,40,a6 (.pair (.int .i64) (.pair (.list (.pair .str (.pair .bool .unit))) (.pair .bool .unit))),[.val (.int .i64) 0,.nils,.val .bool false],false,false,true⟩
def aKg:TI:=⟨true,(.struct [(0,3),(1,48),(2,4)]),3,40,a6 (.pair (.int .i64) (.pair (.list (.pair .str (.pair .bool .unit))) (.pair .bool .unit))),[.val (.int .i64) 0,.nils,.val .bool false],false,false,false⟩
def aKh:TI:=⟨true,(.slice 66),1,24,a6 (.list (.pair (.int .i64) (.pair .str (.pair (.int .i64) (.pair (.int .i64) .unit))))),[.nils],false,false,true⟩
def aKi:TI:=⟨true,(.map 3 3),1,8,a7,[.undef],false,false,true⟩
def aKj:TI:=⟨true,(.slice 62),1,24,a6 (.list (.pair (.int .i64) (.pair (.int .i64) (.pair (.int .i64) (.pair (.int .i64) .unit))))),[.nils],false,false,true⟩
def aKk:TI:=⟨true,(.struct [(0,3),(1,3),(2,3),(3,3)]),4,32,a6 (.pair (.int .i64) (.pair (.int .i64) (.pair (.int .i64) (.pair (.int .i64) .unit)))),[.val (.int .i64) 0,.val (.int .i64) 0,.val (.int .i64) 0,.val (.int .i64) 0],false,false,true⟩
def aKl:TI:=⟨true,(.struct [(0,3),(1,3),(2,3),(3,3)]),4,32,a6 (.pair (.int .i64) (.pair (.int .i64) (.pair (.int .i64) (.pair (.int .i64) .unit)))),[.val (.int .i64) 0,.val (.int .i64) 0,.val (.int .i64) 0,.val (.int .i64) 0],true,false,true⟩
def aKm:TI:=⟨true,(.struct [(0,3),(1,9),(2,3),(3,3)]),4,40,a6 (.pair (.int .i64) (.pair .str (.pair (.int .i64) (.pair (.int .i64) .unit)))),[.val (.int .i64) 0,.val .str [],.val (.int .i64) 0,.val (.int .i64) 0],false,false,true⟩
def aKn:TI:=⟨true,(.struct [(0,3),(1,9),(2,3),(3,3)]),4,40,a6 (.pair (.int .i64) (.pair .str (.pair (.int .i64) (.pair (.int .i64) .unit)))),[.val (.int .i64) 0,.val .str [],.val (.int .i64) 0,.val (.int .i64) 0],true,false,true⟩
def aKo:TI:=⟨true,(.slice 4),1,24,a6 (.list .bool),[.nils],false,false,true⟩
def aKp:TI:=⟨true,(.slice 5),1,24,a6 (.list (.int .u8)),[.nils],false,false,true⟩
def aKq:TI:=⟨true,(.slice 3),1,24,a6 (.list (.int .i64)),[.nils],false,false,true⟩
def aJo:TI:=⟨true,(.struct [(0,3),(1,22)]),2,32,a6 (.pair (.int .i64) (.pair (.list (.pair .str (.pair .str .unit))) .unit)),[.val (.int .i64) 0,.nils],false,false,true⟩
def aKr:TI:=⟨true,(.ptr 90),1,8,a7,[.nilp],false,false,true⟩
def aJp:TI:=⟨true,(.struct [(0,53),(1,3),(2,59),(3,3),(4,3)]),5,72,a6 (.pair (.list (.pair (.int .i64) (.pair .str (.pair (.int .i64) (.pair (.int .i64) .unit))))) (.pair (.int .i64) (.pair (.list (.pair (.int .i64) (.pair (.int .i64) (.pair (.int .i64) (.pair (.int .i64) .unit))))) (.pair (.int .i64) (.pair (.int .i64) .unit))))),[.nils,.val (.int .i64) 0,.nils,.val (.int .i64) 0,.val (.int .i64) 0],false,false,true⟩
def aKt:TI:=⟨true,(.ptr 100),1,8,a7,[.nilp],false,false,true⟩
def aJq:TI:=⟨true,(.struct [(0,53),(1,9),(2,59),(3,3),(4,3),(5,3)]),6,88,a6 (.pair (.list (.pair (.int .i64) (.pair .str (.pair (.int .i64) (.pair (.int .i64) .unit))))) (.pair .str (.pair (.list (.pair (.int .i64) (.pair (.int .i64) (.pair (.int .i64) (.pair (.int .i64) .unit))))) (.pair (.int .i64) (.pair (.int .i64) (.pair (.int .i64) .unit)))))),[.nils,.val .str [],.nils,.val (.int .i64) 0,.val (.int .i64) 0,.val (.int .i64) 0],false,false,true⟩
def aIY:TI:=⟨true,(.int .u32),1,4,a6 (.int .u32),[.val (.int .u32) 0],false,false,true⟩
def aIZ:TI:=⟨true,(.ptr 128),1,8,a7,[.nilp],false,false,true⟩
def aI0:TI:=⟨true,(.struct [(0,126),(1,74)]),2,32,a7,[.nilp,.nils],false,false,true⟩
def aI1:TI:=⟨true,(.struct [(0,126),(1,74)]),2,32,a7,[.nilp,.nils],false,true,true⟩
def aI3:TI:=⟨true,(.ptr 3),1,8,a7,[.nilp],false,false,true⟩
def aI4:TI:=⟨true,(.struct [(0,9),(1,4)]),2,24,a6 (.pair .str (.pair .bool .unit)),[.val .str [],.val .bool false],false,false,true⟩
def aI5:TI:=⟨true,(.struct [(0,9),(1,4)]),2,24,a6 (.pair .str (.pair .bool .unit)),[.val .str [],.val .bool false],true,false,true⟩
def aI6:TI:=⟨true,(.ptr 5),1,8,a7,[.nilp],false,false,true⟩
def aI7:TI:=⟨true,(.ptr 140),1,8,a7,[.nilp],false,false,true⟩
def aCJ:TI:=⟨true,(.struct [(0,9),(1,76),(2,4)]),3,48,a6 (.pair .str (.pair (.list (.int .i64)) (.pair .bool .unit))),[.val .str [],.nils,.val .bool false],false,false,true⟩
def aI8:TI:=⟨true,(.slice 171),1,24,a6 (.list (.pair .bool (.pair .bool (.pair .str .unit)))),[.nils],false,false,true⟩
def aI9:TI:=⟨true,(.struct [(0,4),(1,4),(2,9)]),3,24,a6 (.pair .bool (.pair .bool (.pair .str .unit))),[.val .bool false,.val .bool false,.val .str []],false,false,true⟩
def aJa:TI:=⟨true,(.struct [(0,4),(1,4),(2,9)]),3,24,a6 (.pair .bool (.pair .bool (.pair .str .unit))),[.val .bool false,.val .bool false,.val .str []],true,false,true⟩
def aJb:TI:=⟨true,(.ptr 216),1,8,a7,[.nilp],false,false,true⟩
def aJd:TI:=⟨true,(.slice 214),1,24,a6 (.list (.pair (.int .i64) (.pair (.int .i64) .unit))),[.nils],false,false,true⟩
def aJe:TI:=⟨true,(.ptr 220),1,8,a7,[.nilp],false,false,true⟩
def aJf:TI:=⟨true,(.slice 200),1,24,a6 (.list (.pair (.int .i64) (.pair (.int .i64) (.pair (.int .i64) (.pair (.int .i64) (.pair .bool .unit)))))),[.nils],false,false,true⟩
def aJg:TI:=⟨true,(.struct [(0,3),(1,3),(2,3),(3,3),(4,4)]),5,40,a6 (.pair (.int .i64) (.pair (.int .i64) (.pair (.int .i64) (.pair (.int .i64) (.pair .bool .unit))))),[.val (.int .i64) 0,.val (.int .i64) 0,.val (.int .i64) 0,.val (.int .i64) 0,.val .bool false],false,false,true⟩
def aJh:TI:=⟨true,(.struct [(0,3),(1,3),(2,3),(3,3),(4,4)]),5,40,a6 (.pair (.int .i64) (.pair (.int .i64) (.pair (.int .i64) (.pair (.int .i64) (.pair .bool .unit))))),[.val (.int .i64) 0,.val (.int .i64) 0,.val (.int .i64) 0,.val (.int .i64) 0,.val .bool false],true,false,true⟩
def aJi:TI:=⟨true,(.ptr 208),1,8,a7,[.nilp],false,false,true⟩
def aJj:TI:=⟨true,(.struct [(0,3),(1,3)]),2,16,a6 (.pair (.int .i64) (.pair (.int .i64) .unit)),[.val (.int .i64) 0,.val (.int .i64) 0],false,false,true⟩
def aJk:TI:=⟨true,(.struct [(0,3),(1,3)]),2,16,a6 (.pair (.int .i64) (.pair (.int .i64) .unit)),[.val (.int .i64) 0,.val (.int .i64) 0],true,false,true⟩
def aCK:TI:=⟨true,(.struct [(0,181),(1,4),(2,3)]),3,40,a6 (.pair (.list (.pair (.int .i64) (.pair (.int .i64) .unit))) (.pair .bool (.pair (.int .i64) .unit))),[.nils,.val .bool false,.val (.int .i64) 0],false,false,true⟩
def aCL:TI:=⟨true,(.struct [(0,9),(1,197),(2,55)]),3,48,a7,[.val .str [],.nils,.undef],false,false,true⟩
def aJl:TI:=⟨true,(.slice 165),1,24,a6 (.list (.pair .str (.pair (.list (.int .i64)) (.pair .bool .unit)))),[.nils],false,false,true⟩
def aCM:TI:=⟨true,(.struct [(0,5),(1,5)]),2,2,a6 (.pair (.int .u8) (.pair (.int .u8) .unit)),[.val (.int .u8) 0,.val (.int .u8) 0],false,false,true⟩
def aJm:TI:=⟨true,(.ptr 241),1,8,a7,[.nilp],false,false,true⟩
def aCN:TI:=⟨true,(.struct [(0,197),(1,76)]),2,48,a6 (.pair (.list (.pair (.int .i64) (.pair (.int .i64) (.pair (.int .i64) (.pair (.int .i64) (.pair .bool .unit)))))) (.pair (.list (.int .i64)) .unit)),[.nils,.nils],false,false,true⟩
def aJn:TI:=⟨true,(.ptr 200),1,8,a7,[.nilp],false,false,true⟩
def aCO:TI:=⟨true,(.struct [(0,17),(1,17),(2,17),(3,9)]),4,40,a7,[.nilp,.nilp,.nilp,.val .str []],false,false,true⟩
def aCP:TI:=⟨true,(.struct [(0,12),(1,12),(2,120),(3,257),(4,5),(5,5),(6,258),(7,259),(8,150),(9,260),(10,261)]),11,48,a7,[.val (.int .u64) 0,.val (.int .u64) 0,.val (.int .u32) 0,.val (.int .u8) 0,.val (.int .u8) 0,.val (.int .u8) 0,.val (.int .u8) 0,.nilfn,.nilp,.val (.int .i32) 0,.val (.int .i32) 0],false,false,true⟩
def tt:TT:=(.node 126 aIZ (.node 64 iQ (.node 31 aKa (.node 16 aJ5 (.node 9 ti9 (.node 4 ti4 (.node 2 ti2 (.node 1 iQ .nil .nil) (.node 3 ti2 .nil .nil)) (.node 7 ti7 (.node 5 ti5 .nil .nil) (.node 8 ti7 .nil .nil))) (.node 13 aI2 (.node 11 ti9 (.node 10 ti9 .nil .nil) (.node 12 aA0 .nil .nil)) (.node 15 aJ4 (.node 14 aI2 .nil .nil) .nil))) (.node 24 iQ (.node 21 aGH (.node 18 aJc (.node 17 aJ6 .nil .nil) (.node 19 aJc .nil .nil)) (.node 23 iQ (.node 22 aJ7 .nil .nil) .nil)) (.node 28 aJ9 (.node 26 iQ (.node 25 aJ8 .nil .nil) (.node 27 iQ .nil .nil)) (.node 30 iQ (.node 29 iQ .nil .nil) .nil)))) (.node 48 aKe (.node 40 aKc (.node 36 iQ (.node 33 ti2 (.node 32 aKb .nil .nil) (.node 35 iQ .nil .nil)) (.node 38 iQ (.node 37 iQ .nil .nil) (.node 39 iQ .nil .nil))) (.node 44 iQ (.node 42 iQ (.node 41 aKd .nil .nil) (.node 43 iQ .nil .nil)) (.node 47 iQ (.node 45 iQ .nil .nil) .nil))) (.node 56 iQ (.node 53 aKh (.node 50 aKg (.node 49 aKf .nil .nil) (.node 52 iQ .nil .nil)) (.node 55 aKi (.node 54 iQ .nil .nil) .nil)) (.node 60 iQ (.node 58 iQ (.node 57 iQ .nil .nil) (.node 59 aKj .nil .nil)) (.node 62 aKl (.node 61 aKk .nil .nil) .nil))))) (.node 95 iQ (.node 81 iQ (.node 73 iQ (.node 68 iQ (.node 66 aKn (.node 65 aKm .nil .nil) (.node 67 iQ .nil .nil)) (.node 70 aKo (.node 69 iQ .nil .nil) (.node 71 iQ .nil .nil))) (.node 77 iQ (.node 75 iQ (.node 74 aKp .nil .nil) (.node 76 aKq .nil .nil)) (.node 79 aJo (.node 78 aJo .nil .nil) .nil))) (.node 88 aKr (.node 85 iQ (.node 83 iQ (.node 82 iQ .nil .nil) (.node 84 iQ .nil .nil)) (.node 87 iQ (.node 86 iQ .nil .nil) .nil)) (.node 92 iQ (.node 90 aJp (.node 89 aJp .nil .nil) (.node 91 iQ .nil .nil)) (.node 94 iQ (.node 93 iQ .nil .nil) .nil)))) (.node 111 iQ (.node 103 iQ (.node 99 aJq (.node 97 iQ (.node 96 aA0 .nil .nil) (.node 98 aKt .nil .nil)) (.node 101 iQ (.node 100 aJq .nil .nil) (.node 102 iQ .nil .nil))) (.node 107 iQ (.node 105 iQ (.node 104 iQ .nil .nil) (.node 106 iQ .nil .nil)) (.node 109 iQ (.node 108 iQ .nil .nil) .nil))) (.node 119 iQ (.node 116 iQ (.node 113 ti2 (.node 112 iQ .nil .nil) (.node 115 iQ .nil .nil)) (.node 118 iQ (.node 117 iQ .nil .nil) .nil)) (.node 123 iQ (.node 121 iQ (.node 120 aIY .nil .nil) (.node 122 aA0 .nil .nil)) (.node 125 iQ (.node 124 iQ .nil .nil) .nil)))))) (.node 191 iQ (.node 159 iQ (.node 144 aI3 (.node 137 iQ (.node 133 iQ (.node 128 aI1 (.node 127 aI0 .nil .nil) (.node 132 iQ .nil .nil)) (.node 135 iQ (.node 134 iQ .nil .nil) (.node 136 iQ .nil .nil))) (.node 141 iQ (.node 139 iQ (.node 138 iQ .nil .nil) (.node 140 aA0 .nil .nil)) (.node 143 iQ (.node 142 iQ .nil .nil) .nil))) (.node 152 iQ (.node 149 aI5 (.node 147 iQ (.node 145 iQ .nil .nil) (.node 148 aI4 .nil .nil)) (.node 151 iQ (.node 150 aI6 .nil .nil) .nil)) (.node 156 iQ (.node 154 iQ (.node 153 iQ .nil .nil) (.node 155 iQ .nil .nil)) (.node 158 iQ (.node 157 iQ .nil .nil) .nil)))) (.node 176 iQ (.node 167 iQ (.node 163 iQ (.node 161 iQ (.node 160 iQ .nil .nil) (.node 162 aI7 .nil .nil)) (.node 165 aCJ (.node 164 aCJ .nil .nil) (.node 166 iQ .nil .nil))) (.node 171 aJa (.node 169 iQ (.node 168 aI8 .nil .nil) (.node 170 aI9 .nil .nil)) (.node 174 iQ (.node 172 iQ .nil .nil) .nil))) (.node 184 iQ (.node 180 iQ (.node 178 aJb (.node 177 iQ .nil .nil) (.node 179 iQ .nil .nil)) (.node 183 iQ (.node 181 aJd .nil .nil) .nil)) (.node 188 iQ (.node 186 iQ (.node 185 iQ .nil .nil) (.node 187 iQ .nil .nil)) (.node 190 iQ (.node 189 aJe .nil .nil) .nil))))) (.node 226 iQ (.node 210 iQ (.node 199 aJg (.node 195 iQ (.node 193 iQ (.node 192 iQ .nil .nil) (.node 194 iQ .nil .nil)) (.node 197 aJf (.node 196 iQ .nil .nil) (.node 198 iQ .nil .nil))) (.node 204 iQ (.node 202 iQ (.node 200 aJh .nil .nil) (.node 203 iQ .nil .nil)) (.node 206 iQ (.node 205 iQ .nil .nil) .nil))) (.node 217 iQ (.node 214 aJk (.node 212 aJi (.node 211 iQ .nil .nil) (.node 213 aJj .nil .nil)) (.node 216 aCK (.node 215 aCK .nil .nil) .nil)) (.node 221 iQ (.node 219 aCL (.node 218 iQ .nil .nil) (.node 220 aCL .nil .nil)) (.node 224 iQ (.node 223 iQ .nil .nil) .nil)))) (.node 243 aJn (.node 235 aCM (.node 230 aJl (.node 228 iQ (.node 227 iQ .nil .nil) (.node 229 iQ .nil .nil)) (.node 232 iQ (.node 231 iQ .nil .nil) (.node 234 aCM .nil .nil))) (.node 240 aCN (.node 238 iQ (.node 237 iQ .nil .nil) (.node 239 aJm .nil .nil)) (.node 242 iQ (.node 241 aCN .nil .nil) .nil))) (.node 252 aCO (.node 248 iQ (.node 245 iQ (.node 244 iQ .nil .nil) (.node 247 iQ .nil .nil)) (.node 251 iQ (.node 250 iQ .nil .nil) .nil)) (.node 261 aGH (.node 259 iQ (.node 253 aCO .nil .nil) (.node 260 aGH .nil .nil)) (.node 263 aCP (.node 262 aCP .nil .nil) .nil)))))))
theorem aA5 {P:Program} {t:TypeId} {j:TypeInfo} {k:IntKind} (h:(P.info? t).map (·.zero)=a6 (a6 (.int k 0))) (d:P.info? t=a6 j):j.zero=a6 (.int k 0):=by rw[d]at h;simpa using h
theorem tkN {P:Program} {T:TT} {t:TypeId} {i:TI} (v:(P.info? t).map (fun f=>(f.size,f.bytes,f.zero.map fun z=>(z.cells.toList.map wO,z.cells.toList.all Value.oneCell')))=a6 (i.size,i.bytes,a6 (i.zero,true)):=by kernel_rfl)
  (h2:(P.underlying t).map kM=a6 (a6 i.k):=by kernel_rfl) (g:(match i.ty with|none=>a7|some _=>i.ty)=(match i.ty with|none=>a7|some _=>lG T i.k):=by kernel_rfl) (l:(match i.ty with|none=>true|some y=>Nat.beq y.size i.size)=true:=by kernel_rfl) (p:(i.isAgg||Nat.beq i.size 1)=true:=by kernel_rfl)
  (e:(!i.eq||(!P.eqGuardType P.depth t&&(!P.stoodInHeld t&&((P.underlying t).map (fun d=>match d with|.struct fs=>fs.toList.all fun f=>f.name != "_" |_=>false)).getD false)))=true:=by kernel_rfl)
  (x:(P.underlying t).map (fun d=>match d with|.struct fs=>fs.toList.all fun f=>(P.info? f.type).isSome|_=>true)=a6 true:=by kernel_rfl) (A:Nat.beq i.zero.length i.size=true:=by kernel_rfl)
  (q:(match i.ty with|some (.int .u8)=>Nat.beq t nH|_=>true)=true:=by kernel_rfl) (s:(!i.bld||Nat.beq t V5)=true:=by kernel_rfl)
  (u:(match i.k with|.int _=>(P.info? t).map (fun j:TypeInfo=>j.zero)|_=>a7)=(match i.k with|.int k=>a6 (a6 (Value.int k 0))|_=>a7):=by kernel_rfl):aC4 P T t i:=fun _=>by
 refine⟨v,h2, ?_,fun y B=> ?_, ?_,fun D=> ?_,x,aj A,fun E=> ?_,fun G=> ?_,fun k hk j I=> ?_⟩
 .cases hi:i.ty with
  |none=>exact .inl rfl
  |some y=>rw[hi]at g;exact .inr g
 .rw[B]at l;exact aj l
 .rw[Bool.or_eq_true]at p;exact p.imp id aj
 .rw[D]at e;simp only[au,Bool.false_or,af,Bool.not_eq_true']at e;refine⟨e.1,e.2.1, ?_⟩;have h:=e.2.2;generalize (P.underlying t).map _=o at h ⊢;cases o with
  |none=>cases h
  |some b=>exact congrArg a6 h
 .rw[E]at q;exact aj q
 .rw[G]at s;exact aj s
 .rw[hk]at u;exact aA5 u I
theorem tok:TOk prog tt:=TOk.of_all (by repeat' first|exact trivial|refine⟨tkN, ?_, ?_⟩)
def aFh (P:Program):Bool:=P.funcs.toList.all fun fn=>fn.body.isNone|| !(fn.name== "runtime.NumGoroutine")
theorem auT {P:Program} (h:aFh P=true):Jf P:=fun f fn c d e=>by
 have g:=List.all_eq_true.1 h fn (by have:=Array.mem_of_getElem? d;simpa using this);simpa [e] using g
theorem OV:Jf prog:=auT (by kernel_rfl)
theorem mixed:prog.follows .mixedOrders=true:=by kernel_rfl
noncomputable def sg0 (g:FuncId):Option Sum:=cond (Nat.beq g 216) (a6 axA)<|cond (Nat.beq g 131) (a6 acp) a7
theorem av1: ∀g s,sg0 g=a6 s->dU prog g s:=fun g s h=>by
 unfold sg0 at h;rw[cond_eq_ite]at h;split at h
 .rename_i d
  obtain rfl:g=216:=aj d;cases h;exact(afv func216 (by kernel_rfl) (by kernel_rfl) (by kernel_rfl) (by kernel_rfl))
 rw[cond_eq_ite]at h;split at h
 .rename_i d
  obtain rfl:g=131:=aj d;cases h;exact(XN func131 (by kernel_rfl) (by kernel_rfl) (by kernel_rfl) (by kernel_rfl))
 cases h
def aqU:Go.Shelf.Ren:=⟨fun|240=>123|276=>156|n=>n,fun|0=>0|4=>4|9=>9|20=>20|37=>74|70=>126|72=>128|164=>173|n=>n,fun n=>n⟩
theorem aiE:Go.Proofs.Lays.n240 prog aqU:={
 mixed:=mixed,
 f240:=(func123).trans (by kernel_rfl),
 f276:=(func156).trans (by kernel_rfl),
 t0:=underlying0,a0:=isAgg0,z0:=sizeOf0,v0:=zeroValue0,
 t4:=underlying4,a4:=isAgg4,z4:=sizeOf4,v4:=zeroValue4,
 t9:=underlying9,a9:=isAgg9,z9:=sizeOf9,v9:=zeroValue9,
 t20:=underlying20,a20:=isAgg20,z20:=sizeOf20,v20:=zeroValue20,
 t70:=underlying126,a70:=isAgg126,z70:=sizeOf126,v70:=zeroValue126,
 t72:=underlying128,a72:=isAgg128,z72:=sizeOf128,v72:=zeroValue128,
 t164:=underlying173,a164:=isAgg173,z164:=sizeOf173,v164:=zeroValue173}
theorem aHn:Go.Proofs.Builder.X72 prog aqU:={sizeBuilder:=by kernel_rfl,liesBuilder:=by kernel_rfl}
theorem ax3:Q4 prog DT 123:=by
 intro w b t o n e d;simp[DT,aHr]at d
theorem ax4 (g:FuncId) (h:GV g=true):xN prog DT g:=by
 simp only[GV,af]at h;obtain rfl:g=123:=aj h.1;exact⟨fun w b d e=>⟨Be OV func123 (show f123.body=a6 ((f123.body).getD .skip) by kernel_rfl) _ _,fun h0=>Any.Builder_copyCheck_used aiE aHn b w h0,fun h0=>Any.Builder_copyCheck_fresh aiE aHn b w h0 d e⟩,ax3⟩
theorem aDW (g:FuncId) (h:GX g=true):Je prog g:=by
 simp only[GX,af]at h;obtain rfl:g=anX:=aj h.1;exact anZ
noncomputable def aHC:Env:={P:=prog,T:=tt,cl:=true,kp:=fun _ _=>a7,sg:=fun _=>a7,lp:=fun _ _=>a7}
theorem aye:eu aHC:=⟨tok,mixed,OV,(fun _ _ h=>by cases h),(fun f fn c _ _=>iZ (fun _=>rfl) (fun _=>rfl) c),(fun f k jo d hr=>ak7 (fun f fn c _ _=>iZ (fun _=>rfl) (fun _=>rfl) c) f k jo d hr),(fun g=>⟨(fun h=>by cases h),(fun h=>by cases h),(fun h=>by cases h)⟩),(fun _ _ h=>by cases h)⟩
theorem awg:kX aHC 1000000 (.call abO [.nils,.fn CG []]) ⟨[],[],[],0⟩ (fun v st=>match v with|.tup []=>a6 ()|_=>a7)=a6 ():=by kernel_rfl
theorem aAW (w:World) (g:XZ w):Calls prog abO #[.slice a7 0 0,.func (.func CG) #[] #[]] w fun e w'=>e=.returned (.tuple #[])/\w.grownBy w' a7:=by
 refine(Dw aye 1000000 _ w abO [.nils,.fn CG []] _ _ () awg 0 a7 (kQ w fun _=>False) ⟨#[],[]⟩ [] #[.slice a7 0 0,.func (.func CG) #[] #[]] (zI g (fun b h=>h.elim)) (by simp[bJ,bU]) (fun e w'=>e=.returned (.tuple #[])/\w.grownBy w' a7) fun l z u o k1 k2 k3 k4=> ?_).2;split at k1
 .simp only[bU]at k3;obtain⟨f,rfl,i⟩:=k3;have j:f= #[]:=by
   obtain⟨f⟩:=f;cases f with
   |nil=>rfl
   |cons _ _=>simp[bJ]at i
  have d:=k2.ok.bel;exact⟨by rw[j],⟨d.os,d.tape,d.output,d.size,fun k hk _=>d.block k hk⟩⟩
 .cases k1
theorem aF1 (g:FuncId) (h:GY g=true):Jh prog g CG:=by
 simp only[GY,af]at h;obtain rfl:g=abO:=aj h.1;exact aoG aAW
theorem RJ (g:FuncId):(GV g=true->xN prog DT g)/\(GX g=true->Je prog g)/\(GY g=true->Jh prog g CG):=⟨ax4 g,aDW g,aF1 g⟩
noncomputable def aq6:Env:={P:=prog,T:=tt,cl:=true,kp:=fun _ _=>a7,sg:=sg0,lp:=fun _ _=>a7,bf:=GV,em:=DT,il:=GX,sl:=GY,sc:=CG}
theorem ae2: ∀E,sQ prog E->afJ E:=fun E h f k jo d hr=>ak7 h f k jo d hr
theorem aiJ:eu aq6:=⟨tok,mixed,OV,av1,fun f fn c _ _=>iZ (fun _=>rfl) (fun _=>rfl) c,ae2 _ fun f fn c _ _=>iZ (fun _=>rfl) (fun _=>rfl) c,RJ,fun _ _ h=>by cases h⟩
abbrev xJ:Ty:=(.pair .str (.pair .bool .unit))
def vX (l:List xJ.den):Option (List xJ.den):=cond (dY l 24) (a6 l) a7
theorem Ye (xs:List xJ.den):kX aq6 1000000 (.call 134 [.lst xJ xs false]) ⟨[],[],[],0⟩ (fun v st=>jQ true [(.list xJ,true)] (Ew 1 v) st.hp)=(bif dY xs 24 then a6 (xs,())else a7):=by kernel_rfl
theorem Yg:kX aq6 1000000 (.call 134 [.lst xJ [] true]) ⟨[],[],[],0⟩ (fun v st=>match v,st.hp with|.nils,[]=>a6 ()|_,_=>a7)=a6 ():=by kernel_rfl
def rM (l:List xJ.den):Option (List xJ.den×Unit):=match vX l with|some y=>a6 (y,())|none=>a7
def Pz:Sum:=⟨[.list xJ],[(.list xJ,true)],fun x=>rM x.1⟩
theorem xA:dU prog 134 Pz:=by
 have base:=CZ aiJ (e:=xJ) (e2:=xJ) (g:=134) (f:=vX) (show 0<xJ.size by decide) (show 0<xJ.size by decide) (fun xs y h=>by
  unfold vX at h;rw[Ye];cases hf:dY xs 24 with
  |true=>rw[hf]at h;cases h;rfl
  |false=>rw[hf]at h;cases h) fun y h=>by
  have e:vX []=a6 []:=rfl;rw[e]at h;cases h;exact⟨rfl,Yg⟩
 intro w i j x y l o hd d;refine base w i j x y l o hd ?_;have d:rM x.1=a6 y:=d;unfold rM at d;cases hc:vX x.1 with
 |none=>rw[hc]at d;cases d
 |some z=>rw[hc]at d;simp only[hc];exact d
abbrev xK:Ty:=(.pair (.int .i64) (.pair (.int .i64) .unit))
def rJ (l:List xK.den):Option (List xK.den):=cond (dY l 16) (a6 l) a7
theorem Yf (xs:List xK.den):kX aq6 1000000 (.call 246 [.lst xK xs false]) ⟨[],[],[],0⟩ (fun v st=>jQ true [(.list xK,true)] (Ew 1 v) st.hp)=(bif dY xs 16 then a6 (xs,())else a7):=by kernel_rfl
theorem Yh:kX aq6 1000000 (.call 246 [.lst xK [] true]) ⟨[],[],[],0⟩ (fun v st=>match v,st.hp with|.nils,[]=>a6 ()|_,_=>a7)=a6 ():=by kernel_rfl
def oI (l:List xK.den):Option (List xK.den×Unit):=match rJ l with|some y=>a6 (y,())|none=>a7
def yJ:Sum:=⟨[.list xK],[(.list xK,true)],fun x=>oI x.1⟩
theorem xB:dU prog 246 yJ:=by
 have base:=CZ aiJ (e:=xK) (e2:=xK) (g:=246) (f:=rJ) (show 0<xK.size by decide) (show 0<xK.size by decide) (fun xs y h=>by
  unfold rJ at h;rw[Yf];cases hf:dY xs 16 with
  |true=>rw[hf]at h;cases h;rfl
  |false=>rw[hf]at h;cases h) fun y h=>by
  have e:rJ []=a6 []:=rfl;rw[e]at h;cases h;exact⟨rfl,Yh⟩
 intro w i j x y l o hd d;refine base w i j x y l o hd ?_;have d:oI x.1=a6 y:=d;unfold oI at d;cases hc:rJ x.1 with
 |none=>rw[hc]at d;cases d
 |some z=>rw[hc]at d;simp only[hc];exact d
noncomputable def sg1 (g:FuncId):Option Sum:=cond (Nat.beq g 134) (a6 Pz)<|cond (Nat.beq g 246) (a6 yJ)<|sg0 g
theorem ah8: ∀g s,sg1 g=a6 s->dU prog g s:=fun g s h=>by
 unfold sg1 at h;rw[cond_eq_ite]at h;split at h
 .rename_i d
  obtain rfl:g=134:=aj d;cases h;exact xA
 rw[cond_eq_ite]at h;split at h
 .rename_i d
  obtain rfl:g=246:=aj d;cases h;exact xB
 exact av1 g s h
noncomputable def aJT:Env:={P:=prog,T:=tt,cl:=true,kp:=fun _ _=>a7,sg:=sg1,lp:=fun _ _=>a7,bf:=GV,em:=DT,il:=GX,sl:=GY,sc:=CG}
theorem aJt:eu aJT:=⟨tok,mixed,OV,ah8,fun f fn c _ _=>iZ (fun _=>rfl) (fun _=>rfl) c,ae2 _ fun f fn c _ _=>iZ (fun _=>rfl) (fun _=>rfl) c,RJ,fun _ _ h=>by cases h⟩
end
section
open Go.ChangeShapes Go.WideShapes Go.RowKit
end
section
open Option renaming some → a6, none → a7
open Tryz
open Go.RowKit
theorem uV {E:Env} {f:FuncId} {c:Code} {k:eQ} {l i j:SP} {p q:Ex} {D:Nat} {lp:Nat->l.den->Option (i.den⊕j.den)}
  (st:{g:Type}->(l.den->Option g)->(i.den->Option g)->(j.den->Option g)->l.den->Option g)
  (hk:E.kp f (dH c)=a6 k:=by kernel_rfl) (h0: ∀v,lp 0 v=a7:=by intro _;rfl) (s: ∀n v,lp (n+1) v=st (lp n) (fun e=>a6 (.inl e)) (fun r=>a6 (.inr r)) v:=by intro _ _;rfl)
  (u: ∀{R:Type} (d n:Nat) (K:Ex->St->Option R) (v:l.den),iter (a6 k) (Ap E (d+D) f c) (n+1) (lw l v) K=st (fun v=>iter (a6 k) (Ap E (d+D) f c) n (lw l v) K) (fun e=>K p (lw i e)) (fun r=>K q (lw j r)) v:=by intro _ d n K v;kernel_rfl)
  (h2: ∀{g A:Type} (x:l.den->Option g) (y:i.den->Option g) (z:j.den->Option g) (v:l.den) (K:g->Option A),bH (st x y z v) K=st (fun v=>bH (x v) K) (fun e=>bH (y e) K) (fun r=>bH (z r) K) v):
  dQ E f c (fJ k l i j p (fun v=>lp bM v) D q):=by
 refine aod hk fun R d K v o h=>⟨bM, ?_⟩;have B: ∀(n:Nat) (v:l.den),iter (a6 k) (Ap E (d+D) f c) n (lw l v) K=bH (lp n v) fun o=>dN o (fun a=>K p (lw i a)) fun b=>K q (lw j b):=by
  intro n
  induction n with
  |zero=>intro v;rw[h0];rfl
  |succ n G=>intro v;rw[u,s,h2,funext G];rfl
 exact(B bM v).trans (congrArg (fun o=>bH o _) h)
theorem lu {E:Env} {f:FuncId} {c:Code} {k:eQ} {l i j:SQ} {p q:Ex} {D:Nat} {lp:Nat->l.den->Option (i.den⊕j.den)}
  (st:{g:Type}->(l.den->Option g)->(i.den->Option g)->(j.den->Option g)->l.den->Option g)
  (hk:E.kp f (dH c)=a6 k:=by kernel_rfl) (h0: ∀v,lp 0 v=a7:=by intro _;rfl) (s: ∀n v,lp (n+1) v=st (lp n) (fun e=>a6 (.inl e)) (fun r=>a6 (.inr r)) v:=by intro _ _;rfl)
  (u: ∀{R:Type} (d n:Nat) (K:Ex->St->Option R) (v:l.den),iter (a6 k) (Ap E (d+D) f c) (n+1) (mY l v) K=st (fun v=>iter (a6 k) (Ap E (d+D) f c) n (mY l v) K) (fun e=>K p (mY i e)) (fun r=>K q (mY j r)) v:=by intro _ d n K v;kernel_rfl)
  (h2: ∀{g A:Type} (x:l.den->Option g) (y:i.den->Option g) (z:j.den->Option g) (v:l.den) (K:g->Option A),bH (st x y z v) K=st (fun v=>bH (x v) K) (fun e=>bH (y e) K) (fun r=>bH (z r) K) v):
  dQ E f c (fF k l i j p (fun v=>lp bM v) D q):=by
 refine ag5 hk fun R d K v o h=>⟨bM, ?_⟩;have B: ∀(n:Nat) (v:l.den),iter (a6 k) (Ap E (d+D) f c) n (mY l v) K=bH (lp n v) fun o=>dN o (fun a=>K p (mY i a)) fun b=>K q (mY j b):=by
  intro n
  induction n with
  |zero=>intro v;rw[h0];rfl
  |succ n G=>intro v;rw[u,s,h2,funext G];rfl
 exact(B bM v).trans (congrArg (fun o=>bH o _) h)
theorem aGG {E:Env} (d:eu E) {g:FuncId} {s:Sum} (e:news s.rs<=1) (h: ∀x,UC E g s.ps s.rs x=s.f x):dU E.P g s:=
 U2 d e fun x y i=>(h x).trans i
theorem fL {E:Env} {f:FuncId} {c:Code} {L:dE} (e:E.lp f (dH c)=a6 L) (h2:dQ E f c L): ∀d,E.lp f (dH c)=a6 d->dQ E f c d:=fun d h=>by
 simp_all
theorem fC {E:Env} {f:FuncId} {c:Code} {L:dE} (e:E.lp f (800000+dH c)=a6 L) (h2:zD E f c L): ∀d,E.lp f (800000+dH c)=a6 d->zD E f c d:=fun d h=>by
 simp_all
theorem aC {d:Type} {p:d->Prop} {a:d} {l:List d} (h:p a/\ ∀x∈l,p x): ∀x∈a::l,p x:=List.forall_mem_cons.2 h
theorem aN {d:Type} {p:d->Prop}: ∀x∈([]:List d),p x:=fun _ h=>absurd h List.not_mem_nil
theorem aCG {E:Env} (d:eu E) {g:FuncId} {s:fZ} (h: ∀x y,avy E g s.bt s.cs s.ps s.rs x y=s.f x y):dW E.P g s:=afu d fun x y _ e=>(h x y).trans e
theorem nT {P:Program} {g:FuncId} {s:fZ} (h: ∀x y,s.f x y=a7):dW P g s:=fun W0 c x y z _ _ _ _ e _ d=>nomatch (show(a7:Option _)=a6 z from(h x y).symm.trans d)
theorem aD {d:Type} {p:d->Prop} {a:d} {l:List d} (h:p a) (h2: ∀x∈l,p x): ∀x∈a::l,p x:=aC ⟨h,h2⟩
theorem fM {E:Env} {f:FuncId} {c:Code} {L:dE} (h2:dQ E f c L) (e:E.lp f (dH c)=a6 L:=by kernel_rfl): ∀d,E.lp f (dH c)=a6 d->dQ E f c d:=fL e h2
theorem sA {E:Env} (d:eu E) {g:FuncId} {s:Sum} (e:news s.rs<=1:=by decide) (h: ∀x,UC E g s.ps s.rs x=s.f x:=by intro x;kernel_rfl):dU E.P g s:=aGG d e h
theorem sB {E:Env} (d:eu E) {g:FuncId} {s:fZ} (h: ∀x y,avy E g s.bt s.cs s.ps s.rs x y=s.f x y:=by intro x y;kernel_rfl):dW E.P g s:=aCG d h
theorem nV {E:Env} {f:FuncId} {c:Code} (l:List Code) (h: ∀d∈l,∀L,E.lp f (dH d)=a6 L->dQ E f d L) (hl:jJ c=l:=by kernel_rfl) (k:Zf E f c=true:=by kernel_rfl) (e: ∀id,E.rf f id=false:=by intro _;rfl):dM E f c:=ag6 c e (by rw[hl];exact h) k
theorem eA {f:FuncId} {sg:List (FuncId×Sum)} {kp:List (Nat×eQ)} {lp:List (Nat×dE)} {sb:List (FuncId×fZ)} (fn:Func) (d: ∀e∈sg,dU prog e.1 e.2) (hl:dM (iJ prog tt f sg kp lp sb) f (fn.body.getD .skip):=by exact iZ (fun _=>rfl) (fun _=>rfl) _) (hf:prog.funcs[f]? =a6 fn:=by kernel_rfl) (hb:fn.body=a6 (fn.body.getD .skip):=by kernel_rfl) (hx: ∀e∈sb,dW prog e.1 e.2:=by simp):eu (iJ prog tt f sg kp lp sb):=ar7 tok mixed OV d hf hb hl ae2 RJ hx
theorem eB {sg:List (FuncId×Sum)} {kp:List (FuncId×Nat×eQ)} {lp:List (FuncId×Nat×dE)} {rf:List FuncId} {sb:List (FuncId×fZ)} (f: ∀e∈sg,dU prog e.1 e.2) (d:List FuncId) (hl: ∀g∈d,∃fn c,prog.funcs[g]? =a6 fn/\fn.body=a6 c/\dM (gB prog tt sg kp lp rf sb) g c) (hx: ∀e∈sb,dW prog e.1 e.2:=by simp) (h:(lp.all fun e=>d.any fun g=>Nat.beq e.1 g)=true:=by kernel_rfl) (i:(rf.all fun e=>d.any fun g=>Nat.beq e g)=true:=by kernel_rfl):eu (gB prog tt sg kp lp rf sb):=anE tok mixed OV f d h i hl ae2 RJ hx
theorem sE {g:FuncId} {s:Sum} {l:List (FuncId×Sum)} (h:dU prog g s) (h2: ∀e∈l,dU prog e.1 e.2): ∀e∈(g,s)::l,dU prog e.1 e.2:=aD (p:=fun e:FuncId×Sum=>dU prog e.1 e.2) h h2
theorem sF {g:FuncId} {s:fZ} {l:List (FuncId×fZ)} (h:dW prog g s) (h2: ∀e∈l,dW prog e.1 e.2): ∀e∈(g,s)::l,dW prog e.1 e.2:=aD (p:=fun e:FuncId×fZ=>dW prog e.1 e.2) h h2
theorem qA {g:FuncId} {s:Sum} {sg:List (FuncId×Sum)} {sb:List (FuncId×fZ)} (fn:Func) (kp:List (Nat×eQ)) (d: ∀e∈sg,dU prog e.1 e.2) (hx: ∀e∈sb,dW prog e.1 e.2:=by exact aN) (hf:prog.funcs[g]? =a6 fn:=by kernel_rfl) (hb:fn.body=a6 (fn.body.getD .skip):=by kernel_rfl) (h: ∀x,UC (iJ prog tt g sg kp [] sb) g s.ps s.rs x=s.f x:=by intro x;kernel_rfl) (i:news s.rs<=1:=by decide):dU prog g s:=aGG (eA fn d (hl:=iZ (fun _=>by show(bif Nat.beq g g then a7 else a7)=a7;cases Nat.beq g g<;>rfl) (fun _=>rfl) _) (hf:=hf) (hb:=hb) (hx:=hx)) i h
theorem qC {g:FuncId} {s:Sum} {sg:List (FuncId×Sum)} {sb:List (FuncId×fZ)} (kp:List (FuncId×Nat×eQ)) (d: ∀e∈sg,dU prog e.1 e.2) (hx: ∀e∈sb,dW prog e.1 e.2:=by exact aN) (h: ∀x,UC (gB prog tt sg kp [] [] sb) g s.ps s.rs x=s.f x:=by intro x;kernel_rfl) (i:news s.rs<=1:=by decide):dU prog g s:=aGG (eB d [] aN hx) i h
theorem qB {g:FuncId} {s:fZ} {sg:List (FuncId×Sum)} {sb:List (FuncId×fZ)} (kp:List (FuncId×Nat×eQ)) (d: ∀e∈sg,dU prog e.1 e.2) (hx: ∀e∈sb,dW prog e.1 e.2:=by exact aN) (h: ∀x y,avy (gB prog tt sg kp [] [] sb) g s.bt s.cs s.ps s.rs x y=s.f x y:=by intro x y;kernel_rfl):dW prog g s:=aCG (eB d [] aN hx) h
end
section
open Option renaming some → a6, none → a7
open Tryz
open Go.RowKit
def uU (d:List oD) (e:Bool) (f g:Int):Option (taN×(Unit)):=cond (fD d (eU .i64 (bI d) 1)) (cond (lZ (dC (eU .i64 (bI d) 1)) d) (a6 (((gX d (dC (eU .i64 (bI d) 1)) (g,((dJ d (0,(0,())) (dC (eU .i64 (bI d) 1))).2.1,()))),(e,(f,()))),())) a7) a7
def awR:fZ:=⟨216,tzC,[dA],[],fun x y=>uU x.1 x.2.1 x.2.2.1 y.1⟩
theorem NT:dW prog 202 awR:=qB [] aN
def wV (d:List oD) (e:Bool) (f:Int):Option (taN×(Unit)):=cond (gV 1 (bI d)) (cond (fE (bI d) 0 (eU .i64 (bI d) 1)) (a6 (((takeN d (dC (eU .i64 (bI d) 1))),(e,(f,()))),())) a7)<|some ((d,(e,(f,()))),())
def awS:fZ:=⟨216,tzC,[],[],fun x y=>wV x.1 x.2.1 x.2.2.1⟩
theorem wI:dW prog 203 awS:=qB [] aN
def ajj (d:List oD) (e:Bool) (f:Int):Option (taN×CQ):=cond (fD d (BM (eU .i64 (bI d) 2) 0)) (cond (lZ (dC (BM (eU .i64 (bI d) 2) 0)) d) (a6 ((d,(e,(f,()))),((dJ d (0,(0,())) (dC (BM (eU .i64 (bI d) 2) 0))).1,()))) a7) a7
def aGw:fZ:=⟨216,tzC,[],[dA],fun x y=>ajj x.1 x.2.1 x.2.2.1⟩
theorem apv:dW prog 241 aGw:=qB [] aN
def Oj (f:List oD) (g:Bool) (h i:Int):Option (taN×pq):=cond (bP i 40) (bH (uU f g h 3) fun d=>a6 ((d.1.1,(true,(d.1.2.2.1,()))),(true,())))<|cond (bP i 123) (bH (ajj f g h) fun d=>cond (bP d.2.1 5) (cond (bP d.2.1 5) (bH (uU d.1.1 d.1.2.1 d.1.2.2.1 8) fun e=>a6 ((e.1.1,(e.1.2.1,(e.1.2.2.1,()))),(true,())))<|bH (uU d.1.1 d.1.2.1 d.1.2.2.1 7) fun e=>a6 ((e.1.1,(e.1.2.1,(e.1.2.2.1,()))),(true,())))<|cond (bP d.2.1 8) (bH (uU d.1.1 d.1.2.1 d.1.2.2.1 8) fun e=>a6 ((e.1.1,(e.1.2.1,(e.1.2.2.1,()))),(true,())))<|bH (uU d.1.1 d.1.2.1 d.1.2.2.1 7) fun e=>a6 ((e.1.1,(e.1.2.1,(e.1.2.2.1,()))),(true,())))<|cond (bP i 36) (bH (wV f g h) fun d=>a6 ((d.1.1,(d.1.2.1,(d.1.2.2.1,()))),(true,())))<|bH (wV f g h) fun d=>a6 ((d.1.1,(d.1.2.1,(d.1.2.2.1,()))),(false,()))
def awQ:fZ:=⟨216,tzC,[.int .u8],[.bool],fun x y=>Oj x.1 x.2.1 x.2.2.1 y.1⟩
theorem apg:dW prog 201 awQ:=qB [] aN (sF NT (sF wI (sF apv aN)))
noncomputable def b44:Code:=(f44.body).getD .skip
noncomputable def A7:Code:=cB (cB (cB (cB (cB (cB (cB (cA (cA (cB (b44))))))))))
noncomputable def A8:Code:=cB (cB (b44))
noncomputable def Ba:Code:=cB (cA (cB (cA (cB (cB (b44))))))
noncomputable def Bc:Code:=cB (cB (cB (cA (cB (cA (cB (cB (b44))))))))
def Bz:eQ:=⟨[0,18,900011],[],[0],[],[2],[]⟩
def BA:eQ:=⟨[0,900012],[],[2],[],[2],[]⟩
def BB:eQ:=⟨[33,34,900020],[],[],[],[2],[]⟩
def BC:eQ:=⟨[42,900026],[],[],[],[2],[]⟩
def ar {a b c d e g h R:Type} (f:a->b->c->d->e->g->h->R) (v:((a×b×c×Unit)×((d×e×g×h×Unit)×Unit×Unit)×Unit)):R:=f v.1.1 v.1.2.1 v.1.2.2.1 v.2.1.1.1 v.2.1.1.2.1 v.2.1.1.2.2.1 v.2.1.1.2.2.2.1
def aE {a R:Type} (f:((a×Unit)×Unit)->R):a->R:=fun a=>f ((a,()),())
def aL {a b R:Type} (f:((a×b×Unit)×Unit)->R):a->b->R:=fun a b=>f ((a,b,()),())
def aM {a b c d R:Type} (f:((a×b×c×d×Unit)×Unit)->R):a->b->c->d->R:=fun a b c d=>f ((a,b,c,d,()),())
def aR {a b c d R:Type} (f:a->b->c->d->R) (v:((a×b×c×d×Unit)×Unit)):R:=f v.1.1 v.1.2.1 v.1.2.2.1 v.1.2.2.2.1
def a8 {a b c R:Type} (f:((a×b×c×Unit)×Unit)->R):a->b->c->R:=fun a b c=>f ((a,b,c,()),())
def ba {a b c R:Type} (f:a->b->c->R) (v:((a×b×c×Unit)×Unit)):R:=f v.1.1 v.1.2.1 v.1.2.2.1
def bb {a b c d e g h i j k l R:Type} (f:a->b->c->d->e->g->h->i->j->k->l->R) (v:((a×b×c×d×Unit)×((e×g×h×i×j×Unit)×k×l×Unit))):R:=f v.1.1 v.1.2.1 v.1.2.2.1 v.1.2.2.2.1 v.2.1.1 v.2.1.2.1 v.2.1.2.2.1 v.2.1.2.2.2.1 v.2.1.2.2.2.2.1 v.2.2.1 v.2.2.2.1
def bc {a b c d e g R:Type} (f:(Unit×((a×Unit)×Unit×Unit×Unit)×((b×c×Unit)×d×Unit×(e×Unit)×g×Unit×Unit))->R):a->b->c->d->e->g->R:=fun a b c d e g=>f ((),((a,()),(),(),()),((b,c,()),d,(),(e,()),g,(),()))
def be {a b c d e g h i j k l m n o p q r s t u R:Type} (f:a->b->c->d->e->g->h->i->j->k->l->m->n->o->p->q->r->s->t->u->R) (v:((a×b×c×Unit)×((d×e×g×h×Unit)×(i×Unit)×Unit×Unit×Unit)×(j×(k×l×m×n×o×Unit)×p×Unit×Unit×(q×r×Unit)×s×Unit×(t×Unit)×u×Unit×Unit))):R:=f v.1.1 v.1.2.1 v.1.2.2.1 v.2.1.1.1 v.2.1.1.2.1 v.2.1.1.2.2.1 v.2.1.1.2.2.2.1 v.2.1.2.1.1 v.2.2.1 v.2.2.2.1.1 v.2.2.2.1.2.1 v.2.2.2.1.2.2.1 v.2.2.2.1.2.2.2.1 v.2.2.2.1.2.2.2.2.1 v.2.2.2.2.1 v.2.2.2.2.2.2.2.1.1 v.2.2.2.2.2.2.2.1.2.1 v.2.2.2.2.2.2.2.2.1 v.2.2.2.2.2.2.2.2.2.2.1.1 v.2.2.2.2.2.2.2.2.2.2.2.1
def bh {a b c d e g h i j k l m n o p R:Type} (f:a->b->c->d->e->g->h->i->j->k->l->m->n->o->p->R) (v:((a×Unit)×(Unit×Unit×Unit×Unit)×((b×c×d×e×Unit)×(g×h×i×Unit)×(j×Unit)×Unit×k×(l×m×n×Unit)×Unit×(o×p×Unit)×Unit))):R:=f v.1.1 v.2.2.1.1 v.2.2.1.2.1 v.2.2.1.2.2.1 v.2.2.1.2.2.2.1 v.2.2.2.1.1 v.2.2.2.1.2.1 v.2.2.2.1.2.2.1 v.2.2.2.2.1.1 v.2.2.2.2.2.2.1 v.2.2.2.2.2.2.2.1.1 v.2.2.2.2.2.2.2.1.2.1 v.2.2.2.2.2.2.2.1.2.2.1 v.2.2.2.2.2.2.2.2.2.1.1 v.2.2.2.2.2.2.2.2.2.1.2.1
def bj {a b c d e g R:Type} (f:((a×Unit)×(Unit×Unit)×((b×c×d×e×Unit)×g×Unit))->R):a->b->c->d->e->g->R:=fun a b c d e g=>f ((a,()),((),()),((b,c,d,e,()),g,()))
def bk {a b c d e g R:Type} (f:a->b->c->d->e->g->R) (v:((a×Unit)×(Unit×Unit)×((b×c×d×e×Unit)×g×Unit))):R:=f v.1.1 v.2.2.1.1 v.2.2.1.2.1 v.2.2.1.2.2.1 v.2.2.1.2.2.2.1 v.2.2.2.1
def bl {a b c d e R:Type} (f:(Unit×(Unit×Unit)×((a×b×c×d×Unit)×e×Unit))->R):a->b->c->d->e->R:=fun a b c d e=>f ((),((),()),((a,b,c,d,()),e,()))
def bm {a b c d e R:Type} (f:a->b->c->d->e->R) (v:(Unit×(Unit×Unit)×((a×b×c×d×Unit)×e×Unit))):R:=f v.2.2.1.1 v.2.2.1.2.1 v.2.2.1.2.2.1 v.2.2.1.2.2.2.1 v.2.2.2.1
def bo {a b c d e g h i j k l R:Type} (f:(Unit×((a×b×Unit)×(c×d×Unit)×(e×g×Unit)×Unit×Unit)×(Unit×Unit×h×(i×j×k×l×Unit)×Unit))->R):a->b->c->d->e->g->h->i->j->k->l->R:=fun a b c d e g h i j k l=>f ((),((a,b,()),(c,d,()),(e,g,()),(),()),((),(),h,(i,j,k,l,()),()))
def bp {a b c d e g R:Type} (f:(Unit×((a×b×Unit)×(c×d×Unit)×(e×g×Unit)×Unit×Unit)×Unit)->R):a->b->c->d->e->g->R:=fun a b c d e g=>f ((),((a,b,()),(c,d,()),(e,g,()),(),()),())
def bq {a b c d e g h i j k l R:Type} (f:a->b->c->d->e->g->h->i->j->k->l->R) (v:(Unit×((a×b×Unit)×(c×d×Unit)×(e×g×Unit)×Unit×Unit)×(Unit×Unit×h×(i×j×k×l×Unit)×Unit))):R:=f v.2.1.1.1 v.2.1.1.2.1 v.2.1.2.1.1 v.2.1.2.1.2.1 v.2.1.2.2.1.1 v.2.1.2.2.1.2.1 v.2.2.2.2.1 v.2.2.2.2.2.1.1 v.2.2.2.2.2.1.2.1 v.2.2.2.2.2.1.2.2.1 v.2.2.2.2.2.1.2.2.2.1
def br {a b c d e g h R:Type} (f:((a×Unit)×(Unit×Unit)×((b×c×d×e×g×Unit)×h×Unit))->R):a->b->c->d->e->g->h->R:=fun a b c d e g h=>f ((a,()),((),()),((b,c,d,e,g,()),h,()))
def bs {a b c d e g h R:Type} (f:a->b->c->d->e->g->h->R) (v:((a×Unit)×(Unit×Unit)×((b×c×d×e×g×Unit)×h×Unit))):R:=f v.1.1 v.2.2.1.1 v.2.2.1.2.1 v.2.2.1.2.2.1 v.2.2.1.2.2.2.1 v.2.2.1.2.2.2.2.1 v.2.2.2.1
def bv {a b c d e g R:Type} (f:a->b->c->d->e->g->R) (v:((a×b×c×d×e×Unit)×(g×Unit))):R:=f v.1.1 v.1.2.1 v.1.2.2.1 v.1.2.2.2.1 v.1.2.2.2.2.1 v.2.1
def bw {a b c d e g h i j k l m R:Type} (f:a->b->c->d->e->g->h->i->j->k->l->m->R) (v:((a×b×c×Unit)×((d×e×g×Unit)×(h×i×Unit)×(j×k×l×m×Unit)×Unit))):R:=f v.1.1 v.1.2.1 v.1.2.2.1 v.2.1.1 v.2.1.2.1 v.2.1.2.2.1 v.2.2.1.1 v.2.2.1.2.1 v.2.2.2.1.1 v.2.2.2.1.2.1 v.2.2.2.1.2.2.1 v.2.2.2.1.2.2.2.1
def bx {a b c d e g h i j k l m n o p R:Type} (f:a->b->c->d->e->g->h->i->j->k->l->m->n->o->p->R) (v:((a×b×c×Unit)×((d×e×g×Unit)×(h×i×Unit)×(j×k×l×m×Unit)×(n×o×p×Unit)×Unit))):R:=f v.1.1 v.1.2.1 v.1.2.2.1 v.2.1.1 v.2.1.2.1 v.2.1.2.2.1 v.2.2.1.1 v.2.2.1.2.1 v.2.2.2.1.1 v.2.2.2.1.2.1 v.2.2.2.1.2.2.1 v.2.2.2.1.2.2.2.1 v.2.2.2.2.1.1 v.2.2.2.2.1.2.1 v.2.2.2.2.1.2.2.1
def bA {a b c d e g h i j k l m n R:Type} (f:a->b->c->d->e->g->h->i->j->k->l->m->n->R) (v:((a×b×c×Unit)×(Unit×Unit×Unit×Unit)×(Unit×(d×Unit)×Unit×e×(g×Unit)×h×(i×j×k×Unit)×Unit×l×Unit×(m×Unit)×n×Unit))):R:=f v.1.1 v.1.2.1 v.1.2.2.1 v.2.2.2.1.1 v.2.2.2.2.2.1 v.2.2.2.2.2.2.1.1 v.2.2.2.2.2.2.2.1 v.2.2.2.2.2.2.2.2.1.1 v.2.2.2.2.2.2.2.2.1.2.1 v.2.2.2.2.2.2.2.2.1.2.2.1 v.2.2.2.2.2.2.2.2.2.2.1 v.2.2.2.2.2.2.2.2.2.2.2.2.1.1 v.2.2.2.2.2.2.2.2.2.2.2.2.2.1
def co:FK:=.ptr 0 0
def cG:FK:=.fn 257 [(1000001,0),(2000003,0)]
def bO:FK:=.v dA
def cI:FK:=.ptr 1000001 0
def bN:List FK:=[co]
def bB:List (List FK):=[us [co,.u,cG,.u,.u,.u,bO,bO,.u,.u,.u,.u,.u,.u,.u,.u,.u,.u,.u,.u,.u,.u,.u,.u,.u,.u,.u,.u,.u,.u,.u,.u,.u,.u,.u,.u,.u,cG] 16,us [co,bO,cG,.u,.u,.u,.u,.u,.u,.u,.u,.u,.u,co,bO,cG] 8,[.u,cI,bO,.ptr 2000003 0,.u,.u,.u,.u,.u,.u,.u,.u,.u,.u,.u,.u,.u,.u,.u,.u,.u,.u,.u,.u,.u,.u,.u,.u,co,bO,cG,.u],bN]
def bR:FK:=.v .str
def ct:HK:=.arr 1 nK
def bE:List HK:=[.box 0 100 [.v oG,bR,.slc 1,bO,bO,bO],ct]
def bL:HK:=.box 0 90 [.v oG,bO,.slc 1,bO,bO]
def eb:FK:=.ptr 2000001 0
def cM:FK:=.fn 211 [(3000003,0),(3000002,0)]
def ca:FK:=.v .bool
def c8:FK:=.ptr 2000011 0
def bS:List FK:=[.u,eb,.ptr 3000002 0,.ptr 3000003 0,cM,bO,.ptr 3000006 0,.u,.u,.u,.u,.u,.u,.u,.u,.u,.u,.u,.u,.u,.u,.u,.u,.u,.u,.u,.u,.u,.u,.u,.u,.u,.u,.u,.u,.u,.u,.u,.u,.u,.u,.u,.u,.u,.u,.u,.u,.u,.u,.u,.u,.u,.u,.u,.u,.u,.u,.u,.u,.u,.u,.u,.u,.u,.u,.u,.u,.u,.u,.u,.u,.u,.u,.u,.u,.u,.u,.u,.u,.u,.u,.u,.u,.u,.u,.u,.u,.u,.u,.u,.u,.u,.u,.u,.u,.u,.u,.u,.u,.u,.u,cM,ca,ca,c8,.v Jd,.yld 1700008,.u,.u,.u,.u,.u]
def ez:FK:=.fn 176 [(1000001,0)]
def bX:List (List FK):=[us [co,.u,ez,.u,.u,.u,bO,bO,.u,.u,.u,.u,.u,.u,.u,.u,.u,.u,.u,.u,.u,.u,.u,.u,.u,.u,.u,.u,.u,.u,.u,.u,.u,.u,.u,.u,.u,ez] 16,[.u,cI,.u,.u,.u,.u,.u,co,ez,.u],bN]
def cz:HK:=.box 2000011 220 [bR,.v VU,.mpv 2000009]
def cY:HK:=.mp 2000009 .i64 .i64
def eC:HK:=.box 2000001 189 [c8]
def cW:FK:=.ptr 1000003 0
def cj:List FK:=us [.u,.u,bR,cW] 9
def cS:HK:=.arr 1500003 (.int .u8)
def cw:HK:=.box 1000003 128 [.slf 1000003,.slc 1500003]
def b8:List HK:=[cz,cY,eC,.lp 1700008 143 (cj) [8] 4 0 a7,cS,cw]
def eJ:FK:=.ptr 1000002 0
def ef:FK:=.ptr 1000004 0
def eK:FK:=.ptr 1000007 0
def ec:FK:=.ptr 1000008 0
def ck:List FK:=us [.u,.u,eJ,.u,ef,.u,.u,eK,ec] 60
def c7:FK:=.v (.list nK)
def cr:List FK:=[bO,.v (.list Dk),ca]
def dz:HK:=.box 1000004 28 [.slc 1500004]
def cN:HK:=.box 0 79 [bO,.slc 1]
def eV:HK:=.arr 1 Vp
def ce:List HK:=[.lp 1700025 10 (ck) [25,26] 7 0 a7,.box 2000001 59 [c7],.box 1000008 55 [.mpv 1000021],.mp 1000021 .i64 .i64,.box 1000007 53 [.v oG],.arr 1500007 Vb,.box 1000006 50 cr,dz,.arr 1500004 Hu,.box 1000002 25 bN,cN,eV]
def cQ:List FK:=[.yld 1700008]
def cf:List HK:=[.arr 4800009 (.int .u8),.box 3000006 200 [bO,bO,bO,bO,ca],.arr 3500003 (.int .u8),.box 3000003 74 [.nils],.box 3000002 221 cQ,cz,cY,eC,.lp 1700008 143 (cj) [8] 4 0 a7,cS,cw]
def cg:List HK:=[.arr 3500003 (.int .u8),.box 3000003 74 [.slc 3500003],.box 3000002 221 cQ,cz,cY,eC,.lp 1700008 143 (cj) [8] 4 0 a7,cS,cw]
def cy:FK:=.ptr 1000005 0
def ci:List FK:=us [.u,.u,.nils,cW,ef,cy] 13
def cU:HK:=.arr 1000012 (.pair .str tyL)
def cm:List HK:=[.box 1000008 200 [bO,bO,bO,bO,ca],.arr 1800005 Jd,cU]
def cq:HK:=.box 1000001 88 bN
def eO:FK:=.v LD
def cx:List (List FK):=[us [eO,bR,.u,.u,.u,.u,.u,.u,.u,.u,.u,.u,.u,.u,.u,.u,.u,.u,.u,.u,.u,.u,eO] 44,[]]
def eg:HK:=.box 1000009 241 [.slc 1500009,.slc 1502009]
def cC:List HK:=[.arr 1502009 dA,.arr 1500009 Jd,eg]
def eh:FK:=.v (.list Vo)
def cD:List HK:=[.lp 1700014 141 (us [.u,.u,bR,.u,.u,cy] 15) [14] 5 0 a7,.box 2000001 181 [eh],.box 1000005 74 [.slc 1500005],.arr 1500005 (.int .u8)]
def cE:List HK:=[.arr 3502011 Vp,.box 3000011 79 [bO,.slc 3502011]]
def cF:List HK:=[.box 0 241 [.slc 1,.slc 2],.arr 1 Jd,.arr 2 dA]
def cH:HK:=.box 2000004 216 [.slc 2000002,ca,bO]
def cJ:List FK:=[co,bR,.u,.u,.u,.u,co,co,.ptr 0 1,.slc 1,bR,.u,.u,.u]
def du:HK:=.box 1000005 50 cr
def cK:List HK:=[.box 1000011 50 cr,.box 1000007 50 [bO,.nils,ca],.box 1000006 32 [bO,bO,bO,ca],du]
def cL:FK:=.v (.int .u8)
def cP:List FK:=[.u,.u,.u,.u,bO]
def cR:List FK:=us [bR,bO,.u,.u,.u,cy,.ptr 1000006 0,eK,.u,.u,.u,.ptr 1000011 0,.u,.u,bO] 171
def cT:FK:=.v (.list Hu)
def cV:HK:=.box 1000003 50 [bO,.nils,ca]
def cX:List (List FK):=[us [.u,.u,bR,.u,.u,cy] 15,[.yld 1700014],[]]
def c6:List HK:=[.box 1000011 50 cr,.box 1000007 50 [bO,.nils,ca],.box 1000006 32 [bO,bO,bO,ca]]
def c9:List (List FK):=[bN]
def da:List HK:=[.box 1000005 149 [bR,ca]]
def db:List FK:=us [co,.u,.u,.u,.u,bO] 102
def de:List FK:=[bR,bO,.u,.u,.u,.u,.u,.u,.u,bR,bO,.u]
def dg:List FK:=[bR,bO,.u,.u,.u,bR,bO,.u,.u,.u,.u,.u]
def dj:FK:=.slc 1800005
def eR:List FK:=[bR,.v (.list dA),ca]
def dk:List HK:=[.box 1000003 165 eR,.box 1000002 165 [bR,.nils,ca]]
def dq:List HK:=[bL,ct]
def dr:List HK:=[.arr 1800008 Hu,.arr 1000025 .bool]
def dt:HK:=.arr 2000002 Vo
def dv:HK:=.box 1000004 200 [bO,bO,bO,bO,ca]
def dx:List HK:=[.arr 1200482 nK,.box 1000024 100 [.v oG,bR,.slc 1200482,bO,bO,bO]]
def dy:FK:=.slc 1000012
def d5:List FK:=us [.u,.u,.u,.u,.u,.u,.u,bO] 25
def d6:List FK:=us [] 13
def d7:List FK:=us [.u,.u,.v VU] 119
def d8:FK:=.slc 1800004
def d9:List FK:=[.u,.u,bO]
def ei:List FK:=[bR,bO,.u,.u,.u,bR,bO,.u]
def ej:List HK:=[dt,.box 0 216 [.slc 2000002,ca,bO],.arr 1 Vo]
def ek:List HK:=[.box 2000003 1 [.mfn 252 [(0,0)]],cq,ct,bL]
def en:List HK:=[.box 2000003 1 [.mfn 253 [(0,0)]],cq,ct,bL]
def eo:List HK:=[.box 2000003 1 [.mfn 254 [(0,0)]],cq,ct,bL]
def er:List HK:=[.box 2000003 1 [.mfn 255 [(0,0)]],cq,ct,bL]
def ev:List HK:=[.box 2000003 1 [.mfn 256 [(0,0)]],cq,ct,bL]
def ey:List HK:=[.box 2000003 1 [.mfn 251 [(0,0)]],cq,ct,bL]
def eD:List FK:=[co,.u,.u,bO]
def eE:FK:=.ptr 1000009 0
def eI:FK:=.ptr 2000004 0
def eM:FK:=.ptr 3000011 0
def eN:List FK:=us [bR,.u,.u,.u,.u,cy,.u,.u,.u,bO,bO] 63
def eS:List FK:=us [cI] 12
def eT:List FK:=[co,.u,bO]
def eW:List HK:=[.box 0 216 [.slc 1,ca,bO],.arr 1 Vo]
def IE:SP:=⟨us [cL,.u,.u,.u,.u,.u,.u,.u,.u,.u,.u,.u,.u,.u,.u,.u,.u,.u,ca] 29,[]⟩
def uD:SP:=⟨us [cL] 47,[]⟩
def uF:SP:=⟨us d9 45,[]⟩
def Ez {d:Type} (e f:Int->Option d) (g:Int) (h:Bool):Option d:=cond h (f 5)<|e g
def lX (d:Int) (e:Bool):Option (uD.den⊕uF.den):=Ez (fun f=>a6 (.inl ((f,()),()))) (fun g=>a6 (.inr ((g,()),()))) d e
noncomputable def OL:dE:=fJ Bz IE uD uF (.exit 999999) (fun v=>lX v.1.1 v.1.2.1) 6
def IJ:SP:=⟨[.u,.u,.u,.u,.u,.u,.u,.u,.u,.u,.u,.u,.u,.u,.u,.u,.u,.u,.u,.u,.u,.u,.u,.u,.u,.u,.u,.u,.u,.u,.u,.u,.u,.u,.u,.u,.u,.u,.u,.u,.u,.u,ca,.u,.u,.u,.u,.u],[]⟩
def yl:SP:=⟨us [] 48,[]⟩
def yA:SP:=⟨us d9 45,[]⟩
def EE {d:Type} (e:Option d) (f:Int->Option d) (g:Bool):Option d:=cond g (f 4) e
def lY (d:Bool):Option (yl.den⊕yA.den):=EE (a6 (.inl ((),()))) (fun e=>a6 (.inr ((e,()),()))) d
noncomputable def OQ:dE:=fJ BC IJ yl yA (.exit 999999) (fun v=>lY v.1.1) 12
def II:SP:=⟨us [.u,.u,.u,.u,.u,.u,.u,.u,.u,.u,.u,.u,.u,.u,.u,.u,.u,.u,.u,.u,.u,.u,.u,.u,.u,.u,.u,.u,.u,.u,.u,.u,.u,cL,ca] 13,[]⟩
def yj:SP:=⟨us [] 48,[]⟩
def yz:SP:=⟨us d9 45,[]⟩
def ED {j:Type} (h:Option j) (g:Int->Option j) (d:Int) (l:Bool):Option j:=cond l (g 3)<|cond (bP d 92) (bH (lY (bP d 92)) fun e=>dN e (fun i=>h) (fun f=>g f.1.1))<|cond (bP d 39) (bH (lY (bP d 39)) fun e=>dN e (fun i=>h) (fun f=>g f.1.1))<|cond (bP d 34) (bH (lY (bP d 34)) fun e=>dN e (fun i=>h) (fun f=>g f.1.1))<|cond (bP d 96) (bH (lY (bP d 96)) fun e=>dN e (fun i=>h) (fun f=>g f.1.1))<|bH (lY (bP d 36)) fun e=>dN e (fun i=>h) (fun f=>g f.1.1)
def jU (d:Int) (e:Bool):Option (yj.den⊕yz.den):=ED (a6 (.inl ((),()))) (fun f=>a6 (.inr ((f,()),()))) d e
noncomputable def OO:dE:=fJ BB II yj yz (.exit 999999) (fun v=>jU v.1.1 v.1.2.1) 18
def IG:SP:=⟨us [cL] 47,[]⟩
def yh:SP:=⟨[],[]⟩
def yx:SP:=⟨us d9 45,[]⟩
def EC {i:Type} (j:Option i) (e:Int->Option i) (d:Int):Option i:=cond (bP d 124) (bH (jU d (bP d 124)) fun f=>dN f (fun h=>e 0) (fun g=>e g.1.1))<|cond (bP d 38) (bH (jU d (bP d 38)) fun f=>dN f (fun h=>e 0) (fun g=>e g.1.1))<|cond (bP d 59) (bH (jU d (bP d 59)) fun f=>dN f (fun h=>e 0) (fun g=>e g.1.1))<|cond (bP d 60) (bH (jU d (bP d 60)) fun f=>dN f (fun h=>e 0) (fun g=>e g.1.1))<|cond (bP d 62) (bH (jU d (bP d 62)) fun f=>dN f (fun h=>e 0) (fun g=>e g.1.1))<|cond (bP d 40) (bH (jU d (bP d 40)) fun f=>dN f (fun h=>e 0) (fun g=>e g.1.1))<|bH (jU d (bP d 41)) fun f=>dN f (fun h=>e 0) (fun g=>e g.1.1)
def xZ (d:Int):Option (yh.den⊕yx.den):=EC (a6 (.inl ((),()))) (fun e=>a6 (.inr ((e,()),()))) d
noncomputable def OM:dE:=fJ BA IG yh yx (.exit 0) (fun v=>xZ v.1.1) 24
def SK (d:uD.den⊕uF.den):Option CQ:=dN d (fun e=>bH (xZ e.1.1) fun f=>dN f (fun h=>a7) (fun b3=>a6 (b3.1.1,()))) (fun g=>a6 (g.1.1,()))
def YK (d:Int):Option CQ:=cond (leI 65 d) (cond (leI d 90) (bH (lX d (leI d 90)) fun e=>SK e)<|bH (lX d (bP d 95)) fun e=>SK e)<|bH (lX d (bP d 95)) fun e=>SK e
def asQ (d:Int):Option CQ:=cond (bP d 10) (a6 (2,()))<|cond (leI 48 d) (cond (leI d 57) (a6 (6,()))<|cond (leI 97 d) (cond (leI d 122) (bH (lX d (leI d 122)) fun e=>SK e)<|YK d)<|YK d)<|cond (leI 97 d) (cond (leI d 122) (bH (lX d (leI d 122)) fun e=>SK e)<|YK d)<|YK d
def SI (d:Int):Option CQ:=cond (bP d 32) (cond (bP d 32) (a6 (1,()))<|asQ d)<|cond (bP d 9) (a6 (1,()))<|asQ d
def amn:Sum:=⟨[.int .u8],Ve,fun x=>SI x.1⟩
noncomputable def wP:Env:=iJ prog tt 44 [] [(800011,Bz),(800012,BA),(800020,BB),(800026,BC)] [(800011,OL),(800026,OQ),(800020,OO),(800012,OM)]
theorem VN {R:Type} (d:Nat) (K:Ex->St->Option R) (e:Int) (f:Bool):
  iter (a6 Bz) (Du (Ap wP (d+6) 44 A7)) 1 (lw IE ((e,f,()),())) K=
   Ez (fun g=>K (.exit 999999) (lw uD ((g,()),()))) (fun h=>K .ret (lw uF ((h,()),()))) e f:=by kernel_rfl
theorem adR {R:Type} (d:Nat) (K:Ex->St->Option R) (e:Int) (f:Bool):
  iter (a6 Bz) (Du (Ap wP (d+6) 44 A7)) 1 (lw IE ((e,f,()),())) K=bH (lX e f) fun o=>dN o (fun a=>K (.exit 999999) (lw uD a)) fun b=>K .ret (lw uF b):=by
  rw[VN];simp only[lX,Ez,cO,cZ,bG,bW,dh]
  try simp only[dN]
theorem aeJ:zD wP 44 A7 OL:=Jr (by kernel_rfl) fun R d K v o h=>⟨1,(adR d K (v.1.1) (v.1.2.1)).trans (congrArg (fun o=>bH o _) h)⟩
theorem VQ {R:Type} (d:Nat) (K:Ex->St->Option R) (e:Bool):
  iter (a6 BC) (Du (Ap wP (d+12) 44 Bc)) 1 (lw IJ ((e,()),())) K=
   EE (K (.exit 999999) (lw yl ((),()))) (fun f=>K .ret (lw yA ((f,()),()))) e:=by kernel_rfl
theorem adU {R:Type} (d:Nat) (K:Ex->St->Option R) (e:Bool):
  iter (a6 BC) (Du (Ap wP (d+12) 44 Bc)) 1 (lw IJ ((e,()),())) K=bH (lY e) fun o=>dN o (fun a=>K (.exit 999999) (lw yl a)) fun b=>K .ret (lw yA b):=by
  rw[VQ];simp only[lY,EE,cO,cZ,bG,bW,dh]
  try simp only[dN]
theorem aeM:zD wP 44 Bc OQ:=Jr (by kernel_rfl) fun R d K v o h=>⟨1,(adU d K (v.1.1)).trans (congrArg (fun o=>bH o _) h)⟩
theorem VP {R:Type} (d:Nat) (K:Ex->St->Option R) (e:Int) (f:Bool):
  iter (a6 BB) (Du (Ap wP (d+18) 44 Ba)) 1 (lw II ((e,f,()),())) K=
   ED (K (.exit 999999) (lw yj ((),()))) (fun g=>K .ret (lw yz ((g,()),()))) e f:=by kernel_rfl
theorem adT {R:Type} (d:Nat) (K:Ex->St->Option R) (e:Int) (f:Bool):
  iter (a6 BB) (Du (Ap wP (d+18) 44 Ba)) 1 (lw II ((e,f,()),())) K=bH (jU e f) fun o=>dN o (fun a=>K (.exit 999999) (lw yj a)) fun b=>K .ret (lw yz b):=by
  rw[VP];simp only[jU,ED,cO,cZ,bG,bW,dh]
  try simp only[dN]
theorem aeL:zD wP 44 Ba OO:=Jr (by kernel_rfl) fun R d K v o h=>⟨1,(adT d K (v.1.1) (v.1.2.1)).trans (congrArg (fun o=>bH o _) h)⟩
theorem VO {R:Type} (d:Nat) (K:Ex->St->Option R) (e:Int):
  iter (a6 BA) (Du (Ap wP (d+24) 44 A8)) 1 (lw IG ((e,()),())) K=
   EC (K (.exit 0) (lw yh ((),()))) (fun f=>K .ret (lw yx ((f,()),()))) e:=by kernel_rfl
theorem adS {R:Type} (d:Nat) (K:Ex->St->Option R) (e:Int):
  iter (a6 BA) (Du (Ap wP (d+24) 44 A8)) 1 (lw IG ((e,()),())) K=bH (xZ e) fun o=>dN o (fun a=>K (.exit 0) (lw yh a)) fun b=>K .ret (lw yx b):=by
  rw[VO];simp only[xZ,EC,cO,cZ,bG,bW,dh]
  try simp only[dN]
theorem aeK:zD wP 44 A8 OM:=Jr (by kernel_rfl) fun R d K v o h=>⟨1,(adS d K (v.1.1)).trans (congrArg (fun o=>bH o _) h)⟩
theorem aHX:jJ b44=[]:=by kernel_rfl
theorem aHl:MC wP 44 b44=[A7,A8,Ba,Bc]:=by kernel_rfl
theorem aIe:dM wP 44 b44:=DX b44 (fun x _ d=>absurd (show false=true from d) (by decide)) (by rw[aHX];exact aN) (JM (by rw[aHl];exact(aD (fC (by kernel_rfl) (aeJ)) (aD (fC (by kernel_rfl) (aeK)) (aD (fC (by kernel_rfl) (aeL)) (aD (fC (by kernel_rfl) (aeM)) aN))))))
theorem arH:eu wP:=eA f44 aN (aIe)
theorem uN:dU prog 44 amn:=sA arH
def GN (e:Int):Option pq:=bH (SI e) fun d=>cond (bP d.1 1) (cond (bP d.1 1) (a6 (true,()))<|some (false,()))<|cond (bP d.1 2) (cond (bP d.1 2) (a6 (true,()))<|some (false,()))<|cond (bP d.1 3) (a6 (true,()))<|some (false,())
def aGq:Sum:=⟨[.int .u8],NZ,fun x=>GN x.1⟩
theorem XF:dU prog 200 aGq:=qA f200 [] (sE uN aN)
def wY (f:List oD) (g:Bool) (d e:Int):Option (taN×(Unit)):=cond (bP e e) (cond (bP d d) (cond (dY (bT f [(e,(d,()))]) 16) (cond (bP e e) (cond (bP d d) (cond ((bP e e)&&((bP d d)&&true)) (a6 (((bT f [(e,(d,()))]),(g,(d,()))),())) a7) a7) a7) a7) a7) a7
def aGy:fZ:=⟨216,tzC,[dA],[],fun x y=>wY x.1 x.2.1 x.2.2.1 y.1⟩
theorem AO:dW prog 243 aGy:=qB [] aN
def SH (e:List oD) (f:Bool) (g h:Int):Option (taN×pq):=cond (bP h 92) (bH (wY e f g 13) fun d=>a6 ((d.1.1,(d.1.2.1,(d.1.2.2.1,()))),(true,())))<|cond (bP h 36) (bH (wY e f g 12) fun d=>a6 ((d.1.1,(d.1.2.1,(d.1.2.2.1,()))),(true,())))<|cond (bP h 96) (bH (wY e f g 6) fun d=>a6 ((d.1.1,(d.1.2.1,(d.1.2.2.1,()))),(true,())))<|some ((e,(f,(g,()))),(false,()))
def aGC:fZ:=⟨216,tzC,[.int .u8],[.bool],fun x y=>SH x.1 x.2.1 x.2.2.1 y.1⟩
theorem NU:dW prog 266 aGC:=qB [] aN (sF AO aN)
def JH (d:Int) (e:List oD) (f:Int):Option (taN×(Unit)):=bH (GN d) fun g=>a6 ((e,(g.1,(f,()))),())
def Wx (f:List oD) (h:Bool) (g j e:Int):Option (taN×(Unit)):=cond (bP e 92) (bH (wY f h g 13) fun d=>a6 ((d.1.1,(d.1.2.1,(d.1.2.2.1,()))),()))<|cond (bP e 35) (cond h (bH (wY f h g 14) fun d=>a6 ((d.1.1,(d.1.2.1,(d.1.2.2.1,()))),()))<|JH e f g)<|cond (bP e 40) (cond (!(bP j 0)) (bH (wY f h g 2) fun d=>bH (GN e) fun i=>a6 ((d.1.1,(i.1,(d.1.2.2.1,()))),()))<|JH e f g)<|cond (bP e 41) (cond (!(bP j 0)) (bH (wV f h g) fun d=>a6 ((d.1.1,((!(bP j 1)),(d.1.2.2.1,()))),()))<|some ((f,((!(bP j 1)),(g,()))),()))<|cond (bP e 39) (bH (wY f h g 4) fun d=>bH (GN e) fun i=>a6 ((d.1.1,(i.1,(d.1.2.2.1,()))),()))<|cond (bP e 34) (bH (wY f h g 5) fun d=>bH (GN e) fun i=>a6 ((d.1.1,(i.1,(d.1.2.2.1,()))),()))<|cond (bP e 36) (cond (bP e 36) (bH (SH f h g e) fun d=>bH (GN e) fun i=>a6 ((d.1.1,(i.1,(d.1.2.2.1,()))),()))<|JH e f g)<|cond (bP e 96) (bH (SH f h g e) fun d=>bH (GN e) fun i=>a6 ((d.1.1,(i.1,(d.1.2.2.1,()))),()))<|JH e f g
def aGx:fZ:=⟨216,tzC,[dA,.int .u8],[],fun x y=>Wx x.1 x.2.1 x.2.2.1 y.1 y.2.1⟩
theorem apw:dW prog 242 aGx:=qB [] (sE XF aN) (sF wI (sF AO (sF NU aN)))
def ajk (g:List oD) (h:Bool) (i j f:Int):Option (taN×(Unit)):=bH (SH g h i f) fun d=>cond d.2.1 (a6 ((d.1.1,(d.1.2.1,(d.1.2.2.1,()))),()))<|cond (bP f 40) (bH (wY d.1.1 d.1.2.1 d.1.2.2.1 10) fun e=>a6 ((e.1.1,(e.1.2.1,(e.1.2.2.1,()))),()))<|cond (bP f 41) (cond (bP j 10) (bH (wV d.1.1 d.1.2.1 d.1.2.2.1) fun e=>a6 ((e.1.1,(e.1.2.1,(e.1.2.2.1,()))),()))<|cond (bP f 41) (bH (uU d.1.1 d.1.2.1 d.1.2.2.1 11) fun e=>a6 ((e.1.1,(e.1.2.1,(e.1.2.2.1,()))),()))<|some ((d.1.1,(d.1.2.1,(d.1.2.2.1,()))),()))<|cond (bP f 41) (bH (uU d.1.1 d.1.2.1 d.1.2.2.1 11) fun e=>a6 ((e.1.1,(e.1.2.1,(e.1.2.2.1,()))),()))<|some ((d.1.1,(d.1.2.1,(d.1.2.2.1,()))),())
def aGz:fZ:=⟨216,tzC,[dA,.int .u8],[],fun x y=>ajk x.1 x.2.1 x.2.2.1 y.1 y.2.1⟩
theorem apx:dW prog 244 aGz:=qB [] aN (sF NT (sF wI (sF AO (sF NU aN))))
def YF (f g:Int) (d:(taN×pq)):Option (taN×(Unit)):=cond (bP f 39) (cond (bP g 7) (bH (wY d.1.1 d.1.2.1 d.1.2.2.1 4) fun e=>a6 ((e.1.1,(e.1.2.1,(e.1.2.2.1,()))),()))<|some ((d.1.1,(d.1.2.1,(d.1.2.2.1,()))),()))<|some ((d.1.1,(d.1.2.1,(d.1.2.2.1,()))),())
def YG (f:Int) (d:(taN×pq)) (g:Int):Option (taN×(Unit)):=cond (bP f 34) (bH (wY d.1.1 d.1.2.1 d.1.2.2.1 5) fun e=>a6 ((e.1.1,(e.1.2.1,(e.1.2.2.1,()))),()))<|cond (bP f 125) (cond (!(bP g 5)) (bH (wV d.1.1 d.1.2.1 d.1.2.2.1) fun e=>a6 ((e.1.1,(e.1.2.1,(e.1.2.2.1,()))),()))<|YF f g d)<|YF f g d
def ajl (h:List oD) (i:Bool) (j f e:Int):Option (taN×(Unit)):=bH (SH h i j e) fun d=>cond d.2.1 (a6 ((d.1.1,(d.1.2.1,(d.1.2.2.1,()))),()))<|cond (bP e 34) (cond (bP f 5) (bH (wV d.1.1 d.1.2.1 d.1.2.2.1) fun g=>a6 ((g.1.1,(g.1.2.1,(g.1.2.2.1,()))),()))<|YG e d f)<|YG e d f
def aGA:fZ:=⟨216,tzC,[dA,.int .u8],[],fun x y=>ajl x.1 x.2.1 x.2.2.1 y.1 y.2.1⟩
theorem apy:dW prog 245 aGA:=qB [] aN (sF wI (sF AO (sF NU aN)))
def Bo (h:Int) (e:List oD) (f:Bool) (g i:Int):Option (taN×(Unit)):=cond (bP h 13) (bH (wV e f g) fun d=>cond d.1.2.1 (a6 ((d.1.1,((bP i 10),(d.1.2.2.1,()))),()))<|some ((d.1.1,(false,(d.1.2.2.1,()))),()))<|cond (bP h 4) (cond (bP i 39) (bH (wV e f g) fun d=>a6 ((d.1.1,(d.1.2.1,(d.1.2.2.1,()))),()))<|some ((e,(f,(g,()))),()))<|cond (bP h 14) (cond (bP i 10) (bH (wV e f g) fun d=>a6 ((d.1.1,(true,(d.1.2.2.1,()))),()))<|some ((e,(f,(g,()))),()))<|cond (bP h 6) (cond (bP i 96) (bH (wV e f g) fun d=>a6 ((d.1.1,(d.1.2.1,(d.1.2.2.1,()))),()))<|cond (bP i 92) (bH (wY e f g 13) fun d=>a6 ((d.1.1,(d.1.2.1,(d.1.2.2.1,()))),()))<|some ((e,(f,(g,()))),()))<|cond (bP h 9) (cond (bP h 9) (bH (ajk e f g h i) fun d=>a6 ((d.1.1,(d.1.2.1,(d.1.2.2.1,()))),()))<|bH (ajl e f g h i) fun d=>a6 ((d.1.1,(d.1.2.1,(d.1.2.2.1,()))),()))<|cond (bP h 10) (bH (ajk e f g h i) fun d=>a6 ((d.1.1,(d.1.2.1,(d.1.2.2.1,()))),()))<|bH (ajl e f g h i) fun d=>a6 ((d.1.1,(d.1.2.1,(d.1.2.2.1,()))),())
def Ol (f:List oD) (g:Bool) (h d i:Int):Option (taN×(Unit)):=cond (bP d 0) (cond (bP d 0) (bH (Wx f g h d i) fun e=>a6 ((e.1.1,(e.1.2.1,(e.1.2.2.1,()))),()))<|Bo d f g h i)<|cond (bP d 1) (cond (bP d 1) (bH (Wx f g h d i) fun e=>a6 ((e.1.1,(e.1.2.1,(e.1.2.2.1,()))),()))<|Bo d f g h i)<|cond (bP d 2) (bH (Wx f g h d i) fun e=>a6 ((e.1.1,(e.1.2.1,(e.1.2.2.1,()))),()))<|Bo d f g h i
def awT:fZ:=⟨216,tzC,[dA,.int .u8],[],fun x y=>Ol x.1 x.2.1 x.2.2.1 y.1 y.2.1⟩
theorem aph:dW prog 204 awT:=qB [] aN (sF wI (sF apw (sF AO (sF apx (sF apy aN)))))
noncomputable def aDe:Code:=(Tryz.f165.body).getD .skip
noncomputable def Yb:Code:=cA (cA (cA (cB (cB (cA (aDe))))))
def agT:eQ:=⟨[0,1,100002],[],[0],[],[],[]⟩
def BF:eQ:=⟨[0,1],[],[],[],[],[]⟩
def ZG:SQ:=⟨us [co,cL] 63,c9,ej⟩
def aaq:SQ:=⟨us bN 64,c9,ej⟩
def aa3:SQ:=⟨us [] 65,c9,[]⟩
def abT {j:Type} (o:Int->(List oD)->Bool->Int->(List oD)->Option j) (l:(List oD)->Bool->Int->(List oD)->Option j) (p:Option j) (f:Int) (e:List oD) (h:Bool) (i:Int) (g:List oD):Option j:=cond (fD e (eU .i64 (bI e) 1)) (cond (lZ (dC (eU .i64 (bI e) 1)) e) (cond (bP (dJ e (0,(0,())) (dC (eU .i64 (bI e) 1))).1 12) (bH (Oj e h i f) fun d=>cond d.2.1 (l d.1.1 d.1.2.1 d.1.2.2.1 g)<|o f d.1.1 d.1.2.1 d.1.2.2.1 g)<|cond (bP (dJ e (0,(0,())) (dC (eU .i64 (bI e) 1))).1 3) (cond (bP f 40) (bH (uU e h i 9) fun d=>l d.1.1 false d.1.2.2.1 g)<|bH (uU e h i 1) fun d=>o f d.1.1 d.1.2.1 d.1.2.2.1 g)<|cond (bP (dJ e (0,(0,())) (dC (eU .i64 (bI e) 1))).1 11) (cond (bP f 41) (bH (wV e h i) fun d=>l d.1.1 d.1.2.1 d.1.2.2.1 g)<|bH (uU e h i 9) fun d=>o f d.1.1 d.1.2.1 d.1.2.2.1 g)<|bH (Ol e h i (dJ e (0,(0,())) (dC (eU .i64 (bI e) 1))).1 f) fun d=>l d.1.1 d.1.2.1 d.1.2.2.1 g) a7) a7
def Y6:Nat->Int->(List oD)->Bool->Int->(List oD)->Option (aaq.den⊕aa3.den)
 |0,_,_,_,_,_=>a7
 |n+1,d,e,f,g,h=>abT (Y6 n) (fun i j l o=>a6 (.inl ((),((),()),(i,(j,l,()),o,())))) (a6 (.inr ((),((),()),()))) d e f g h
def azs (n:Nat) (v:ZG.den):=Y6 n v.1.1 v.2.2.1 v.2.2.2.1.1 v.2.2.2.1.2.1 v.2.2.2.2.1
noncomputable def Y9:dE:=fF agT ZG aaq aa3 (.exit 0) (azs bM) 6
def Ky:SQ:=⟨us [co,cL] 63,c9,eW⟩
def Nj:SQ:=⟨us bN 64,c9,eW⟩
def Nq:SQ:=⟨us [] 65,c9,[]⟩
def Aw {i:Type} (l:Int->Bool->Int->(List oD)->Option i) (j:Bool->Int->(List oD)->Option i) (o:Option i) (f:Int) (g:Bool) (h:Int) (e:List oD):Option i:=cond (fD e (eU .i64 (bI e) 1)) (cond (lZ (dC (eU .i64 (bI e) 1)) e) (cond (bP (dJ e (0,(0,())) (dC (eU .i64 (bI e) 1))).1 12) (bH (Oj e g h f) fun d=>cond d.2.1 (j d.1.2.1 d.1.2.2.1 d.1.1)<|l f d.1.2.1 d.1.2.2.1 d.1.1)<|cond (bP (dJ e (0,(0,())) (dC (eU .i64 (bI e) 1))).1 3) (cond (bP f 40) (bH (uU e g h 9) fun d=>j false d.1.2.2.1 d.1.1)<|bH (uU e g h 1) fun d=>l f d.1.2.1 d.1.2.2.1 d.1.1)<|cond (bP (dJ e (0,(0,())) (dC (eU .i64 (bI e) 1))).1 11) (cond (bP f 41) (bH (wV e g h) fun d=>j d.1.2.1 d.1.2.2.1 d.1.1)<|bH (uU e g h 9) fun d=>l f d.1.2.1 d.1.2.2.1 d.1.1)<|bH (Ol e g h (dJ e (0,(0,())) (dC (eU .i64 (bI e) 1))).1 f) fun d=>j d.1.2.1 d.1.2.2.1 d.1.1) a7) a7
def wo:Nat->Int->Bool->Int->(List oD)->Option (Nj.den⊕Nq.den)
 |0,_,_,_,_=>a7
 |n+1,d,e,f,g=>Aw (wo n) (fun h i j=>a6 (.inl ((),((),()),((h,i,()),j,())))) (a6 (.inr ((),((),()),()))) d e f g
def aoh (n:Nat) (v:Ky.den):=wo n v.1.1 v.2.2.1.1 v.2.2.1.2.1 v.2.2.2.1
noncomputable def MR:dE:=fF agT Ky Nj Nq (.exit 0) (aoh bM) 12
def Ws (e:List oD) (h:Bool) (i g:Int):Option (taN×(Unit)):=cond (bP (bI e) 0) (bH (Y6 bM g [(0,(0,()))] true 0 e) fun f=>dN f (fun d=>a6 ((d.2.2.1,(d.2.2.2.1.1,((di .i64 d.2.2.2.1.2.1 1),()))),())) (fun j=>a7))<|bH (wo bM g h i e) fun f=>dN f (fun d=>a6 ((d.2.2.2.1,(d.2.2.1.1,((di .i64 d.2.2.1.2.1 1),()))),())) (fun j=>a7)
def aci:fZ:=⟨216,tzC,[.int .u8],[],fun x y=>Ws x.1 x.2.1 x.2.2.1 y.1⟩
noncomputable def RY:Env:=gB prog tt [] [(165,2,agT),(165,600001,BF)] [(165,2,nI Y9 MR)] [] [(201,awQ),(202,awR),(203,awS),(204,awT)]
def alv {d:Type} (a:ZG.den->Option d) (b:aaq.den->Option d) (c:aa3.den->Option d) (v:ZG.den):Option d:=abT (fun e f g h i=>a ((e,()),((),()),(f,(g,h,()),i,()))) (fun j l o p=>b ((),((),()),(j,(l,o,()),p,()))) (c ((),((),()),())) v.1.1 v.2.2.1 v.2.2.2.1.1 v.2.2.2.1.2.1 v.2.2.2.2.1
theorem aAh:dQ RY 165 Yb Y9:=lu (alv) (h2:=by intros;simp only[alv,abT,cO,cZ,bG,bW,dh])
def Xl {d:Type} (a:Ky.den->Option d) (b:Nj.den->Option d) (c:Nq.den->Option d) (v:Ky.den):Option d:=Aw (fun e f g h=>a ((e,()),((),()),((f,g,()),h,()))) (fun i j l=>b ((),((),()),((i,j,()),l,()))) (c ((),((),()),())) v.1.1 v.2.2.1.1 v.2.2.1.2.1 v.2.2.2.1
theorem aop:dQ RY 165 Yb MR:=lu (Xl) (h2:=by intros;simp only[Xl,Aw,cO,cZ,bG,bW,dh])
theorem aEs:dM RY 165 aDe:=nV [Yb] (aD (fun L h=>by rw[show(RY).lp 165 (dH Yb)=a6 (nI Y9 MR) by kernel_rfl]at h;cases h;exact rX aAh aop) aN)
theorem am6:eu RY:=eB aN [165] (aD ⟨Tryz.f165,aDe,by kernel_rfl,by kernel_rfl,aEs⟩ aN) (hx:=(aD apg (aD NT (aD wI (aD aph aN)))))
theorem NP:dW prog 165 aci:=sB am6
def WA (d:Int):Option CQ:=cond (bP d 3) (a6 (1,()))<|cond (bP d 11) (a6 (9,()))<|some (d,())
def axb:Sum:=⟨[dA],Ve,fun x=>WA x.1⟩
theorem apF:dU prog 267 axb:=qA Tryz.f267 [] aN
noncomputable def axY:Code:=(f247.body).getD .skip
noncomputable def aqJ:Code:=cA (cA (cB (cA (cB (axY)))))
noncomputable def aqK:Code:=cA (cA (cB (cB (cB (axY)))))
def atN:eQ:=⟨[0,1,2,6,100002],[],[0,1],[],[],[]⟩
def atO:eQ:=⟨[0,77,78,79,100009],[],[],[],[],[]⟩
def ZX:SQ:=⟨us [co,eh,bO,.u,.u,.u,bO] 141,c9,cF⟩
def aaG:SQ:=⟨us [co,eh] 146,c9,cF⟩
def abl:SQ:=⟨us [] 148,c9,[]⟩
def jk (d:jM) (e:Int):=dJ d 0 (dC (eU .i64 e 1))
def wC (d:List jd) (e:jM) (f g:Int):=gX d (dC (jk e f)) ((dJ d (0,(0,(0,(0,(false,()))))) (dC (jk e f))).1,((dJ d (0,(0,(0,(0,(false,()))))) (dC (jk e f))).2.1,((di .i64 g 1),((dJ d (0,(0,(0,(0,(false,()))))) (dC (jk e f))).2.2.2.1,((dJ d (0,(0,(0,(0,(false,()))))) (dC (jk e f))).2.2.2.2.1,())))))
def wE (f:List jd) (d:jM) (e g:Int):=dJ (wC f d e g) (0,(0,(0,(0,(false,()))))) (dC (jk d e))
def Gl {h:Type} (f:List jd) (e:jM) (d g:Int) (i:(List oD)->Int->Int->(List jd)->jM->Option h) (j:List oD):Option h:=cond (fD f (jk e d)) (cond (lZ (dC (jk e d)) f) (cond (fD (wC f e d g) (jk e d)) (cond (lZ (dC (jk e d)) (wC f e d g)) (cond (fE (bI e) 0 (eU .i64 d 1)) (i j g (eU .i64 d 1) (gX (wC f e d g) (dC (jk e d)) ((wE f e d g).1,((wE f e d g).2.1,((wE f e d g).2.2.1,((wE f e d g).2.2.2.1,(false,())))))) (takeN e (dC (eU .i64 d 1)))) a7) a7) a7) a7) a7
def QQ {h:Type} (i:(List oD)->Int->Int->(List jd)->jM->Option h) (j:(List oD)->(List jd)->jM->Option h) (o:Option h) (f:List oD) (l d:Int) (g:List jd) (e:jM):Option h:=cond (gV 0 d) (cond (fD e (eU .i64 d 1)) (cond (lZ (dC (eU .i64 d 1)) e) (cond (leI d (bI f)) (cond (fD f (eU .i64 d 1)) (cond (fD g (jk e d)) (cond (lZ (dC (jk e d)) g) (cond (bP (dw f (0,(0,())) (eU .i64 d 1)).2.1 (dJ g (0,(0,(0,(0,(false,()))))) (dC (jk e d))).2.1) (j f g e)<|Gl g e d l i f) a7) a7) a7)<|Gl g e d l i f) a7) a7)<|j f g e
def J7:Nat->(List oD)->Int->Int->(List jd)->jM->Option (aaG.den⊕abl.den)
 |0,_,_,_,_,_=>a7
 |n+1,d,e,f,g,h=>QQ (J7 n) (fun i j l=>a6 (.inl ((i,()),((),()),((),j,l,())))) (a6 (.inr ((),((),()),()))) d e f g h
def azI (n:Nat) (v:ZX.den):=J7 n v.1.1 v.1.2.1 v.1.2.2.1 v.2.2.2.1 v.2.2.2.2.1
noncomputable def akn:dE:=fF atN ZX aaG abl (.exit 0) (azI bM) 6
def ZY:SQ:=⟨us [co,.u,.u,.u,.u,.u,.u,.u,.u,.u,.u,.u,.u,.u,.u,.u,.u,.u,.u,.u,.u,.u,.u,.u,.u,.u,.u,.u,.u,.u,.u,.u,.u,.u,.u,.u,.u,.u,.u,.u,.u,.u,.u,.u,.u,.u,.u,.u,.u,.u,.u,.u,.u,.u,.u,.u,.u,.u,.u,.u,.u,.u,.u,.u,.u,.u,.u,.u,.u,.u,.u,.u,.u,.u,.u,.u,.u,eh,bO,bO] 68,c9,cF⟩
def aaH:SQ:=⟨us [] 148,c9,cF⟩
def abm:SQ:=⟨us [] 148,c9,[]⟩
def kw (d:List jd) (e:jM) (f:Int):=dJ d (0,(0,(0,(0,(false,()))))) (dC (dJ e 0 (dC f)))
def lT (d:List oD) (e:Int):=bP (dw d (0,(0,())) e).2.1 (dw d (0,(0,())) e).2.1
def lU (d:List oD) (e:Int):=bP (dw d (0,(0,())) e).1 (dw d (0,(0,())) e).1
def CJ {i:Type} (l:(List oD)->Int->Int->(List jd)->jM->Option i) (o:(List jd)->jM->Option i) (p:Option i) (g:List oD) (j d:Int) (f:List jd) (e:jM):Option i:=cond (gV d j) (cond (fD g d) (cond (gV d (bI e)) (cond (fD e d) (cond (lZ (dC d) e) (bH (WA (dw g (0,(0,())) d).1) fun h=>cond (fD f (dJ e 0 (dC d))) (cond (lZ (dC (dJ e 0 (dC d))) f) (cond (fD (gX f (dC (dJ e 0 (dC d))) (h.1,((kw f e d).2.1,((kw f e d).2.2.1,((kw f e d).2.2.2.1,((kw f e d).2.2.2.2.1,())))))) (dJ e 0 (dC d))) (cond ((eqN (dC (dJ e 0 (dC d))) (dC (dJ e 0 (dC d))))&&true) (l g j (di .i64 d 1) (gX f (dC (dJ e 0 (dC d))) (h.1,((kw f e d).2.1,((kw f e d).2.2.1,((kw f e d).2.2.2.1,((kw f e d).2.2.2.2.1,())))))) e) a7) a7) a7) a7) a7) a7)<|cond (gV 0 d) (cond (fD e (eU .i64 d 1)) (cond (lZ (dC (eU .i64 d 1)) e) (cond (dY (bT e [(bI f)]) 8) (cond (bP (bI f) (bI f)) (bH (WA (dw g (0,(0,())) d).1) fun h=>cond (lU g d) (cond (lT g d) (cond (bP (dJ e 0 (dC (eU .i64 d 1))) (dJ e 0 (dC (eU .i64 d 1)))) (cond (((lU g d)&&true)&&((bP h.1 h.1)&&true)) (cond (dY (bT f [(h.1,((dw g (0,(0,())) d).2.1,(0,((dJ e 0 (dC (eU .i64 d 1))),(true,())))))]) 40) (cond (lU g d) (cond (lT g d) (cond (bP (dJ e 0 (dC (eU .i64 d 1))) (dJ e 0 (dC (eU .i64 d 1)))) (cond ((bP h.1 h.1)&&((lT g d)&&((bP 0 0)&&((bP (dJ e 0 (dC (eU .i64 d 1))) (dJ e 0 (dC (eU .i64 d 1))))&&((jv true true)&&true))))) (l g j (di .i64 d 1) (bT f [(h.1,((dw g (0,(0,())) d).2.1,(0,((dJ e 0 (dC (eU .i64 d 1))),(true,())))))]) (bT e [(bI f)])) a7) a7) a7) a7) a7) a7) a7) a7) a7) a7) a7) a7) a7)<|cond (dY (bT e [(bI f)]) 8) (cond (bP (bI f) (bI f)) (bH (WA (dw g (0,(0,())) d).1) fun h=>cond (lU g d) (cond (lT g d) (cond (bP (-1) (-1)) (cond (((lU g d)&&true)&&((bP h.1 h.1)&&true)) (cond (dY (bT f [(h.1,((dw g (0,(0,())) d).2.1,(0,((-1),(true,())))))]) 40) (cond (lU g d) (cond (lT g d) (cond (bP (-1) (-1)) (cond ((bP h.1 h.1)&&((lT g d)&&((bP 0 0)&&((bP (-1) (-1))&&((jv true true)&&true))))) (l g j (di .i64 d 1) (bT f [(h.1,((dw g (0,(0,())) d).2.1,(0,((-1),(true,())))))]) (bT e [(bI f)])) a7) a7) a7) a7) a7) a7) a7) a7) a7) a7) a7) a7)<|o f e
def sW:Nat->(List oD)->Int->Int->(List jd)->jM->Option (aaH.den⊕abm.den)
 |0,_,_,_,_,_=>a7
 |n+1,d,e,f,g,h=>CJ (sW n) (fun i j=>a6 (.inl ((),((),()),((),i,j,())))) (a6 (.inr ((),((),()),()))) d e f g h
def azJ (n:Nat) (v:ZY.den):=sW n v.1.1 v.1.2.1 v.1.2.2.1 v.2.2.2.1 v.2.2.2.2.1
noncomputable def ako:dE:=fF atO ZY aaH abm (.exit 2) (azJ bM) 12
def adu (h:List jd) (f:jM) (d:List oD) (i:Int):Option (((List jd)×jM×Unit)×(Unit)):=cond (fE (bI d) 1 (bI d)) (bH (J7 bM (sub d 1 (bI d)) i (bI f) h f) fun j=>dN j (fun e=>bH (sW bM e.1.1 (bI e.1.1) 0 e.2.2.2.1 e.2.2.2.2.1) fun l=>dN l (fun g=>a6 ((g.2.2.2.1,(g.2.2.2.2.1,())),())) (fun b3=>a7)) (fun o=>a7)) a7
def aw6:fZ:=⟨241,[(.list Jd,true),(.list dA,true)],[.list Vo,dA],[],fun x y=>adu x.1 x.2.1 y.1 y.2.1⟩
noncomputable def Yt:Env:=gB prog tt [(267,axb)] [(247,2,atN),(247,9,atO)] [(247,2,akn),(247,9,ako)] []
def alM {d:Type} (a:ZX.den->Option d) (b:aaG.den->Option d) (c:abl.den->Option d) (v:ZX.den):Option d:=QQ (fun e f g h i=>a ((e,f,g,()),((),()),((),h,i,()))) (fun j l o=>b ((j,()),((),()),((),l,o,()))) (c ((),((),()),())) v.1.1 v.1.2.1 v.1.2.2.1 v.2.2.2.1 v.2.2.2.2.1
theorem aAx:dQ Yt 247 aqJ akn:=lu (alM) (h2:=by intros;simp only[alM,QQ,cO,cZ,bG,bW,dh,jk,wC,wE,Gl])
def alN {d:Type} (a:ZY.den->Option d) (b:aaH.den->Option d) (c:abm.den->Option d) (v:ZY.den):Option d:=CJ (fun e f g h i=>a ((e,f,g,()),((),()),((),h,i,()))) (fun j l=>b ((),((),()),((),j,l,()))) (c ((),((),()),())) v.1.1 v.1.2.1 v.1.2.2.1 v.2.2.2.1 v.2.2.2.2.1
theorem aAy:dQ Yt 247 aqK ako:=lu (alN) (h2:=by intros;simp only[alN,CJ,cO,cZ,bG,bW,dh,kw,lT,lU])
theorem aEG:dM Yt 247 axY:=nV [aqJ,aqK] (aD (fM (aAx)) (aD (fM (aAy)) aN))
theorem anq:eu Yt:=eB (aD apF aN) [247] (aD ⟨f247,axY,by kernel_rfl,by kernel_rfl,aEG⟩ aN)
theorem apz:dW prog 247 aw6:=sB anq
def ade (d:Int):Option pq:=bH (SI d) fun e=>a6 ((bP e.1 5),())
def awt:Sum:=⟨[.int .u8],NZ,fun x=>ade x.1⟩
theorem aoQ:dU prog 128 awt:=qA f128 [] (sE uN aN)
def adf (d:Int):Option pq:=bH (SI d) fun e=>a6 ((bP e.1 6),())
def aif:Sum:=⟨[.int .u8],NZ,fun x=>adf x.1⟩
theorem Xw:dU prog 130 aif:=qA f130 [] (sE uN aN)
noncomputable def X7:Code:=(f127.body).getD .skip
noncomputable def EU:Code:=cA (cA (cA (cB (cB (cB (cA (cB (X7))))))))
def zV:eQ:=⟨[0,1,2,7,128000004],[],[7],[],[6],[]⟩
def Tv:eQ:=⟨[0,1,2,7],[],[],[],[],[]⟩
def FZ:SQ:=⟨us [bR,bO,.fn 129 [],.u,.u,.u,.u,bO] 25,[de,[]],[]⟩
def IK:SQ:=⟨d5,[de,[]],[]⟩
def IM:SQ:=⟨us [] 33,[de,[]],[]⟩
def CO {g:Type} (o:bZ->Int->Int->bZ->Int->bZ->Int->Option g) (p:Int->bZ->Int->bZ->Int->Option g) (u:bZ->Int->bZ->Int->Option g) (e:bZ) (f d:Int) (h:bZ) (i:Int) (j:bZ) (l:Int):Option g:=cond (gV (di .i64 f d) (bI e)) (cond (fD e (di .i64 f d)) (bH (ade (bY e (di .i64 f d))) fun q=>cond q.1 (o e f (di .i64 d 1) h i j l)<|bH (adf (bY e (di .i64 f d))) fun s=>cond (!s.1) (p d h i j l)<|o e f (di .i64 d 1) h i j l) a7)<|p d h i j l
def qy:Nat->bZ->Int->Int->bZ->Int->bZ->Int->Option (IK.den⊕IM.den)
 |0,_,_,_,_,_,_,_=>a7
 |n+1,d,e,f,g,h,i,j=>CO (qy n) (fun l o p q s=>a6 (.inl ((l,()),((o,p,q,s,()),(),()),()))) (fun u v x y=>a6 (.inr ((),((u,v,x,y,()),(),()),()))) d e f g h i j
def aha (n:Nat) (v:FZ.den):=ar (qy n) v
noncomputable def Iy:dE:=fF zV FZ IK IM (.exit 0) (aha bM) 6
def yf:SQ:=⟨us [bR,bO,.fn 128 [],.u,.u,.u,.u,bO] 25,[dg,[]],[]⟩
def Cb:SQ:=⟨d5,[dg,[]],[]⟩
def Ce:SQ:=⟨us [] 33,[dg,[]],[]⟩
def vV {e:Type} (p:bZ->Int->Int->bZ->Int->bZ->Int->Option e) (o:Int->bZ->Int->bZ->Int->Option e) (s:bZ->Int->bZ->Int->Option e) (f:bZ) (g d:Int) (h:bZ) (i:Int) (j:bZ) (l:Int):Option e:=cond (gV (di .i64 g d) (bI f)) (cond (fD f (di .i64 g d)) (bH (ade (bY f (di .i64 g d))) fun q=>cond (!q.1) (o d h i j l)<|p f g (di .i64 d 1) h i j l) a7)<|o d h i j l
def oM:Nat->bZ->Int->Int->bZ->Int->bZ->Int->Option (Cb.den⊕Ce.den)
 |0,_,_,_,_,_,_,_=>a7
 |n+1,d,e,f,g,h,i,j=>vV (oM n) (fun l o p q s=>a6 (.inl ((l,()),((o,p,q,s,()),(),()),()))) (fun u v x y=>a6 (.inr ((),((u,v,x,y,()),(),()),()))) d e f g h i j
def Y8 (n:Nat) (v:yf.den):=ar (oM n) v
noncomputable def BL:dE:=fF zV yf Cb Ce (.exit 0) (Y8 bM) 12
def agI (d:Int) (e:bZ):Option CQ:=cond (bP 0 0) (a6 (0,()))<|cond (gV d 0) (a6 (0,()))<|cond (leI (bI e) d) (a6 (0,()))<|bH (qy bM e d 0 e d e d) fun f=>dN f (fun g=>a6 (g.1.1,())) (fun h=>a7)
def agH (f:bZ) (e:Int):Option CQ:=cond (gV e 0) (agI e f)<|cond (leI (bI f) e) (agI e f)<|bH (oM bM f e 0 f e f e) fun g=>dN g (fun d=>cond (bP d.1.1 0) (a6 (0,()))<|cond (gV d.2.1.1.2.1 0) (a6 (0,()))<|cond (leI (bI d.2.1.1.1) d.2.1.1.2.1) (a6 (0,()))<|bH (qy bM d.2.1.1.1 d.2.1.1.2.1 0 d.2.1.1.1 d.2.1.1.2.1 d.2.1.1.1 d.2.1.1.2.1) fun h=>dN h (fun i=>a6 (i.1.1,())) (fun b3=>a7)) (fun j=>a7)
def aIT:Sum:=⟨[.str,dA],Ve,fun x=>agH x.1 x.2.1⟩
noncomputable def ac2:Env:=gB prog tt [(128,awt),(130,aif)] [(127,4,zV),(96,600001,BF),(96,600003,BF),(127,600006,Tv)] [(127,4,nI Iy BL)] []
def UG {d:Type} (a:FZ.den->Option d) (b:IK.den->Option d) (c:IM.den->Option d) (v:FZ.den):Option d:=ar (CO (fun e f g h i j l=>a ((e,f,g,()),((h,i,j,l,()),(),()),())) (fun o p q s u=>b ((o,()),((p,q,s,u,()),(),()),())) (fun x y z A=>c ((),((x,y,z,A,()),(),()),()))) v
theorem ahd:dQ ac2 127 EU Iy:=lu (UG) (h2:=by intros;simp only[UG,ar,CO,cO,cZ,bG,bW,dh])
def KP {d:Type} (a:yf.den->Option d) (b:Cb.den->Option d) (c:Ce.den->Option d) (v:yf.den):Option d:=ar (vV (fun e f g h i j l=>a ((e,f,g,()),((h,i,j,l,()),(),()),())) (fun o p q s u=>b ((o,()),((p,q,s,u,()),(),()),())) (fun x y z A=>c ((),((x,y,z,A,()),(),()),()))) v
theorem Zj:dQ ac2 127 EU BL:=lu (KP) (h2:=by intros;simp only[KP,ar,vV,cO,cZ,bG,bW,dh])
theorem aoc:dM ac2 127 X7:=nV [EU] (aD (fun L h=>by rw[show(ac2).lp 127 (dH EU)=a6 (nI Iy BL) by kernel_rfl]at h;cases h;exact rX ahd Zj) aN)
theorem ar5:eu ac2:=eB (aD aoQ (aD Xw aN)) [127] (aD ⟨f127,X7,by kernel_rfl,by kernel_rfl,aoc⟩ aN)
theorem U0:dU prog 96 aIT:=sA ar5
noncomputable def Rh:Code:=(f127.body).getD .skip
noncomputable def Rx:Code:=cA (cA (cA (cB (cB (cB (cA (cB (Rh))))))))
def BP:SQ:=⟨us [bR,bO,.fn 130 [],.u,.u,.u,.u,bO] 25,[ei,[]],[]⟩
def Ed:SQ:=⟨d5,[ei,[]],[]⟩
def Ej:SQ:=⟨us [] 33,[ei,[]],[]⟩
def yE {e:Type} (p:bZ->Int->Int->bZ->Int->bZ->Int->Option e) (o:Int->bZ->Int->bZ->Int->Option e) (s:bZ->Int->bZ->Int->Option e) (f:bZ) (g d:Int) (h:bZ) (i:Int) (j:bZ) (l:Int):Option e:=cond (gV (di .i64 g d) (bI f)) (cond (fD f (di .i64 g d)) (bH (adf (bY f (di .i64 g d))) fun q=>cond (!q.1) (o d h i j l)<|p f g (di .i64 d 1) h i j l) a7)<|o d h i j l
def qH:Nat->bZ->Int->Int->bZ->Int->bZ->Int->Option (Ed.den⊕Ej.den)
 |0,_,_,_,_,_,_,_=>a7
 |n+1,d,e,f,g,h,i,j=>yE (qH n) (fun l o p q s=>a6 (.inl ((l,()),((o,p,q,s,()),(),()),()))) (fun u v x y=>a6 (.inr ((),((u,v,x,y,()),(),()),()))) d e f g h i j
def aee (n:Nat) (v:BP.den):=ar (qH n) v
noncomputable def OD:dE:=fF zV BP Ed Ej (.exit 0) (aee bM) 6
def DC (e:bZ) (d:Int):Option CQ:=cond (gV d 0) (a6 (0,()))<|cond (leI (bI e) d) (a6 (0,()))<|bH (qH bM e d 0 e d e d) fun f=>dN f (fun g=>a6 (g.1.1,())) (fun h=>a7)
def aF5:Sum:=⟨[.str,dA],Ve,fun x=>DC x.1 x.2.1⟩
noncomputable def af4:Env:=gB prog tt [(130,aif)] [(127,4,zV),(125,600001,BF),(127,600006,Tv)] [(127,4,OD)] []
def O8 {d:Type} (a:BP.den->Option d) (b:Ed.den->Option d) (c:Ej.den->Option d) (v:BP.den):Option d:=ar (yE (fun e f g h i j l=>a ((e,f,g,()),((h,i,j,l,()),(),()),())) (fun o p q s u=>b ((o,()),((p,q,s,u,()),(),()),())) (fun x y z A=>c ((),((x,y,z,A,()),(),()),()))) v
theorem aeC:dQ af4 127 Rx OD:=lu (O8) (h2:=by intros;simp only[O8,ar,yE,cO,cZ,bG,bW,dh])
theorem agY:dM af4 127 Rh:=nV [Rx] (aD (fM (aeC)) aN)
theorem amU:eu af4:=eB (aD Xw aN) [127] (aD ⟨f127,Rh,by kernel_rfl,by kernel_rfl,agY⟩ aN)
theorem Xv:dU prog 125 aF5:=sA amU
def Wy (e:bZ) (d:Int):Option CQ:=bH (agH e d) fun g=>cond (gV 0 g.1) (a6 (g.1,()))<|cond (gV d 0) (a6 (0,()))<|cond (leI (bI e) d) (a6 (0,()))<|cond (fD e d) (cond (bP (bY e d) 64) (cond (bP (bY e d) 64) (a6 (1,()))<|bH (DC e d) fun f=>a6 ((Iz f.1 1),()))<|cond (bP (bY e d) 42) (cond (bP (bY e d) 42) (a6 (1,()))<|bH (DC e d) fun f=>a6 ((Iz f.1 1),()))<|cond (bP (bY e d) 35) (cond (bP (bY e d) 35) (a6 (1,()))<|bH (DC e d) fun f=>a6 ((Iz f.1 1),()))<|cond (bP (bY e d) 63) (cond (bP (bY e d) 63) (a6 (1,()))<|bH (DC e d) fun f=>a6 ((Iz f.1 1),()))<|cond (bP (bY e d) 45) (cond (bP (bY e d) 45) (a6 (1,()))<|bH (DC e d) fun f=>a6 ((Iz f.1 1),()))<|cond (bP (bY e d) 36) (cond (bP (bY e d) 36) (a6 (1,()))<|bH (DC e d) fun f=>a6 ((Iz f.1 1),()))<|cond (bP (bY e d) 33) (a6 (1,()))<|bH (DC e d) fun f=>a6 ((Iz f.1 1),())) a7
def aw7:Sum:=⟨[.str,dA],Ve,fun x=>Wy x.1 x.2.1⟩
theorem apB:dU prog 248 aw7:=qA f248 [] (sE Xv (sE U0 aN))
noncomputable def axW:Code:=(f209.body).getD .skip
noncomputable def aqD:Code:=cA (cA (cB (cA (cB (cB (cB (axW)))))))
noncomputable def aiC:Code:=cA (cA (cB (cA (cB (cB (cB (cB (axW))))))))
def atG:eQ:=⟨[0,3,4,12,13,100004],[(100000900,.pair (.list .unit) Jd),(100000901,.pair (.list .unit) dA)],[0,3],[],[2],[(2,Jd)]⟩
def ajH:eQ:=⟨[0,3,31,32,100010],[],[3],[],[2],[(2,Jd)]⟩
def ayX:eQ:=⟨[0,3],[],[],[],[],[]⟩
def ayY:eQ:=⟨[0,3,4,5,12,13],[],[],[],[],[]⟩
def ZQ:SP:=⟨us [bR,.u,.u,eE,eI,.u,.u,.u,.u,.u,.u,.u,bO,bO] 65,[cH,dt,.arr 1502009 dA,.arr 1500009 Jd,eg]⟩
def aaA:SP:=⟨us [bR,.u,.u,eE] 75,cC⟩
def abe:SP:=⟨us [.u,.u,.v VU] 76,[]⟩
def QM {g:Type} (o:bZ->Int->Int->Bool->Int->(List oD)->jM->(List jd)->Option g) (q:bZ->jM->(List jd)->Option g) (x:(List jd)->Option g) (f:bZ) (i e:Int) (s:Bool) (u:Int) (v:List oD) (j:jM) (l:List jd):Option g:=cond (gV e i) (cond (fD f e) (bH (Ws v s u (bY f e)) fun d=>cond (bP (bI d.1.1) 0) (bH (adu l j [(0,(0,()))] e) fun h=>o f i (di .i64 e 1) d.1.2.1 d.1.2.2.1 d.1.1 h.1.2.1 h.1.1)<|bH (oI d.1.1) fun h=>bH (adu l j h.1 e) fun p=>o f i (di .i64 e 1) d.1.2.1 d.1.2.2.1 d.1.1 p.1.2.1 p.1.1) a7)<|q f j l
def J6:Nat->bZ->Int->Int->Bool->Int->(List oD)->jM->(List jd)->Option (aaA.den⊕abe.den)
 |0,_,_,_,_,_,_,_,_=>a7
 |n+1,d,e,f,g,h,i,j,l=>QM (J6 n) (fun o p q=>a6 (.inl ((o,()),(p,q,(),())))) (fun s=>a6 (.inr ((s,()),()))) d e f g h i j l
def azC (n:Nat) (v:ZQ.den):=J6 n v.1.1 v.1.2.1 v.1.2.2.1 v.2.1.1 v.2.1.2.1 v.2.2.1 v.2.2.2.1 v.2.2.2.2.1
noncomputable def akh:dE:=fJ atG ZQ aaA abe (.exit 0) (azC bM) 6
def P7:SP:=⟨us [bR,.u,.u,eE,.u,.u,.u,.u,.u,.u,.u,.u,.u,.u,.u,.u,.u,.u,.u,.u,.u,.u,.u,.u,.u,.u,.u,.u,.u,.u,.u,bO,bO] 46,cC⟩
def Uk:SP:=⟨us [.u,.u,.u,eE] 75,cC⟩
def Ut:SP:=⟨us [.u,.u,.v VU] 76,[]⟩
def eG (d:List jd) (e:Int):=dJ d (0,(0,(0,(0,(false,()))))) (dC e)
def ji (d:List jd) (e:Int) (f:bZ):=gX d (dC e) ((eG d e).1,((eG d e).2.1,((bI f),((eG d e).2.2.2.1,((eG d e).2.2.2.2.1,())))))
def fB (e:List jd) (d:Int) (f:bZ):=dJ (ji e d f) (0,(0,(0,(0,(false,()))))) (dC d)
def Lc {j:Type} (l:bZ->Int->Int->jM->(List jd)->Option j) (o:jM->(List jd)->Option j) (p:(List jd)->Option j) (f:bZ) (h d:Int) (i:jM) (e:List jd):Option j:=cond (gV d h) (cond (fD e d) (cond (lZ (dC d) e) (cond ((eG e d).2.2.2.2.1) (cond (lZ (dC d) e) (cond (lZ (dC d) (ji e d f)) (cond (bP (fB e d f).1 12) (cond (lZ (dC d) (ji e d f)) (cond (lZ (dC d) (ji e d f)) (bH (Wy f (di .i64 (fB e d f).2.1 1)) fun g=>cond (lZ (dC d) (ji e d f)) (cond ((eqN (dC d) (dC d))&&true) (cond ((eqN (dC d) (dC d))&&true) (cond (lZ (dC d) (gX (ji e d f) (dC d) ((fB e d f).1,((fB e d f).2.1,((di .i64 (di .i64 (fB e d f).2.1 1) g.1),((fB e d f).2.2.2.1,((fB e d f).2.2.2.2.1,()))))))) (cond ((eqN (dC d) (dC d))&&true) (l f h (di .i64 d 1) i (gX (gX (ji e d f) (dC d) ((fB e d f).1,((fB e d f).2.1,((di .i64 (di .i64 (fB e d f).2.1 1) g.1),((fB e d f).2.2.2.1,((fB e d f).2.2.2.2.1,())))))) (dC d) ((dJ (gX (ji e d f) (dC d) ((fB e d f).1,((fB e d f).2.1,((di .i64 (di .i64 (fB e d f).2.1 1) g.1),((fB e d f).2.2.2.1,((fB e d f).2.2.2.2.1,())))))) (0,(0,(0,(0,(false,()))))) (dC d)).1,((dJ (gX (ji e d f) (dC d) ((fB e d f).1,((fB e d f).2.1,((di .i64 (di .i64 (fB e d f).2.1 1) g.1),((fB e d f).2.2.2.1,((fB e d f).2.2.2.2.1,())))))) (0,(0,(0,(0,(false,()))))) (dC d)).2.1,((dJ (gX (ji e d f) (dC d) ((fB e d f).1,((fB e d f).2.1,((di .i64 (di .i64 (fB e d f).2.1 1) g.1),((fB e d f).2.2.2.1,((fB e d f).2.2.2.2.1,())))))) (0,(0,(0,(0,(false,()))))) (dC d)).2.2.1,((dJ (gX (ji e d f) (dC d) ((fB e d f).1,((fB e d f).2.1,((di .i64 (di .i64 (fB e d f).2.1 1) g.1),((fB e d f).2.2.2.1,((fB e d f).2.2.2.2.1,())))))) (0,(0,(0,(0,(false,()))))) (dC d)).2.2.2.1,(false,()))))))) a7) a7) a7) a7) a7) a7) a7)<|l f h (di .i64 d 1) i (ji e d f)) a7) a7)<|cond (lZ (dC d) e) (cond (bP (eG e d).1 12) (cond (lZ (dC d) e) (cond (lZ (dC d) e) (bH (Wy f (di .i64 (eG e d).2.1 1)) fun g=>cond (lZ (dC d) e) (cond ((eqN (dC d) (dC d))&&true) (cond ((eqN (dC d) (dC d))&&true) (cond (lZ (dC d) (gX e (dC d) ((eG e d).1,((eG e d).2.1,((di .i64 (di .i64 (eG e d).2.1 1) g.1),((eG e d).2.2.2.1,((eG e d).2.2.2.2.1,()))))))) (cond ((eqN (dC d) (dC d))&&true) (l f h (di .i64 d 1) i (gX (gX e (dC d) ((eG e d).1,((eG e d).2.1,((di .i64 (di .i64 (eG e d).2.1 1) g.1),((eG e d).2.2.2.1,((eG e d).2.2.2.2.1,())))))) (dC d) ((dJ (gX e (dC d) ((eG e d).1,((eG e d).2.1,((di .i64 (di .i64 (eG e d).2.1 1) g.1),((eG e d).2.2.2.1,((eG e d).2.2.2.2.1,())))))) (0,(0,(0,(0,(false,()))))) (dC d)).1,((dJ (gX e (dC d) ((eG e d).1,((eG e d).2.1,((di .i64 (di .i64 (eG e d).2.1 1) g.1),((eG e d).2.2.2.1,((eG e d).2.2.2.2.1,())))))) (0,(0,(0,(0,(false,()))))) (dC d)).2.1,((dJ (gX e (dC d) ((eG e d).1,((eG e d).2.1,((di .i64 (di .i64 (eG e d).2.1 1) g.1),((eG e d).2.2.2.1,((eG e d).2.2.2.2.1,())))))) (0,(0,(0,(0,(false,()))))) (dC d)).2.2.1,((dJ (gX e (dC d) ((eG e d).1,((eG e d).2.1,((di .i64 (di .i64 (eG e d).2.1 1) g.1),((eG e d).2.2.2.1,((eG e d).2.2.2.2.1,())))))) (0,(0,(0,(0,(false,()))))) (dC d)).2.2.2.1,(false,()))))))) a7) a7) a7) a7) a7) a7) a7)<|l f h (di .i64 d 1) i e) a7) a7) a7)<|o i e
def Ae:Nat->bZ->Int->Int->jM->(List jd)->Option (Uk.den⊕Ut.den)
 |0,_,_,_,_,_=>a7
 |n+1,d,e,f,g,h=>Lc (Ae n) (fun i j=>a6 (.inl ((),(i,j,(),())))) (fun l=>a6 (.inr ((l,()),()))) d e f g h
def aup (n:Nat) (v:P7.den):=Ae n v.1.1 v.1.2.1 v.1.2.2.1 v.2.1 v.2.2.1
noncomputable def aeq:dE:=fJ ajH P7 Uk Ut (.exit 2) (aup bM) 12
def ajd (e:bZ):Option ((List jd)×Unit):=bH (J6 bM e (bI e) 0 true 0 [(0,(0,()))] [] []) fun f=>dN f (fun d=>bH (Ae bM d.1.1 (bI d.2.2.1) 0 d.2.1 d.2.2.1) fun g=>dN g (fun h=>a6 (h.2.2.1,())) (fun b3=>a6 (b3.1.1,()))) (fun i=>a6 (i.1.1,()))
def awV:Sum:=⟨[.str],[(.list Jd,false)],fun x=>ajd x.1⟩
noncomputable def Yq:Env:=gB prog tt [(246,yJ),(248,aw7)] [(209,4,atG),(209,10,ajH),(209,600002,ayX),(209,600007,ayY)] [(209,4,akh),(209,10,aeq)] [] [(165,aci),(247,aw6)]
def alG {d:Type} (a:ZQ.den->Option d) (b:aaA.den->Option d) (c:abe.den->Option d) (v:ZQ.den):Option d:=QM (fun e f g h i j l o=>a ((e,f,g,()),((h,i,()),j,l,o,(),()))) (fun p q s=>b ((p,()),(q,s,(),()))) (aE c) v.1.1 v.1.2.1 v.1.2.2.1 v.2.1.1 v.2.1.2.1 v.2.2.1 v.2.2.2.1 v.2.2.2.2.1
theorem aAr:dQ Yq 209 aqD akh:=uV (alG) (h2:=by intros;simp only[alG,aE,QM,cO,cZ,bG,bW,dh])
def afa {d:Type} (a:P7.den->Option d) (b:Uk.den->Option d) (c:Ut.den->Option d) (v:P7.den):Option d:=Lc (fun e f g h i=>a ((e,f,g,()),(h,i,(),()))) (fun j l=>b ((),(j,l,(),()))) (aE c) v.1.1 v.1.2.1 v.1.2.2.1 v.2.1 v.2.2.1
theorem au4:dQ Yq 209 aiC aeq:=uV (afa) (h2:=by intros;simp only[afa,aE,Lc,cO,cZ,bG,bW,dh,eG,ji,fB])
theorem aEA:dM Yq 209 axW:=nV [aqD,aiC] (aD (fM (aAr)) (aD (fM (au4)) aN))
theorem ang:eu Yq:=eB (aD xB (aD apB aN)) [209] (aD ⟨f209,axW,by kernel_rfl,by kernel_rfl,aEA⟩ aN) (hx:=(aD NP (aD apz aN)))
theorem apl:dU prog 209 awV:=sA ang
def adr (d:List oD) (e:Bool) (f:Int):Option (taN×pq):=cond e (a6 ((d,(e,(f,()))),(true,())))<|some ((d,(e,(f,()))),((bP (bI d) 0),()))
def awU:fZ:=⟨216,tzC,[],[.bool],fun x y=>adr x.1 x.2.1 x.2.2.1⟩
theorem apj:dW prog 206 awU:=qB [] aN
noncomputable def aDf:Code:=(Tryz.f166.body).getD .skip
noncomputable def aqu:Code:=cA (cA (cB (cA (cB (cB (aDf))))))
def atw:eQ:=⟨[0,4,8,9,100003],[],[4],[],[2,3],[(2,Vo)]⟩
def vz:eQ:=⟨[0],[],[],[],[],[]⟩
def ajL:eQ:=⟨[4],[],[],[],[],[]⟩
def ZH:SP:=⟨us [bR,.u,.u,.u,eI,.u,.u,.u,bO,bO] 12,[cH,dt]⟩
def aar:SP:=⟨us [.u,.u,.u,.u,eI] 17,[cH,dt]⟩
def aa4:SP:=⟨us [.u,.u,eh,ca] 18,[]⟩
def QF {d:Type} (o:bZ->Int->Int->Bool->Int->(List oD)->Option d) (p:Bool->Int->(List oD)->Option d) (q:(List oD)->Bool->Option d) (f:bZ) (h e:Int) (i:Bool) (j:Int) (l:List oD):Option d:=cond (gV e h) (cond (fD f e) (bH (Ws l i j (bY f e)) fun g=>o f h (di .i64 e 1) g.1.2.1 g.1.2.2.1 g.1.1) a7)<|p i j l
def J4:Nat->bZ->Int->Int->Bool->Int->(List oD)->Option (aar.den⊕aa4.den)
 |0,_,_,_,_,_,_=>a7
 |n+1,d,e,f,g,h,i=>QF (J4 n) (fun j l o=>a6 (.inl ((),((j,l,()),o,())))) (fun p q=>a6 (.inr ((p,q,()),()))) d e f g h i
def azt (n:Nat) (v:ZH.den):=J4 n v.1.1 v.1.2.1 v.1.2.2.1 v.2.1.1 v.2.1.2.1 v.2.2.1
noncomputable def aj8:dE:=fJ atw ZH aar aa4 (.exit 0) (azt bM) 6
def ai3 (f:bZ):Option ((List oD)×Bool×Unit):=bH (J4 bM f (bI f) 0 true 0 [(0,(0,()))]) fun h=>dN h (fun d=>cond (bP (bI d.2.2.1) 0) (bH (adr d.2.2.1 d.2.1.1 d.2.1.2.1) fun e=>a6 ([(0,(0,()))],(e.2.1,())))<|bH (oI d.2.2.1) fun e=>bH (adr d.2.2.1 d.2.1.1 d.2.1.2.1) fun i=>a6 (e.1,(i.2.1,()))) (fun g=>a6 (g.1.1,(g.1.2.1,())))
def awE:Sum:=⟨[.str],[(.list Vo,false),(.bool,false)],fun x=>ai3 x.1⟩
noncomputable def agd:Env:=gB prog tt [(246,yJ)] [(166,3,atw),(166,600001,vz),(166,600007,ajL)] [(166,3,aj8)] [] [(165,aci),(206,awU)]
def alx {d:Type} (a:ZH.den->Option d) (b:aar.den->Option d) (c:aa4.den->Option d) (v:ZH.den):Option d:=QF (fun e f g h i j=>a ((e,f,g,()),((h,i,()),j,()))) (fun l o p=>b ((),((l,o,()),p,()))) (aL c) v.1.1 v.1.2.1 v.1.2.2.1 v.2.1.1 v.2.1.2.1 v.2.2.1
theorem aAi:dQ agd 166 aqu aj8:=uV (alx) (h2:=by intros;simp only[alx,aL,QF,cO,cZ,bG,bW,dh])
theorem aEt:dM agd 166 aDf:=nV [aqu] (aD (fM (aAi)) aN)
theorem am7:eu agd:=eB (aD xB aN) [166] (aD ⟨Tryz.f166,aDf,by kernel_rfl,by kernel_rfl,aEt⟩ aN) (hx:=(aD NP (aD apj aN)))
theorem ao3:dU prog 166 awE:=sA am7
def ai2 (d:List oD) (e:Bool) (f g:Int):Option (taN×pq):=bH (GN g) fun h=>cond (!h.1) (a6 ((d,(e,(f,()))),(false,())))<|cond (bP (bI d) 1) (a6 ((d,(e,(f,()))),(true,())))<|cond (bP (bI d) 2) (cond (fD d 1) (cond (lZ (dC 1) d) (cond (bP (dJ d (0,(0,())) (dC 1)).1 12) (a6 ((d,(e,(f,()))),((!(bP g 40)),())))<|some ((d,(e,(f,()))),(false,()))) a7) a7)<|some ((d,(e,(f,()))),(false,()))
def awD:fZ:=⟨216,tzC,[.int .u8],[.bool],fun x y=>ai2 x.1 x.2.1 x.2.2.1 y.1⟩
theorem ao2:dW prog 164 awD:=qB [] (sE XF aN)
noncomputable def aDd:Code:=(f140.body).getD .skip
noncomputable def aqp:Code:=cA (cA (cA (cB (cB (cB (aDd))))))
def att:eQ:=⟨[0,1,5,100004],[],[1],[],[4],[]⟩
def ZB:SP:=⟨us [bR,bO,.u,.u,.u,eI] 27,[cH,dt]⟩
def aam:SP:=⟨us [.u,bO] 31,[]⟩
def aaZ:SP:=⟨us cP 28,[]⟩
def QC {g:Type} (i:bZ->Int->Bool->Int->(List oD)->Option g) (j l:Int->Option g) (e:bZ) (d:Int) (o:Bool) (p:Int) (q:List oD):Option g:=cond (gV d (bI e)) (cond (fD e d) (bH (ai2 q o p (bY e d)) fun f=>cond f.2.1 (l d)<|cond (fD e d) (bH (Ws f.1.1 f.1.2.1 f.1.2.2.1 (bY e d)) fun h=>i e (di .i64 d 1) h.1.2.1 h.1.2.2.1 h.1.1) a7) a7)<|j d
def JZ:Nat->bZ->Int->Bool->Int->(List oD)->Option (aam.den⊕aaZ.den)
 |0,_,_,_,_,_=>a7
 |n+1,d,e,f,g,h=>QC (JZ n) (fun i=>a6 (.inl ((i,()),()))) (fun j=>a6 (.inr ((j,()),()))) d e f g h
def azo (n:Nat) (v:ZB.den):=JZ n v.1.1 v.1.2.1 v.2.1.1 v.2.1.2.1 v.2.2.1
noncomputable def aj2:dE:=fJ att ZB aam aaZ (.exit 0) (azo bM) 6
def adl (e:bZ) (d:Int):Option CQ:=cond (gV d 0) (a6 ((-1),()))<|cond (gV (bI e) d) (a6 ((-1),()))<|bH (JZ bM e d true 0 [(0,(0,()))]) fun f=>dN f (fun g=>a6 (g.1.1,())) (fun h=>a6 (h.1.1,()))
def aGa:Sum:=⟨[.str,dA],Ve,fun x=>adl x.1 x.2.1⟩
noncomputable def af8:Env:=gB prog tt [] [(140,4,att),(140,600003,BF)] [(140,4,aj2)] [] [(164,awD),(165,aci)]
def alq {d:Type} (a:ZB.den->Option d) (b:aam.den->Option d) (c:aaZ.den->Option d) (v:ZB.den):Option d:=QC (fun e f g h i=>a ((e,f,()),((g,h,()),i,()))) (aE b) (aE c) v.1.1 v.1.2.1 v.2.1.1 v.2.1.2.1 v.2.2.1
theorem aAd:dQ af8 140 aqp aj2:=uV (alq) (h2:=by intros;simp only[alq,aE,QC,cO,cZ,bG,bW,dh])
theorem aEl:dM af8 140 aDd:=nV [aqp] (aD (fM (aAd)) aN)
theorem amY:eu af8:=eB aN [140] (aD ⟨f140,aDd,by kernel_rfl,by kernel_rfl,aEl⟩ aN) (hx:=(aD ao2 (aD NP aN)))
theorem aoV:dU prog 140 aGa:=sA amY
def JF (d:Int):Option (bZ×Unit):=cond (bP d 9) (a6 ([41,41],()))<|cond (bP d 13) (cond (bP d 13) (a6 ([10],()))<|some ([],()))<|cond (bP d 14) (a6 ([10],()))<|some ([],())
def ai5 (d:Int):Option (bZ×Unit):=cond (bP d 1) (cond (bP d 1) (a6 ([41],()))<|JF d)<|cond (bP d 3) (cond (bP d 3) (a6 ([41],()))<|JF d)<|cond (bP d 2) (cond (bP d 2) (a6 ([41],()))<|JF d)<|cond (bP d 10) (cond (bP d 10) (a6 ([41],()))<|JF d)<|cond (bP d 11) (a6 ([41],()))<|JF d
def ai4 (d:Int):Option (bZ×Unit):=cond (bP d 4) (a6 ([39],()))<|cond (bP d 5) (a6 ([34],()))<|cond (bP d 6) (a6 ([96],()))<|cond (bP d 7) (cond (bP d 7) (a6 ([125],()))<|ai5 d)<|cond (bP d 8) (a6 ([125],()))<|ai5 d
def awF:Sum:=⟨[dA],tzI,fun x=>ai4 x.1⟩
theorem ao4:dU prog 168 awF:=qA f168 [] aN
noncomputable def X5:Code:=(f141.body).getD .skip
noncomputable def Ri:Code:=(f207.body).getD .skip
noncomputable def Ry:Code:=cA (cA (cB (Ri)))
def Tm:eQ:=⟨[0,1,3,173000001],[],[],[],[],[]⟩
def ay5:eQ:=⟨[2,5],[],[],[],[],[]⟩
def ayU:eQ:=⟨[2,3,5],[],[],[],[],[]⟩
def adY:eQ:=⟨[0,1,3],[],[],[],[],[]⟩
def BQ:SQ:=⟨us [.yld 1700014,eb,.u,bO] 15,cX,cD⟩
def Ee:SQ:=⟨us [] 19,cX,cD⟩
def Em:SQ:=⟨us [] 19,cX,[]⟩
def uJ {f:Type} (l:Int->bZ->bZ->(List oD)->jM->Option f) (o:bZ->bZ->(List oD)->jM->Option f) (p:bZ->Option f) (d:Int) (h i:bZ) (e:List oD) (g:jM):Option f:=cond (leI 0 d) (cond (fD e d) (bH (ai4 (dw e (0,(0,())) d).1) fun j=>cond (dY (bT g (dD j.1)) 1) (cond (bP (dw e (0,(0,())) d).1 (dw e (0,(0,())) d).1) (l (eU .i64 d 1) h i e (bT g (dD j.1))) a7) a7) a7)<|o h i e g
def qI:Nat->Int->bZ->bZ->(List oD)->jM->Option (Ee.den⊕Em.den)
 |0,_,_,_,_,_=>a7
 |n+1,d,e,f,g,h=>uJ (qI n) (fun i j l o=>a6 (.inl ((),((i,()),(),(),()),((j,()),(l,()),(),o,())))) (fun p=>a6 (.inr ((),((p,()),(),(),()),()))) d e f g h
def aef (n:Nat) (v:BQ.den):=qI n v.1.1 v.2.1.1.1 v.2.2.1.1 v.2.2.2.1.1 v.2.2.2.2.2.1
noncomputable def OE:dE:=fF Tm BQ Ee Em (.exit 0) (aef bM) 6
def aiX (e:bZ):Option (bZ×Unit):=bH (ai3 e) fun d=>bH (qI bM (eU .i64 (bI d.1) 1) [] [] d.1 []) fun f=>dN f (fun g=>a6 ((ofBytes g.2.2.2.2.2.1),())) (fun h=>a7)
def aGb:Sum:=⟨[.str],tzI,fun x=>aiX x.1⟩
noncomputable def Yp:Env:=gB prog tt [(166,awE),(168,awF)] [(207,1,Tm),(141,500005,ay5),(141,600003,ayU),(207,600003,adY)] [(207,1,OE)] [141]
def O9 {d:Type} (a:BQ.den->Option d) (b:Ee.den->Option d) (c:Em.den->Option d) (v:BQ.den):Option d:=uJ (fun e f g h i=>a ((e,()),((f,()),(),(),()),((g,()),(h,()),(),i,()))) (fun j l o p=>b ((),((j,()),(),(),()),((l,()),(o,()),(),p,()))) (fun q=>c ((),((q,()),(),(),()),())) v.1.1 v.2.1.1.1 v.2.2.1.1 v.2.2.2.1.1 v.2.2.2.2.2.1
theorem aeD:dQ Yp 207 Ry OE:=lu (O9) (h2:=by intros;simp only[O9,uJ,cO,cZ,bG,bW,dh])
theorem aD5:jJ X5=[]:=by kernel_rfl
theorem aFO:jP X5=[(cA (cA (cB (cA (cB (cB (cB (X5))))))),cB (cA (cB (cA (cB (cB (cB (X5))))))))]:=by kernel_rfl
theorem aEm:dM Yp 141 X5:=uz X5 (by rw[aFO];exact(aD (fun _=>(show rH 141 5=a6 (cA (cA (cB (cA (cB (cB (cB (X5))))))),cB (cA (cB (cA (cB (cB (cB (X5)))))))) by kernel_rfl)) aN)) (by rw[aD5];exact aN)
theorem agZ:dM Yp 207 Ri:=nV [Ry] (aD (fM (aeD)) aN)
theorem amZ:eu Yp:=eB (aD ao3 (aD ao4 aN)) [141,207] (aD ⟨f141,X5,by kernel_rfl,by kernel_rfl,aEm⟩ (aD ⟨f207,Ri,by kernel_rfl,by kernel_rfl,agZ⟩ aN))
theorem aoW:dU prog 141 aGb:=sA amZ
def aBC (d:Int):Option (bZ×Unit):=cond (bP d 10) (a6 ([62,124],()))<|cond (bP d 11) (a6 ([60],()))<|cond (bP d 12) (a6 ([62],()))<|cond (bP d 13) (a6 ([38],()))<|cond (bP d 14) (a6 ([59],()))<|cond (bP d 15) (a6 ([124],()))<|cond (bP d 16) (a6 ([40],()))<|cond (bP d 17) (a6 ([41],()))<|some ([],())
def aGr:Sum:=⟨[dA],tzI,fun x=>aBC x.1⟩
theorem apk:dU prog 208 aGr:=qA f208 [] aN
def ai6 (d:Int):Option (bZ×Unit):=cond (bP d 1) (a6 ([38,38],()))<|cond (bP d 2) (a6 ([124,124],()))<|cond (bP d 3) (a6 ([59,59],()))<|cond (bP d 4) (a6 ([60,60],()))<|cond (bP d 5) (a6 ([60,60,45],()))<|cond (bP d 6) (a6 ([62,62],()))<|cond (bP d 7) (a6 ([60,38],()))<|cond (bP d 8) (a6 ([62,38],()))<|cond (bP d 9) (a6 ([60,62],()))<|bH (aBC d) fun e=>a6 (e.1,())
def awG:Sum:=⟨[dA],tzI,fun x=>ai6 x.1⟩
theorem ao5:dU prog 169 awG:=qA Tryz.f169 [] (sE apk aN)
noncomputable def aG9:Code:=(f142.body).getD .skip
noncomputable def aqr:Code:=cA (cA (cB (cA (cB (cB (aG9))))))
def YZ:eQ:=⟨[0,3,100004],[],[],[],[2],[]⟩
def ZC:SP:=⟨us [bR,.u,.u,bO] 11,[]⟩
def aan:SP:=⟨us [] 15,[]⟩
def aa0:SP:=⟨us d9 12,[]⟩
def KU {d:Type} (g:bZ->Int->Option d) (h:Option d) (i:Int->Option d) (f:bZ) (e:Int):Option d:=cond (leI e 17) (bH (ai6 e) fun j=>cond (gG j.1 f) (i e)<|g f (di .i64 e 1)) h
def BI:Nat->bZ->Int->Option (aan.den⊕aa0.den)
 |0,_,_=>a7
 |n+1,d,e=>KU (BI n) (a6 (.inl ((),()))) (fun f=>a6 (.inr ((f,()),()))) d e
def azp (n:Nat) (v:ZC.den):=BI n v.1.1 v.1.2.1
noncomputable def aj3:dE:=fJ YZ ZC aan aa0 (.exit 0) (azp bM) 6
def Oh (d:bZ):Option CQ:=cond (gG d []) (a6 (0,()))<|bH (BI bM d 1) fun e=>dN e (fun g=>a6 (0,())) (fun f=>a6 (f.1.1,()))
def awx:Sum:=⟨[.str],Ve,fun x=>Oh x.1⟩
noncomputable def af9:Env:=iJ prog tt 142 [(169,awG)] [(4,YZ)] [(4,aj3)]
def alr {d:Type} (a:ZC.den->Option d) (b:aan.den->Option d) (c:aa0.den->Option d) (v:ZC.den):Option d:=KU (aL a) (b ((),())) (aE c) v.1.1 v.1.2.1
theorem aAe:dQ af9 142 aqr aj3:=uV (alr) (h2:=by intros;simp only[alr,aL,aE,KU,cO,cZ,bG,bW,dh])
theorem aEn:dM af9 142 aG9:=nV [aqr] (aD (fM (aAe)) aN)
theorem am0:eu af9:=eA f142 (aD ao5 aN) (aEn)
theorem NJ:dU prog 142 awx:=sA am0
noncomputable def aG7:Code:=(f135.body).getD .skip
noncomputable def aqn:Code:=cA (cA (cA (cB (cB (cB (cA (cB (aG7))))))))
def atr:eQ:=⟨[0,1,4,5,100004],[],[4,5],[],[4,5],[]⟩
def Zz:SP:=⟨us [bR,bO,.u,.u,bO,bO] 35,[]⟩
def aak:SP:=⟨us [.u,.u,.u,.u,bO,bO] 35,[]⟩
def aaX:SP:=⟨us [.u,.u,.u,.u,bO,bO] 35,[]⟩
def QA {f:Type} (j:bZ->Int->Int->Int->Option f) (i o:Int->Int->Option f) (g:bZ) (e l d:Int):Option f:=cond (gV 0 d) (cond (fE (bI g) e (di .i64 e d)) (bH (Oh (sub g e (di .i64 e d))) fun h=>cond (!(bP h.1 0)) (i h.1 d)<|j g e h.1 (eU .i64 d 1)) a7)<|i l d
def JX:Nat->bZ->Int->Int->Int->Option (aak.den⊕aaX.den)
 |0,_,_,_,_=>a7
 |n+1,d,e,f,g=>QA (JX n) (fun h i=>a6 (.inl ((h,i,()),()))) (fun j l=>a6 (.inr ((j,l,()),()))) d e f g
def azm (n:Nat) (v:Zz.den):=aR (JX n) v
noncomputable def aj0:dE:=fJ atr Zz aak aaX (.exit 0) (azm bM) 6
def aiW (e:bZ) (d:Int):Option oD:=cond (gV d 0) (a6 (0,(0,())))<|cond (leI (bI e) d) (a6 (0,(0,())))<|cond (fD e d) (bH (SI (bY e d)) fun h=>cond (!(bP h.1 3)) (a6 (0,(0,())))<|bH (JX bM e d 0 (Iz 3 (eU .i64 (bI e) d))) fun i=>dN i (fun f=>a6 (f.1.1,(f.1.2.1,()))) (fun g=>a6 (g.1.1,(g.1.2.1,())))) a7
def aF7:Sum:=⟨[.str,dA],tzJ,fun x=>aiW x.1 x.2.1⟩
noncomputable def af6:Env:=iJ prog tt 135 [(44,amn),(142,awx)] [(4,atr)] [(4,aj0)]
def alo {d:Type} (a:Zz.den->Option d) (b:aak.den->Option d) (c:aaX.den->Option d) (v:Zz.den):Option d:=aR (QA (aM a) (aL b) (aL c)) v
theorem aAb:dQ af6 135 aqn aj0:=uV (alo) (h2:=by intros;simp only[alo,aM,aL,aR,QA,cO,cZ,bG,bW,dh])
theorem aEj:dM af6 135 aG7:=nV [aqn] (aD (fM (aAb)) aN)
theorem amW:eu af6:=eA f135 (aD uN (aD NJ aN)) (aEj)
theorem aoS:dU prog 135 aF7:=sA amW
def asJ (e d:bZ):Option pq:=cond (leI (bI d) (bI e)) (cond (fE (bI e) 0 (bI d)) (a6 ((gG (sub e 0 (bI d)) d),())) a7)<|some (false,())
def aGp:Sum:=⟨[.str,.str],NZ,fun x=>asJ x.1 x.2.1⟩
theorem apf:dU prog 199 aGp:=qA f199 [] aN
def ai1 (d e:bZ):Option pq:=bH (asJ d e) fun f=>a6 (f.1,())
def aGh:Sum:=⟨[.str,.str],NZ,fun x=>ai1 x.1 x.2.1⟩
theorem ao1:dU prog 162 aGh:=qA f162 [] (sE apf aN)
def adg (d:bZ) (e:Int):Option pq:=cond (fE (bI d) e (bI d)) (bH (ai1 (sub d e (bI d)) [92,10]) fun f=>a6 (f.1,())) a7
def awu:Sum:=⟨[.str,dA],NZ,fun x=>adg x.1 x.2.1⟩
theorem Xx:dU prog 136 awu:=qA f136 [] (sE ao1 aN)
noncomputable def aG8:Code:=(f137.body).getD .skip
noncomputable def aqo:Code:=cA (cA (cA (cB (aG8))))
def YY:eQ:=⟨[0,1,100001],[],[1],[],[4],[]⟩
def ZA:SP:=⟨us [bR,bO] 23,[]⟩
def aal:SP:=⟨us [.u,bO] 23,[]⟩
def aaY:SP:=⟨us cP 20,[]⟩
def QB {f:Type} (g:bZ->Int->Option f) (h i:Int->Option f) (e:bZ) (d:Int):Option f:=cond (gV d (bI e)) (cond (fD e d) (bH (SI (bY e d)) fun j=>cond (bP j.1 1) (g e (di .i64 d 1))<|bH (adg e d) fun l=>cond l.1 (g e (di .i64 d 2))<|i d) a7)<|h d
def JY:Nat->bZ->Int->Option (aal.den⊕aaY.den)
 |0,_,_=>a7
 |n+1,d,e=>QB (JY n) (fun f=>a6 (.inl ((f,()),()))) (fun g=>a6 (.inr ((g,()),()))) d e
def azn (n:Nat) (v:ZA.den):=JY n v.1.1 v.1.2.1
noncomputable def aj1:dE:=fJ YY ZA aal aaY (.exit 0) (azn bM) 6
def adh (d:bZ) (e:Int):Option CQ:=bH (JY bM d e) fun f=>dN f (fun g=>a6 (g.1.1,())) (fun h=>a6 (h.1.1,()))
def aF8:Sum:=⟨[.str,dA],Ve,fun x=>adh x.1 x.2.1⟩
noncomputable def af7:Env:=iJ prog tt 137 [(44,amn),(136,awu)] [(1,YY)] [(1,aj1)]
def alp {d:Type} (a:ZA.den->Option d) (b:aal.den->Option d) (c:aaY.den->Option d) (v:ZA.den):Option d:=QB (aL a) (aE b) (aE c) v.1.1 v.1.2.1
theorem aAc:dQ af7 137 aqo aj1:=uV (alp) (h2:=by intros;simp only[alp,aL,aE,QB,cO,cZ,bG,bW,dh])
theorem aEk:dM af7 137 aG8:=nV [aqo] (aD (fM (aAc)) aN)
theorem amX:eu af7:=eA f137 (aD uN (aD Xx aN)) (aEk)
theorem aoT:dU prog 137 aF8:=sA amX
def ai7 (d:bZ) (e:Int):Option CQ:=a6 ((ibW d e),())
def aGi:Sum:=⟨[.str,.int .u8],Ve,fun x=>ai7 x.1 x.2.1⟩
theorem ao6:dU prog 172 aGi:=qA f172 [] (sE (afv func216 (by kernel_rfl) (by kernel_rfl) (by kernel_rfl) (by kernel_rfl)) aN)
def adm (d:bZ) (e:Int):Option CQ:=bH (ai7 d e) fun f=>a6 (f.1,())
def aGd:Sum:=⟨[.str,.int .u8],Ve,fun x=>adm x.1 x.2.1⟩
theorem Xz:dU prog 144 aGd:=qA f144 [] (sE ao6 aN)
def adi (d:bZ) (e:Int):Option (Int×Bool×Unit):=cond (fE (bI d) e (bI d)) (bH (adm (sub d e (bI d)) 10) fun f=>cond (leI 0 f.1) (a6 ((di .i64 e f.1),(true,())))<|some ((bI d),(false,()))) a7
def awv:Sum:=⟨[.str,dA],[(.int .i64,false),(.bool,false)],fun x=>adi x.1 x.2.1⟩
theorem Xy:dU prog 138 awv:=qA Tryz.f138 [] (sE Xz aN)
def adk (f:bZ) (d:Int):Option CQ:=bH (DC f d) fun e=>cond (gV d (di .i64 d e.1)) (cond (gV (di .i64 d e.1) (bI f)) (cond (fD f (di .i64 d e.1)) (cond (bP (bY f (di .i64 d e.1)) 60) (a6 ((di .i64 d e.1),()))<|cond (fD f (di .i64 d e.1)) (cond (bP (bY f (di .i64 d e.1)) 62) (a6 ((di .i64 d e.1),()))<|some (d,())) a7) a7)<|some (d,()))<|some (d,())
def aF9:Sum:=⟨[.str,dA],Ve,fun x=>adk x.1 x.2.1⟩
theorem aoU:dU prog 139 aF9:=qA f139 [] (sE Xv aN)
def YA (e:bZ) (d:Int) (h:oD):Option (sO×Unit):=cond (fD e d) (cond (bP (bY e d) 10) (a6 ((2,(d,((di .i64 d 1),(false,())))),()))<|cond (fD e d) (cond (bP (bY e d) 35) (bH (adi e d) fun g=>a6 ((3,(d,(g.1,(false,())))),()))<|cond (gV 0 h.2.1) (a6 ((4,(d,((di .i64 d h.2.1),(false,())))),()))<|bH (adk e d) fun g=>cond (gV d g.1) (bH (adk e d) fun f=>a6 ((5,(d,(f.1,(false,())))),()))<|bH (adl e d) fun f=>cond (fE (bI e) d f.1) (bH (aiX (sub e d f.1)) fun i=>a6 ((6,(d,(f.1,((!(gG i.1 [])),())))),())) a7) a7) a7
def aiR (e:bZ) (d:Int):Option (sO×Unit):=bH (aiW e d) fun g=>cond (fD e d) (bH (SI (bY e d)) fun h=>cond (bP h.1 1) (cond (bP h.1 1) (bH (adh e d) fun f=>a6 ((1,(d,(f.1,(false,())))),()))<|YA e d g)<|bH (adg e d) fun f=>cond f.1 (bH (adh e d) fun i=>a6 ((1,(d,(i.1,(false,())))),()))<|YA e d g) a7
def aF3:Sum:=⟨[.str,dA],[(.pair dA (.pair dA (.pair dA tyG)),false)],fun x=>aiR x.1 x.2.1⟩
theorem aoI:dU prog 100 aF3:=qA f100 [] (sE aoS (sE uN (sE Xx (sE aoT (sE Xy (sE aoU (sE aoV (sE aoW aN))))))))
noncomputable def aHf:Code:=(Tryz.f195.body).getD .skip
noncomputable def aqB:Code:=cA (cA (cA (cB (aHf))))
def atD:eQ:=⟨[0,1,100001],[],[0],[],[4],[]⟩
def ZO:SP:=⟨us [bR,cL] 15,[]⟩
def aay:SP:=⟨us [bR] 16,[]⟩
def abb:SP:=⟨us [.u,.u,.u,.u,bR] 12,[]⟩
def QL {e:Type} (h:bZ->Int->Option e) (f i:bZ->Option e) (d:bZ) (g:Int):Option e:=cond (gV 0 (bI d)) (cond (fD d 0) (cond (bP (bY d 0) g) (cond (fE (bI d) 1 (bI d)) (h (sub d 1 (bI d)) g) a7)<|f d) a7)<|f d
def J5:Nat->bZ->Int->Option (aay.den⊕abb.den)
 |0,_,_=>a7
 |n+1,d,e=>QL (J5 n) (fun f=>a6 (.inl ((f,()),()))) (fun g=>a6 (.inr ((g,()),()))) d e
def azA (n:Nat) (v:ZO.den):=J5 n v.1.1 v.1.2.1
noncomputable def akf:dE:=fJ atD ZO aay abb (.exit 0) (azA bM) 6
def ajc (d:bZ) (e:Int):Option (bZ×Unit):=bH (J5 bM d e) fun f=>dN f (fun g=>a6 (g.1.1,())) (fun h=>a6 (h.1.1,()))
def awN:Sum:=⟨[.str,.int .u8],tzI,fun x=>ajc x.1 x.2.1⟩
noncomputable def agi:Env:=iJ prog tt 195 [] [(1,atD)] [(1,akf)]
def alE {d:Type} (a:ZO.den->Option d) (b:aay.den->Option d) (c:abb.den->Option d) (v:ZO.den):Option d:=QL (aL a) (aE b) (aE c) v.1.1 v.1.2.1
theorem aAp:dQ agi 195 aqB akf:=uV (alE) (h2:=by intros;simp only[alE,aL,aE,QL,cO,cZ,bG,bW,dh])
theorem aEz:dM agi 195 aHf:=nV [aqB] (aD (fM (aAp)) aN)
theorem anf:eu agi:=eA Tryz.f195 aN (aEz)
theorem ape:dU prog 195 awN:=sA anf
noncomputable def aDc:Code:=(f133.body).getD .skip
noncomputable def aqm:Code:=cA (cA (cA (cB (cA (cB (aDc))))))
def atq:eQ:=⟨[0,1,5,100001],[],[1],[],[6,7],[]⟩
def ayT:eQ:=⟨[0,5,8,9,10],[],[],[],[],[]⟩
def Zy:SP:=⟨us [bR,bO,.u,.u,.u,cy] 33,da⟩
def Qc:SP:=⟨us [.u,bO] 37,[]⟩
def Qh:SP:=⟨us [.u,.u,.u,.u,.u,.u,bO,ca] 31,[]⟩
def Ar {g:Type} (d:(Int×Bool×Unit)) (e:bZ) (h:Int) (f:bZ) (i:Int->Bool->Option g) (j:bZ->Int->bZ->Bool->Option g) (l:Bool):Option g:=cond d.2.1 (cond (gG (sub e h d.1) f) (i (di .i64 d.1 1) true)<|j e (di .i64 d.1 1) f l)<|cond (gG (sub e h d.1) f) (i d.1 true)<|j e d.1 f l
def Qz {l:Type} (i:bZ->Int->bZ->Bool->Option l) (p:Int->Option l) (j:Int->Bool->Option l) (e:bZ) (f:Int) (g:bZ) (h:Bool):Option l:=cond (gV f (bI e)) (bH (adi e f) fun d=>cond (fE (bI e) f d.1) (cond h (cond (gG (sub e f d.1) []) (Ar d e f g j i h)<|cond (gG [9] []) (Ar d e f g j i h)<|cond (bP (bI [9]) 1) (cond (fD [9] 0) (cond (gV (bY [9] 0) 128) (cond (fD [9] 0) (bH (ajc (sub e f d.1) (bY [9] 0)) fun o=>cond d.2.1 (cond (gG o.1 g) (j (di .i64 d.1 1) true)<|i e (di .i64 d.1 1) g h)<|cond (gG o.1 g) (j d.1 true)<|i e d.1 g h) a7) a7) a7) a7)<|Ar d e f g j i h) a7)<|p f
def BH:Nat->bZ->Int->bZ->Bool->Option (Qc.den⊕Qh.den)
 |0,_,_,_,_=>a7
 |n+1,d,e,f,g=>Qz (BH n) (fun h=>a6 (.inl ((h,()),()))) (fun i j=>a6 (.inr ((i,j,()),()))) d e f g
def azl (n:Nat) (v:Zy.den):=BH n v.1.1 v.1.2.1 v.2.1.1 v.2.1.2.1
noncomputable def ajZ:dE:=fJ atq Zy Qc Qh (.exit 0) (azl bM) 6
def aiV (f:bZ) (g:Int) (d:bZ×pq):Option (Int×Bool×Unit):=bH (BH bM f g d.1 d.2.1) fun h=>dN h (fun i=>a6 (i.1.1,(false,()))) (fun e=>a6 (e.1.1,(e.1.2.1,())))
def aF6:Sum:=⟨[.str,dA,Dk],[(.int .i64,false),(.bool,false)],fun x=>aiV x.1 x.2.1 x.2.2.1⟩
noncomputable def af5:Env:=gB prog tt [(138,awv),(195,awN)] [(133,1,atq),(133,600005,ayT)] [(133,1,ajZ)] []
def aln {d:Type} (a:Zy.den->Option d) (b:Qc.den->Option d) (c:Qh.den->Option d) (v:Zy.den):Option d:=Qz (fun e f g h=>a ((e,f,()),((g,h,()),()))) (aE b) (aL c) v.1.1 v.1.2.1 v.2.1.1 v.2.1.2.1
theorem aAa:dQ af5 133 aqm ajZ:=uV (aln) (h2:=by intros;simp only[aln,aE,aL,Qz,cO,cZ,bG,bW,dh,Ar])
theorem aEi:dM af5 133 aDc:=nV [aqm] (aD (fM (aAa)) aN)
theorem amV:eu af5:=eB (aD Xy (aD ape aN)) [133] (aD ⟨f133,aDc,by kernel_rfl,by kernel_rfl,aEi⟩ aN)
theorem aoR:dU prog 133 aF6:=sA amV
def SE:Option taU:=a6 (([84],([0],(true,()))),())
def acg:Sum:=⟨[],tzG,fun x=>SE⟩
theorem NL:dU prog 150 acg:=qA f150 [] aN
def xU (d:Ht) (e:Bool):Option taU:=a6 ((d.1,(d.2.1,(e,()))),())
def aGl:Sum:=⟨[.pair .str tyL,.bool],tzG,fun x=>xU x.1 x.2.1⟩
theorem NR:dU prog 178 aGl:=qA f178 [] aN
def DD (d:Ht) (e:bZ):Option taU:=cond (fE (bI d.1) 0 (eU .i64 (bI d.1) 1)) (cond (iH (sub d.1 0 (eU .i64 (bI d.1) 1)) e) (a6 (((bT (sub d.1 0 (eU .i64 (bI d.1) 1)) e),(d.2.1,(d.2.2.1,()))),())) a7) a7
def aGm:Sum:=⟨[.pair .str tyL,.str],tzG,fun x=>DD x.1 x.2.1⟩
theorem XC:dU prog 179 aGm:=qA f179 [] aN
def JG (d:Ht):Option taU:=cond (fE (bI d.1) 0 (eU .i64 (bI d.1) 1)) (cond (fE (bI d.2.1) 0 (eU .i64 (bI d.1) 1)) (a6 (((sub d.1 0 (eU .i64 (bI d.1) 1)),((sub d.2.1 0 (eU .i64 (bI d.1) 1)),(d.2.2.1,()))),())) a7) a7
def aGn:Sum:=⟨[.pair .str tyL],tzG,fun x=>JG x.1⟩
theorem NS:dU prog 180 aGn:=qA f180 [] aN
noncomputable def b56:Code:=(f56.body).getD .skip
noncomputable def aBr:Code:=cA (cA (cB (cA (cB (b56)))))
def aBU:eQ:=⟨[0,1,5,100002],[],[],[],[4],[]⟩
def akU:SP:=⟨us [cL,bR,.u,.u,.u,bO] 11,[]⟩
def ahu:SP:=⟨us [] 17,[]⟩
def ahQ:SP:=⟨us [.u,.u,.u,.u,ca] 12,[]⟩
def UO {d:Type} (h:Int->bZ->Int->Option d) (i:Option d) (j:Bool->Option d) (g:Int) (e:bZ) (f:Int):Option d:=cond (gV f (bI e)) (cond (fD e f) (cond (bP (bY e f) g) (j true)<|h g e (di .i64 f 1)) a7) i
def BK:Nat->Int->bZ->Int->Option (ahu.den⊕ahQ.den)
 |0,_,_,_=>a7
 |n+1,d,e,f=>UO (BK n) (a6 (.inl ((),()))) (fun g=>a6 (.inr ((g,()),()))) d e f
def aE4 (n:Nat) (v:akU.den):=ba (BK n) v
noncomputable def auH:dE:=fJ aBU akU ahu ahQ (.exit 0) (aE4 bM) 6
def Gy (d:Int) (e:bZ):Option pq:=bH (BK bM d e 0) fun f=>dN f (fun h=>a6 (false,())) (fun g=>a6 (g.1.1,()))
def aCw:Sum:=⟨[.int .u8,.str],NZ,fun x=>Gy x.1 x.2.1⟩
noncomputable def arO:Env:=iJ prog tt 56 [] [(2,aBU)] [(2,auH)]
def avR {d:Type} (a:akU.den->Option d) (b:ahu.den->Option d) (c:ahQ.den->Option d) (v:akU.den):Option d:=ba (UO (a8 a) (b ((),())) (aE c)) v
theorem aFA:dQ arO 56 aBr auH:=uV (avR) (h2:=by intros;simp only[avR,a8,aE,ba,UO,cO,cZ,bG,bW,dh])
theorem aIi:dM arO 56 b56:=nV [aBr] (aD (fM (aFA)) aN)
theorem arP:eu arO:=eA f56 aN (aIi)
theorem EJ:dU prog 56 aCw:=sA arP
def SN (d:Int):Option CQ:=cond (bP d 32) (a6 (1,()))<|cond (bP d 9) (a6 (1,()))<|cond (bP d 10) (a6 (2,()))<|bH (Gy d [124,38,59,60,62,40,41]) fun e=>cond e.1 (a6 (3,()))<|bH (Gy d [92,39,34,96,36]) fun f=>cond f.1 (a6 (4,()))<|bH (Gy d [65,66,67,68,69,70,71,72,73,74,75,76,77,78,79,80,81,82,83,84,85,86,87,88,89,90,97,98,99,100,101,102,103,104,105,106,107,108,109,110,111,112,113,114,115,116,117,118,119,120,121,122,95]) fun g=>cond g.1 (a6 (5,()))<|bH (Gy d [48,49,50,51,52,53,54,55,56,57]) fun h=>cond h.1 (a6 (6,()))<|some (0,())
def axo:Sum:=⟨[.int .u8],Ve,fun x=>SN x.1⟩
theorem EI:dU prog 55 axo:=qA f55 [] (sE EJ aN)
def ado (e:Int):Option pq:=bH (SN e) fun d=>cond (bP d.1 1) (a6 (true,()))<|cond (bP d.1 2) (a6 (true,()))<|some ((bP d.1 3),())
def awz:Sum:=⟨[.int .u8],NZ,fun x=>ado x.1⟩
theorem XB:dU prog 151 awz:=qA f151 [] (sE EI aN)
def kL (d:Ht) (e:bZ):=gG (bT d.1 e) (bT d.1 e)
def mF (d:Ht):=mr dA d.2.1 d.2.1
def wW (d:Ht) (e:bZ) (f:Int):Option taU:=cond (iH d.1 e) (cond (gG d.1 d.1) (cond (gG e e) (cond (iH d.1 e) (cond (kL d e) (cond (mF d) (cond (bP f f) (cond (jv d.2.2.1 d.2.2.1) (cond (dY (bT [] d.2.1) 8) (cond (gG d.1 d.1) (cond (gG e e) (cond (iH d.1 e) (cond (kL d e) (cond (bP f f) (cond (jv d.2.2.1 d.2.2.1) (cond (gG d.1 d.1) (cond (gG e e) (cond (iH d.1 e) (cond (kL d e) (cond (mF d) (cond (jv d.2.2.1 d.2.2.1) (cond (dY (bT (bT [] d.2.1) [f]) 8) (cond (gG d.1 d.1) (cond (gG e e) (cond (iH d.1 e) (cond (kL d e) (cond (mF d) (cond (bP f f) (cond (jv d.2.2.1 d.2.2.1) (bH (cond (gG d.1 d.1) (cond (gG e e) (cond (iH d.1 e) (cond (kL d e) (cond (mF d) (cond (jv d.2.2.1 d.2.2.1) (cond (dY (bT [] d.2.1) 8) (cond (gG d.1 d.1) (cond (gG e e) (cond (iH d.1 e) (cond (kL d e) (cond (bP f f) (cond (jv d.2.2.1 d.2.2.1) (cond (dY (bT (bT [] d.2.1) [f]) 8) (cond (gG d.1 d.1) (cond (gG e e) (cond (iH d.1 e) (cond (kL d e) (cond (mF d) (cond (bP f f) (cond (jv d.2.2.1 d.2.2.1) (cond (((((gG d.1 d.1)&&((mF d)&&((jv d.2.2.1 d.2.2.1)&&true)))&&((gG e e)&&((bP f f)&&((gG d.1 d.1)&&((gG e e)&&((kL d e)&&((mF d)&&((bP f f)&&((jv d.2.2.1 d.2.2.1)&&(((kL d e)&&((jv d.2.2.1 d.2.2.1)&&true))&&true))))))))))&&(((mr dA [f] [f])&&((mr dA (bT (bT [] d.2.1) [f]) (bT (bT [] d.2.1) [f]))&&(((kL d e)&&((jv d.2.2.1 d.2.2.1)&&true))&&(((gG d.1 d.1)&&((mF d)&&((jv d.2.2.1 d.2.2.1)&&true)))&&true))))&&true))&&true) (a6 ()) (a7)) (a7)) (a7)) (a7)) (a7)) (a7)) (a7)) (a7)) (a7)) (a7)) (a7)) (a7)) (a7)) (a7)) (a7)) (a7)) (a7)) (a7)) (a7)) (a7)) (a7)) (a7)) fun g=>bH (cond (gG d.1 d.1) (cond (gG e e) (cond (iH d.1 e) (cond (kL d e) (cond (mF d) (cond (jv d.2.2.1 d.2.2.1) (cond (gG d.1 d.1) (cond (gG e e) (cond (iH d.1 e) (cond (kL d e) (cond (mF d) (cond (bP f f) (cond (jv d.2.2.1 d.2.2.1) (cond (dY (bT [] d.2.1) 8) (cond (gG d.1 d.1) (cond (gG e e) (cond (iH d.1 e) (cond (kL d e) (cond (bP f f) (cond (jv d.2.2.1 d.2.2.1) (cond (dY (bT (bT [] d.2.1) [f]) 8) (cond (gG d.1 d.1) (cond (gG e e) (cond (iH d.1 e) (cond (kL d e) (cond (mF d) (cond (bP f f) (cond (jv d.2.2.1 d.2.2.1) (cond (((((gG d.1 d.1)&&((mF d)&&((jv d.2.2.1 d.2.2.1)&&true)))&&((gG e e)&&((bP f f)&&((gG d.1 d.1)&&((gG e e)&&((kL d e)&&((mF d)&&((bP f f)&&((jv d.2.2.1 d.2.2.1)&&(((kL d e)&&((jv d.2.2.1 d.2.2.1)&&true))&&true))))))))))&&(((mr dA [f] [f])&&((mr dA (bT (bT [] d.2.1) [f]) (bT (bT [] d.2.1) [f]))&&(((kL d e)&&((jv d.2.2.1 d.2.2.1)&&true))&&(((gG d.1 d.1)&&((mF d)&&((jv d.2.2.1 d.2.2.1)&&true)))&&true))))&&true))&&true) (a6 ()) (a7)) (a7)) (a7)) (a7)) (a7)) (a7)) (a7)) (a7)) (a7)) (a7)) (a7)) (a7)) (a7)) (a7)) (a7)) (a7)) (a7)) (a7)) (a7)) (a7)) (a7)) (a7)) (a7)) (a7)) (a7)) (a7)) (a7)) (a7)) (a7)) fun h=>a6 (((bT d.1 e),((bT (bT [] d.2.1) [f]),(d.2.2.1,()))),())) a7) a7) a7) a7) a7) a7) a7) a7) a7) a7) a7) a7) a7) a7) a7) a7) a7) a7) a7) a7) a7) a7) a7) a7) a7) a7) a7) a7) a7
def aGu:Sum:=⟨[.pair .str tyL,.str,dA],tzG,fun x=>wW x.1 x.2.1 x.2.2.1⟩
theorem XG:dU prog 225 aGu:=qA Tryz.f225 [] aN
def Wv (d:Int):Option (bZ×Unit):=cond (bP d 92) (a6 ([88],()))<|cond (bP d 36) (a6 ([76],()))<|cond (bP d 96) (a6 ([66],()))<|some ([],())
def aGv:Sum:=⟨[.int .u8],tzI,fun x=>Wv x.1⟩
theorem XH:dU prog 226 aGv:=qA f226 [] aN
def YD (e:Int) (d:Ht) (f:Int):Option taU:=bH (Wv e) fun g=>bH (wW (d.1,(d.2.1,(d.2.2.1,()))) g.1 f) fun i=>cond (bP e e) (bH (xU i.1 false) fun h=>cond ((gG d.1 d.1)&&((mr dA d.2.1 d.2.1)&&((jv d.2.2.1 d.2.2.1)&&true))) (cond (bP e e) (cond (bP f f) (cond (((bP e e)&&true)&&((gG g.1 g.1)&&true)) (a6 ((h.1.1,(h.1.2.1,(h.1.2.2.1,()))),())) a7) a7) a7) a7) a7
def YE (g h:Int) (d:Ht) (i:Int):Option taU:=cond (bP g 40) (cond (bP h 84) (bH (xU (d.1,(d.2.1,(d.2.2.1,()))) true) fun e=>a6 ((e.1.1,(e.1.2.1,(e.1.2.2.1,()))),()))<|bH (wW (d.1,(d.2.1,(d.2.2.1,()))) [80] i) fun e=>bH (xU e.1 true) fun f=>a6 ((f.1.1,(f.1.2.1,(f.1.2.2.1,()))),()))<|cond (bP g 41) (cond (bP h 84) (bH (xU (d.1,(d.2.1,(d.2.2.1,()))) true) fun e=>a6 ((e.1.1,(e.1.2.1,(e.1.2.2.1,()))),()))<|bH (JG (d.1,(d.2.1,(d.2.2.1,())))) fun e=>bH (xU e.1 (bP h 80)) fun f=>a6 ((f.1.1,(f.1.2.1,(f.1.2.2.1,()))),()))<|bH (ado g) fun e=>bH (xU (d.1,(d.2.1,(d.2.2.1,()))) e.1) fun f=>cond (bP g g) (a6 ((f.1.1,(f.1.2.1,(f.1.2.2.1,()))),())) a7
def ajg (d:Ht) (i f g:Int):Option taU:=cond (bP f 92) (bH (wW (d.1,(d.2.1,(d.2.2.1,()))) [88] g) fun e=>a6 ((e.1.1,(e.1.2.1,(e.1.2.2.1,()))),()))<|cond (bP f 39) (bH (wW (d.1,(d.2.1,(d.2.2.1,()))) [83] g) fun e=>bH (xU e.1 false) fun h=>a6 ((h.1.1,(h.1.2.1,(h.1.2.2.1,()))),()))<|cond (bP f 34) (bH (wW (d.1,(d.2.1,(d.2.2.1,()))) [68] g) fun e=>bH (xU e.1 false) fun h=>a6 ((h.1.1,(h.1.2.1,(h.1.2.2.1,()))),()))<|cond (bP f 96) (YD f d g)<|cond (bP f 36) (YD f d g)<|cond (bP f 35) (cond d.2.2.1 (bH (wW (d.1,(d.2.1,(d.2.2.1,()))) [35] g) fun e=>a6 ((e.1.1,(e.1.2.1,(e.1.2.2.1,()))),()))<|YE f i d g)<|YE f i d g
def aGt:Sum:=⟨[.pair .str tyL,.int .u8,.int .u8,dA],tzG,fun x=>ajg x.1 x.2.1 x.2.2.1 x.2.2.2.1⟩
theorem apr:dU prog 224 aGt:=qA Tryz.f224 [] (sE XB (sE NR (sE NS (sE XG (sE XH aN)))))
def Bl (d:Ht) (f g h:Int):Option taU:=bH (ajg (d.1,(d.2.1,(d.2.2.1,()))) f g h) fun e=>a6 ((e.1.1,(e.1.2.1,(e.1.2.2.1,()))),())
def uZ (d:Ht):Option taU:=bH (JG (d.1,(d.2.1,(d.2.2.1,())))) fun e=>a6 ((e.1.1,(e.1.2.1,(e.1.2.2.1,()))),())
def E8 (f:Int) (d:Ht):Option taU:=cond (bP f 41) (bH (DD (d.1,(d.2.1,(d.2.2.1,()))) [69]) fun e=>a6 ((e.1.1,(e.1.2.1,(e.1.2.2.1,()))),()))<|some ((d.1,(d.2.1,(d.2.2.1,()))),())
def E9 (e:Int) (d:Ht) (g h:Int):Option taU:=cond (bP e 40) (bH (wW (d.1,(d.2.1,(d.2.2.1,()))) [82] g) fun f=>a6 ((f.1.1,(f.1.2.1,(f.1.2.2.1,()))),()))<|cond (bP e 41) (cond (bP h 82) (uZ d)<|E8 e d)<|E8 e d
def GM (d:Ht) (g e i:Int):Option taU:=cond (bP g 84) (Bl d g e i)<|cond (bP g 67) (Bl d g e i)<|cond (bP g 80) (Bl d g e i)<|cond (bP g 88) (bH (JG (d.1,(d.2.1,(d.2.2.1,())))) fun h=>cond (!(bP e 10)) (bH (xU (h.1.1,(h.1.2.1,(h.1.2.2.1,()))) false) fun f=>a6 ((f.1.1,(f.1.2.1,(f.1.2.2.1,()))),()))<|some ((h.1.1,(h.1.2.1,(h.1.2.2.1,()))),()))<|cond (bP g 83) (cond (bP e 39) (uZ d)<|some ((d.1,(d.2.1,(d.2.2.1,()))),()))<|cond (bP g 35) (cond (bP e 10) (bH (JG (d.1,(d.2.1,(d.2.2.1,())))) fun h=>bH (xU h.1 true) fun f=>a6 ((f.1.1,(f.1.2.1,(f.1.2.2.1,()))),()))<|some ((d.1,(d.2.1,(d.2.2.1,()))),()))<|cond (bP g 66) (cond (bP e 96) (uZ d)<|cond (bP e 92) (bH (wW (d.1,(d.2.1,(d.2.2.1,()))) [88] i) fun h=>a6 ((h.1.1,(h.1.2.1,(h.1.2.2.1,()))),()))<|some ((d.1,(d.2.1,(d.2.2.1,()))),()))<|bH (Wv e) fun h=>cond (!(gG h.1 [])) (bH (Wv e) fun f=>bH (wW (d.1,(d.2.1,(d.2.2.1,()))) f.1 i) fun j=>cond (bP e e) (a6 ((j.1.1,(j.1.2.1,(j.1.2.2.1,()))),())) a7)<|cond (bP g 65) (E9 e d i g)<|cond (bP g 82) (E9 e d i g)<|cond (bP g 68) (cond (bP e 34) (uZ d)<|some ((d.1,(d.2.1,(d.2.2.1,()))),()))<|cond (bP e 34) (bH (wW (d.1,(d.2.1,(d.2.2.1,()))) [68] i) fun f=>a6 ((f.1.1,(f.1.2.1,(f.1.2.2.1,()))),()))<|cond (bP e 125) (uZ d)<|cond (bP e 39) (cond (bP g 86) (bH (wW (d.1,(d.2.1,(d.2.2.1,()))) [83] i) fun f=>a6 ((f.1.1,(f.1.2.1,(f.1.2.2.1,()))),()))<|some ((d.1,(d.2.1,(d.2.2.1,()))),()))<|some ((d.1,(d.2.1,(d.2.2.1,()))),())
def aGo:Sum:=⟨[.pair .str tyL,.int .u8,.int .u8,dA],tzG,fun x=>GM x.1 x.2.1 x.2.2.1 x.2.2.2.1⟩
theorem ao9:dU prog 181 aGo:=qA f181 [] (sE NR (sE XC (sE NS (sE apr (sE XG (sE XH aN))))))
def SG (d:Ht) (g h:Int):Option taU:=cond (fD d.1 (eU .i64 (bI d.1) 1)) (cond (bP (bY d.1 (eU .i64 (bI d.1) 1)) 76) (cond (bP g 40) (bH (DD (d.1,(d.2.1,(d.2.2.1,()))) [79]) fun e=>bH (xU e.1 true) fun f=>a6 ((f.1.1,(f.1.2.1,(f.1.2.2.1,()))),()))<|cond (bP g 123) (cond (fD d.1 (eU .i64 (bI d.1) 2)) (cond (bP (bY d.1 (eU .i64 (bI d.1) 2)) 68) (bH (DD (d.1,(d.2.1,(d.2.2.1,()))) [73]) fun e=>a6 ((e.1.1,(e.1.2.1,(e.1.2.2.1,()))),()))<|cond (fD d.1 (eU .i64 (bI d.1) 2)) (cond (bP (bY d.1 (eU .i64 (bI d.1) 2)) 73) (bH (DD (d.1,(d.2.1,(d.2.2.1,()))) [73]) fun e=>a6 ((e.1.1,(e.1.2.1,(e.1.2.2.1,()))),()))<|bH (DD (d.1,(d.2.1,(d.2.2.1,()))) [86]) fun e=>a6 ((e.1.1,(e.1.2.1,(e.1.2.2.1,()))),())) a7) a7)<|bH (JG (d.1,(d.2.1,(d.2.2.1,())))) fun e=>cond (bP g 36) (a6 ((e.1.1,(e.1.2.1,(e.1.2.2.1,()))),()))<|cond (fD e.1.1 (eU .i64 (bI e.1.1) 1)) (bH (GM (e.1.1,(e.1.2.1,(e.1.2.2.1,()))) (bY e.1.1 (eU .i64 (bI e.1.1) 1)) g h) fun f=>a6 ((f.1.1,(f.1.2.1,(f.1.2.2.1,()))),())) a7)<|cond (bP (bY d.1 (eU .i64 (bI d.1) 1)) 79) (cond (bP g 40) (bH (DD (d.1,(d.2.1,(d.2.2.1,()))) [65]) fun e=>bH (xU e.1 false) fun f=>a6 ((f.1.1,(f.1.2.1,(f.1.2.2.1,()))),()))<|bH (DD (d.1,(d.2.1,(d.2.2.1,()))) [67]) fun e=>bH (GM (e.1.1,(e.1.2.1,(e.1.2.2.1,()))) 67 g h) fun f=>a6 ((f.1.1,(f.1.2.1,(f.1.2.2.1,()))),()))<|cond (bP (bY d.1 (eU .i64 (bI d.1) 1)) 69) (cond (bP g 41) (bH (JG (d.1,(d.2.1,(d.2.2.1,())))) fun e=>a6 ((e.1.1,(e.1.2.1,(e.1.2.2.1,()))),()))<|bH (DD (d.1,(d.2.1,(d.2.2.1,()))) [65]) fun e=>bH (GM (e.1.1,(e.1.2.1,(e.1.2.2.1,()))) 65 g h) fun f=>a6 ((f.1.1,(f.1.2.1,(f.1.2.2.1,()))),()))<|bH (GM (d.1,(d.2.1,(d.2.2.1,()))) (bY d.1 (eU .i64 (bI d.1) 1)) g h) fun e=>a6 ((e.1.1,(e.1.2.1,(e.1.2.2.1,()))),())) a7
def ach:Sum:=⟨[.pair .str tyL,.int .u8,dA],tzG,fun x=>SG x.1 x.2.1 x.2.2.1⟩
theorem NM:dU prog 152 ach:=qA f152 [] (sE NR (sE XC (sE NS (sE ao9 aN))))
noncomputable def aHg:Code:=(f227.body).getD .skip
noncomputable def aqF:Code:=cA (cA (cB (cA (cB (aHg)))))
def atI:eQ:=⟨[1,2,5,100002],[],[],[],[4],[]⟩
def ZT:SP:=⟨us [.u,bO,eJ,.u,.u,bO] 15,[.box 1000002 165 eR]⟩
def aaC:SP:=⟨us [] 21,[]⟩
def abg:SP:=⟨us cP 16,[]⟩
def QO {e:Type} (h:Int->Int->bZ->jM->Bool->Option e) (i:Option e) (j:Int->Option e) (g d:Int) (l:bZ) (f:jM) (o:Bool):Option e:=cond (gV d (bI f)) (cond (fD f d) (cond (bP (dw f 0 d) g) (j d)<|h g (di .i64 d 1) l f o) a7) i
def FI:Nat->Int->Int->bZ->jM->Bool->Option (aaC.den⊕abg.den)
 |0,_,_,_,_,_=>a7
 |n+1,d,e,f,g,h=>QO (FI n) (a6 (.inl ((),()))) (fun i=>a6 (.inr ((i,()),()))) d e f g h
def azE (n:Nat) (v:ZT.den):=FI n v.1.1 v.1.2.1 v.2.1.1 v.2.1.2.1 v.2.1.2.2.1
noncomputable def akj:dE:=fJ atI ZT aaC abg (.exit 0) (azE bM) 6
def adt (d:Ht) (e:Int):Option CQ:=bH (FI bM e 1 d.1 d.2.1 d.2.2.1) fun f=>dN f (fun h=>a6 (0,())) (fun g=>a6 (g.1.1,()))
def aw0:Sum:=⟨[.pair .str tyL,dA],Ve,fun x=>adt x.1 x.2.1⟩
noncomputable def agk:Env:=iJ prog tt 227 [] [(2,atI)] [(2,akj)]
def alI {d:Type} (a:ZT.den->Option d) (b:aaC.den->Option d) (c:abg.den->Option d) (v:ZT.den):Option d:=QO (fun e f g h i=>a ((e,f,()),((g,h,i,()),()))) (b ((),())) (aE c) v.1.1 v.1.2.1 v.2.1.1 v.2.1.2.1 v.2.1.2.2.1
theorem aAt:dQ agk 227 aqF akj:=uV (alI) (h2:=by intros;simp only[alI,aE,QO,cO,cZ,bG,bW,dh])
theorem aEC:dM agk 227 aHg:=nV [aqF] (aD (fM (aAt)) aN)
theorem ank:eu agk:=eA f227 aN (aEC)
theorem aps:dU prog 227 aw0:=sA ank
noncomputable def aHh:Code:=(f228.body).getD .skip
noncomputable def aqG:Code:=cA (cA (cB (cA (cB (cB (cB (aHh)))))))
def atJ:eQ:=⟨[0,3,100006],[],[],[],[2],[]⟩
def ZU:SP:=⟨us [cL,.u,.u,bO] 13,[]⟩
def aaD:SP:=⟨us [] 17,[]⟩
def abh:SP:=⟨us d9 14,[]⟩
def abW {e:Type} (g:Int->Int->Option e) (h:Option e) (i:Int->Option e) (f d:Int):Option e:=cond (gV d 15) (cond (fD [84,67,80,79,83,68,66,86,73,65,82,69,76,88,35] d) (cond (bP (bY [84,67,80,79,83,68,66,86,73,65,82,69,76,88,35] d) f) (i d)<|g f (di .i64 d 1)) a7) h
def Y7:Nat->Int->Int->Option (aaD.den⊕abh.den)
 |0,_,_=>a7
 |n+1,d,e=>abW (Y7 n) (a6 (.inl ((),()))) (fun f=>a6 (.inr ((f,()),()))) d e
def azF (n:Nat) (v:ZU.den):=Y7 n v.1.1 v.1.2.1
noncomputable def akk:dE:=fJ atJ ZU aaD abh (.exit 0) (azF bM) 6
def ajh (d:Int):Option CQ:=cond (bP d 79) (a6 (1,()))<|cond (bP d 69) (a6 (9,()))<|bH (Y7 bM d 0) fun e=>dN e (fun g=>a6 (0,())) (fun f=>a6 (f.1.1,()))
def aw1:Sum:=⟨[.int .u8],Ve,fun x=>ajh x.1⟩
noncomputable def agl:Env:=iJ prog tt 228 [] [(6,atJ)] [(6,akk)]
def alJ {d:Type} (a:ZU.den->Option d) (b:aaD.den->Option d) (c:abh.den->Option d) (v:ZU.den):Option d:=abW (aL a) (b ((),())) (aE c) v.1.1 v.1.2.1
theorem aAu:dQ agl 228 aqG akk:=uV (alJ) (h2:=by intros;simp only[alJ,aL,aE,abW,cO,cZ,bG,bW,dh])
theorem aED:dM agl 228 aHh:=nV [aqG] (aD (fM (aAu)) aN)
theorem anl:eu agl:=eA f228 aN (aED)
theorem apt:dU prog 228 aw1:=sA anl
noncomputable def b32:Code:=(f32.body).getD .skip
noncomputable def aBl:Code:=cA (cA (cB (cA (cB (cB (b32))))))
def akO:SP:=⟨us [bR,.u,.u,bO] 27,[]⟩
def ahp:SP:=⟨us [] 31,[]⟩
def ahL:SP:=⟨us [.u,.u,ca] 28,[]⟩
def ab3 {f:Type} (g:bZ->Int->Option f) (h:Option f) (i:Bool->Option f) (d:bZ) (e:Int):Option f:=cond (gV e (bI d)) (cond (fD d e) (bH (SN (bY d e)) fun j=>cond (!(bP j.1 5)) (cond (fD d e) (bH (SN (bY d e)) fun l=>cond (!(bP l.1 6)) (i false)<|g d (di .i64 e 1)) a7)<|g d (di .i64 e 1)) a7) h
def MM:Nat->bZ->Int->Option (ahp.den⊕ahL.den)
 |0,_,_=>a7
 |n+1,d,e=>ab3 (MM n) (a6 (.inl ((),()))) (fun f=>a6 (.inr ((f,()),()))) d e
def aEY (n:Nat) (v:akO.den):=MM n v.1.1 v.1.2.1
noncomputable def auB:dE:=fJ YZ akO ahp ahL (.exit 0) (aEY bM) 6
def YJ (d:bZ):Option pq:=cond (bP (bI d) 0) (a6 (false,()))<|cond (fD d 0) (bH (SN (bY d 0)) fun e=>cond (!(bP e.1 5)) (a6 (false,()))<|bH (MM bM d 1) fun f=>dN f (fun h=>a6 (true,())) (fun g=>a6 (g.1.1,()))) a7
def XK:Sum:=⟨[.str],NZ,fun x=>YJ x.1⟩
noncomputable def arz:Env:=iJ prog tt 32 [(55,axo)] [(4,YZ)] [(4,auB)]
def avL {d:Type} (a:akO.den->Option d) (b:ahp.den->Option d) (c:ahL.den->Option d) (v:akO.den):Option d:=ab3 (aL a) (b ((),())) (aE c) v.1.1 v.1.2.1
theorem aFu:dQ arz 32 aBl auB:=uV (avL) (h2:=by intros;simp only[avL,aL,aE,ab3,cO,cZ,bG,bW,dh])
theorem aIc:dM arz 32 b32:=nV [aBl] (aD (fM (aFu)) aN)
theorem arA:eu arz:=eA f32 (aD EI aN) (aIc)
theorem EG:dU prog 32 XK:=sA arA
noncomputable def aHi:Code:=(f263.body).getD .skip
noncomputable def aqO:Code:=cA (cA (cB (cA (cB (cB (aHi))))))
def Y0:eQ:=⟨[0,1,5,6,100003],[],[5],[],[4],[]⟩
def Z7:SP:=⟨us [bR,bO,.u,.u,.u,bO,bO] 17,[]⟩
def aaL:SP:=⟨us [.u,.u,.u,.u,.u,bO] 18,[]⟩
def abq:SP:=⟨us cP 19,[]⟩
def QU {g:Type} (h:bZ->Int->Int->Int->Option g) (j o:Int->Option g) (f:bZ) (d i e:Int):Option g:=cond (leI e (eU .i64 (bI f) d)) (cond (fE (bI f) d (di .i64 d e)) (bH (YJ (sub f d (di .i64 d e))) fun l=>cond l.1 (h f d e (di .i64 e 1))<|h f d i (di .i64 e 1)) a7)<|j i
def FP:Nat->bZ->Int->Int->Int->Option (aaL.den⊕abq.den)
 |0,_,_,_,_=>a7
 |n+1,d,e,f,g=>QU (FP n) (fun h=>a6 (.inl ((h,()),()))) (fun i=>a6 (.inr ((i,()),()))) d e f g
def azN (n:Nat) (v:Z7.den):=aR (FP n) v
noncomputable def aks:dE:=fJ Y0 Z7 aaL abq (.exit 0) (azN bM) 6
def ajq (d:bZ) (e:Int):Option CQ:=bH (FP bM d e 0 1) fun f=>dN f (fun g=>a6 (g.1.1,())) (fun h=>a6 (h.1.1,()))
def aGB:Sum:=⟨[.str,dA],Ve,fun x=>ajq x.1 x.2.1⟩
noncomputable def agr:Env:=iJ prog tt 263 [(32,XK)] [(3,Y0)] [(3,aks)]
def alR {d:Type} (a:Z7.den->Option d) (b:aaL.den->Option d) (c:abq.den->Option d) (v:Z7.den):Option d:=aR (QU (aM a) (aE b) (aE c)) v
theorem aAC:dQ agr 263 aqO aks:=uV (alR) (h2:=by intros;simp only[alR,aM,aE,aR,QU,cO,cZ,bG,bW,dh])
theorem aEK:dM agr 263 aHi:=nV [aqO] (aD (fM (aAC)) aN)
theorem anz:eu agr:=eA f263 (aD EG aN) (aEK)
theorem apE:dU prog 263 aGB:=sA anz
def aji (d:bZ) (e:Int):Option CQ:=bH (ajq d e) fun f=>cond (bP f.1 0) (cond (gV e (bI d)) (cond (fD d e) (bH (SN (bY d e)) fun g=>cond (bP g.1 6) (a6 (1,()))<|cond (fD d e) (bH (Gy (bY d e) [64,42,35,63,45,36,33]) fun h=>cond h.1 (a6 (1,()))<|some (f.1,())) a7) a7)<|some (f.1,()))<|some (f.1,())
def aw2:Sum:=⟨[.str,dA],Ve,fun x=>aji x.1 x.2.1⟩
theorem apu:dU prog 229 aw2:=qA f229 [] (sE EI (sE EJ (sE apE aN)))
noncomputable def ap6:Code:=(f182.body).getD .skip
noncomputable def aqv:Code:=cA (cA (cB (cA (cB (cB (ap6))))))
noncomputable def aiy:Code:=cA (cA (cB (cA (cB (cB (cB (cA (cA (cB (cA (cA (cB (cA (cB (cB (cB (cB (ap6))))))))))))))))))
noncomputable def aiz:Code:=cA (cA (cB (cA (cB (cB (cB (cB (cA (cA (cB (cA (cA (cB (cA (cB (cB (cB (cB (ap6)))))))))))))))))))
noncomputable def aqw:Code:=cA (cA (cB (cA (cB (cB (cB (cB (ap6))))))))
def atx:eQ:=⟨[0,3,4,100003],[],[0,3],[],[2],[(2,Jd)]⟩
def ajD:eQ:=⟨[0,3,5,6,7,8,9,100014],[],[0,3,5,6,7,8],[],[2],[(2,Jd)]⟩
def ajE:eQ:=⟨[0,3,5,6,7,8,10,100019],[],[0,3,5,6,8],[],[2],[(2,Jd)]⟩
def aty:eQ:=⟨[0,3,5,6,100008],[(5,Jd)],[5],[],[2],[(2,Jd)]⟩
def ZI:SP:=⟨us [bR,.u,.u,dy,bO] 117,[cU]⟩
def aas:SP:=⟨us [bR,.u,.u,dy] 118,[cU]⟩
def aa5:SP:=⟨d7,[]⟩
def QG {g:Type} (i:bZ->Int->(List Ht)->Option g) (j:bZ->(List Ht)->Option g) (l:(List jd)->Option g) (f:bZ) (d:Int) (e:List Ht):Option g:=cond (gV d (bI f)) (cond (fD e d) (cond (fD f d) (cond (lZ (dC d) e) (bH (SG ((dJ e ([],([],(false,()))) (dC d)).1,((dJ e ([],([],(false,()))) (dC d)).2.1,((dJ e ([],([],(false,()))) (dC d)).2.2.1,()))) (bY f d) d) fun h=>cond (dY (bT e [h.1]) 48) (i f (di .i64 d 1) (bT e [h.1])) a7) a7) a7) a7)<|j f e
def FB:Nat->bZ->Int->(List Ht)->Option (aas.den⊕aa5.den)
 |0,_,_,_=>a7
 |n+1,d,e,f=>QG (FB n) (fun g h=>a6 (.inl ((g,()),(h,())))) (fun i=>a6 (.inr ((i,()),()))) d e f
def azu (n:Nat) (v:ZI.den):=FB n v.1.1 v.1.2.1 v.2.1
noncomputable def aj9:dE:=fJ atx ZI aas aa5 (.exit 0) (azu bM) 6
def PY:SP:=⟨us [bR,.u,.u,dy,.u,dj,bO,bO,ec,bO] 112,cm⟩
def Uh:SP:=⟨us [bR,.u,.u,dy,.u,dj,bO,bO,ec] 113,cm⟩
def Uo:SP:=⟨d7,[]⟩
def KX {i:Type} (s:bZ->Int->Int->Int->Int->Int->Int->Int->Bool->(List jd)->(List Ht)->Option i) (v:bZ->Int->Int->Int->Int->Int->Int->Bool->(List jd)->(List Ht)->Option i) (x:(List jd)->Option i) (j:bZ) (d h e l o p u:Int) (q:Bool) (f:List jd) (g:List Ht):Option i:=cond (gV e (bI f)) (cond (gV 1 h) (cond (fD f e) (cond (lZ (dC e) f) (cond (fD g (di .i64 d 1)) (cond (lZ (dC (di .i64 d 1)) g) (cond (fD (dJ g ([],([],(false,()))) (dC (di .i64 d 1))).2.1 (eU .i64 h 1)) (cond (bP (dJ f (0,(0,(0,(0,(false,()))))) (dC e)).2.1 (dw (dJ g ([],([],(false,()))) (dC (di .i64 d 1))).2.1 0 (eU .i64 h 1))) (s j d h (di .i64 e 1) l o p e q f g)<|s j d h (di .i64 e 1) l o p u q f g) a7) a7) a7) a7) a7)<|s j d h (di .i64 e 1) l o p u q f g)<|v j d h l o p u q f g
def Ac:Nat->bZ->Int->Int->Int->Int->Int->Int->Int->Bool->(List jd)->(List Ht)->Option (Uh.den⊕Uo.den)
 |0,_,_,_,_,_,_,_,_,_,_,_=>a7
 |n+1,d,e,f,g,h,i,j,l,o,p,q=>KX (Ac n) (fun s u v x y z A B D E=>a6 (.inl ((s,u,v,()),((x,y,z,A,B,()),D,E,())))) (fun G=>a6 (.inr ((G,()),()))) d e f g h i j l o p q
def aul (n:Nat) (v:PY.den):=bb (Ac n) v
noncomputable def aem:dE:=fJ ajD PY Uh Uo (.exit 4) (aul bM) 12
def PZ:SP:=⟨us [bR,.u,.u,dy,.u,dj,bO,bO,ec,.u,bO] 111,cm⟩
def Ui:SP:=⟨us [bR,.u,.u,dy,.u,dj,bO,.u,ec] 113,cm⟩
def Ur:SP:=⟨d7,[]⟩
def Az {f:Type} (v:bZ->Int->Int->Int->Int->Int->Int->Int->Bool->(List jd)->(List Ht)->Option f) (p:bZ->Int->Int->Int->Int->Int->Bool->(List jd)->(List Ht)->Option f) (z:(List jd)->Option f) (g:bZ) (h i d q j s l:Int) (u:Bool) (o:List jd) (e:List Ht):Option f:=cond (leI d (bI g)) (cond (fD e d) (cond (lZ (dC d) e) (bH (adt ((dJ e ([],([],(false,()))) (dC d)).1,((dJ e ([],([],(false,()))) (dC d)).2.1,((dJ e ([],([],(false,()))) (dC d)).2.2.1,()))) h) fun x=>cond (bP x.1 0) (p g h q j d l false o e)<|cond (fD e d) (cond (lZ (dC d) e) (cond (fD (dJ e ([],([],(false,()))) (dC d)).1 i) (bH (ajh (bY (dJ e ([],([],(false,()))) (dC d)).1 i)) fun y=>v g h i (di .i64 d 1) y.1 j s l u o e) a7) a7) a7) a7) a7)<|p g h q j s l u o e
def xm:Nat->bZ->Int->Int->Int->Int->Int->Int->Int->Bool->(List jd)->(List Ht)->Option (Ui.den⊕Ur.den)
 |0,_,_,_,_,_,_,_,_,_,_,_=>a7
 |n+1,d,e,f,g,h,i,j,l,o,p,q=>Az (xm n) (fun s u v x y z A B D=>a6 (.inl ((s,u,()),((v,x,y,z,A,()),B,D,())))) (fun E=>a6 (.inr ((E,()),()))) d e f g h i j l o p q
def aum (n:Nat) (v:PZ.den):=bb (xm n) v
noncomputable def aen:dE:=fJ ajE PZ Ui Ur (.exit 6) (aum bM) 18
def ZJ:SP:=⟨us [bR,.u,.u,dy,.u,dj,bO] 115,[.arr 1800005 Jd,cU]⟩
def aat:SP:=⟨us [.u,.u,.u,.u,.u,dj] 116,[.arr 1800005 Jd]⟩
def aa6:SP:=⟨d7,[]⟩
def QH {i:Type} (j:bZ->Int->(List jd)->(List Ht)->Option i) (s o:(List jd)->Option i) (h:bZ) (f:Int) (l:List jd) (g:List Ht):Option i:=cond (gV f (bI h)) (cond (fD g (di .i64 f 1)) (cond (lZ (dC (di .i64 f 1)) g) (bH (adt ((dJ g ([],([],(false,()))) (dC (di .i64 f 1))).1,((dJ g ([],([],(false,()))) (dC (di .i64 f 1))).2.1,((dJ g ([],([],(false,()))) (dC (di .i64 f 1))).2.2.1,()))) f) fun p=>cond (bP p.1 0) (j h (di .i64 f 1) l g)<|bH (Ac bM h f p.1 0 0 f (bI h) (-1) true l g) fun u=>dN u (fun e=>bH (xm bM e.1.1 e.1.2.1 e.1.2.2.1 (di .i64 e.1.2.1 1) e.2.1.1 e.2.1.2.1 e.2.1.2.2.1 e.2.1.2.2.2.1 e.2.1.2.2.2.2.1 e.2.2.1 e.2.2.2.1) fun v=>dN v (fun d=>cond (bP d.2.1.1 12) (bH (aji d.1.1 (di .i64 d.1.2.1 1)) fun q=>cond (dY (bT d.2.2.1 [(d.2.1.1,(d.2.1.2.1,((di .i64 (di .i64 d.1.2.1 1) q.1),(d.2.1.2.2.2.1,(false,())))))]) 40) (j d.1.1 (di .i64 d.1.2.1 1) (bT d.2.2.1 [(d.2.1.1,(d.2.1.2.1,((di .i64 (di .i64 d.1.2.1 1) q.1),(d.2.1.2.2.2.1,(false,())))))]) d.2.2.2.1) a7)<|cond (dY (bT d.2.2.1 [(d.2.1.1,(d.2.1.2.1,(d.2.1.2.2.1,(d.2.1.2.2.2.1,(d.2.1.2.2.2.2.1,())))))]) 40) (j d.1.1 (di .i64 d.1.2.1 1) (bT d.2.2.1 [(d.2.1.1,(d.2.1.2.1,(d.2.1.2.2.1,(d.2.1.2.2.2.1,(d.2.1.2.2.2.2.1,())))))]) d.2.2.2.1) a7) (fun x=>o x.1.1)) (fun y=>o y.1.1)) a7) a7)<|s l
def BJ:Nat->bZ->Int->(List jd)->(List Ht)->Option (aat.den⊕aa6.den)
 |0,_,_,_,_=>a7
 |n+1,d,e,f,g=>QH (BJ n) (fun h=>a6 (.inl ((),(h,())))) (fun i=>a6 (.inr ((i,()),()))) d e f g
def azv (n:Nat) (v:ZJ.den):=BJ n v.1.1 v.1.2.1 v.2.1 v.2.2.1
noncomputable def aka:dE:=fJ aty ZJ aat aa6 (.exit 2) (azv bM) 24
def aja (e:bZ):Option ((List jd)×Unit):=bH SE fun f=>bH (FB bM e 0 [f.1]) fun g=>dN g (fun d=>bH (BJ bM d.1.1 0 [] d.2.1) fun h=>dN h (fun i=>a6 (i.2.1,())) (fun j=>a6 (j.1.1,()))) (fun l=>a6 (l.1.1,()))
def awJ:Sum:=⟨[.str],[(.list Jd,false)],fun x=>aja x.1⟩
noncomputable def LV:Env:=iJ prog tt 182 [(150,acg),(152,ach),(227,aw0),(228,aw1),(229,aw2)] [(3,atx),(14,ajD),(19,ajE),(8,aty)] [(3,aj9),(14,aem),(19,aen),(8,aka)]
def aly {d:Type} (a:ZI.den->Option d) (b:aas.den->Option d) (c:aa5.den->Option d) (v:ZI.den):Option d:=QG (fun e f g=>a ((e,f,()),(g,()))) (fun h i=>b ((h,()),(i,()))) (aE c) v.1.1 v.1.2.1 v.2.1
theorem aAj:dQ LV 182 aqv aj9:=uV (aly) (h2:=by intros;simp only[aly,aE,QG,cO,cZ,bG,bW,dh])
def ae6 {d:Type} (a:PY.den->Option d) (b:Uh.den->Option d) (c:Uo.den->Option d) (v:PY.den):Option d:=bb (KX (fun e f g h i j l o p q s=>a ((e,f,g,h,()),((i,j,l,o,p,()),q,s,()))) (fun u x y z A B D E G I=>b ((u,x,y,()),((z,A,B,D,E,()),G,I,()))) (aE c)) v
theorem au0:dQ LV 182 aiy aem:=uV (ae6) (h2:=by intros;simp only[ae6,aE,bb,KX,cO,cZ,bG,bW,dh])
def ae7 {d:Type} (a:PZ.den->Option d) (b:Ui.den->Option d) (c:Ur.den->Option d) (v:PZ.den):Option d:=bb (Az (fun e f g h i j l o p q s=>a ((e,f,g,h,()),((i,j,l,o,p,()),q,s,()))) (fun u x y z A B D E G=>b ((u,x,()),((y,z,A,B,D,()),E,G,()))) (aE c)) v
theorem au1:dQ LV 182 aiz aen:=uV (ae7) (h2:=by intros;simp only[ae7,aE,bb,Az,cO,cZ,bG,bW,dh])
def alz {d:Type} (a:ZJ.den->Option d) (b:aat.den->Option d) (c:aa6.den->Option d) (v:ZJ.den):Option d:=QH (fun e f g h=>a ((e,f,()),(g,h,()))) (fun i=>b ((),(i,()))) (aE c) v.1.1 v.1.2.1 v.2.1 v.2.2.1
theorem aAk:dQ LV 182 aqw aka:=uV (alz) (h2:=by intros;simp only[alz,aE,QH,cO,cZ,bG,bW,dh])
theorem aEu:dM LV 182 ap6:=nV [aqv,aiy,aiz,aqw] (aD (fM (aAj)) (aD (fM (au0)) (aD (fM (au1)) (aD (fM (aAk)) aN))))
theorem am9:eu LV:=eA f182 (aD NL (aD NM (aD aps (aD apt (aD apu aN))))) (aEu)
theorem apa:dU prog 182 awJ:=sA am9
noncomputable def aHb:Code:=(Tryz.f154.body).getD .skip
noncomputable def aqt:Code:=cA (cA (cB (cA (cB (cB (aHb))))))
def atv:eQ:=⟨[0,2,3,4,100003],[],[2,3],[],[2],[]⟩
def ZF:SP:=⟨us [bR,.u,eJ,cW,bO] 14,dk⟩
def aap:SP:=⟨us [.u,.u,eJ,cW] 15,dk⟩
def aa2:SP:=⟨us [] 19,[]⟩
def QE {e:Type} (p:bZ->Int->bZ->jM->Bool->bZ->Bool->Option e) (q:bZ->jM->Bool->bZ->Bool->Option e) (s:Option e) (f:bZ) (d:Int) (h:bZ) (i:jM) (j:Bool) (l:bZ) (o:Bool):Option e:=cond (gV d (bI f)) (cond (fD f d) (bH (SG (h,(i,(j,()))) (bY f d) d) fun g=>p f (di .i64 d 1) g.1.1 g.1.2.1 g.1.2.2.1 l o) a7)<|q h i j l o
def J3:Nat->bZ->Int->bZ->jM->Bool->bZ->Bool->Option (aap.den⊕aa2.den)
 |0,_,_,_,_,_,_,_=>a7
 |n+1,d,e,f,g,h,i,j=>QE (J3 n) (fun l o p q s=>a6 (.inl ((),((l,o,p,()),(q,s,()),())))) (a6 (.inr ((),()))) d e f g h i j
def azr (n:Nat) (v:ZF.den):=J3 n v.1.1 v.1.2.1 v.2.1.1 v.2.1.2.1 v.2.1.2.2.1 v.2.2.1.1 v.2.2.1.2.1
noncomputable def aj7:dE:=fJ atv ZF aap aa2 (.exit 0) (azr bM) 6
def ai0 (f:bZ):Option taU:=bH SE fun d=>bH (J3 bM f 0 d.1.1 d.1.2.1 d.1.2.2.1 [] false) fun g=>dN g (fun e=>a6 ((e.2.1.1,(e.2.1.2.1,(e.2.1.2.2.1,()))),())) (fun h=>a7)
def aGg:Sum:=⟨[.str],tzG,fun x=>ai0 x.1⟩
noncomputable def agc:Env:=iJ prog tt 154 [(150,acg),(152,ach)] [(3,atv)] [(3,aj7)]
def alu {d:Type} (a:ZF.den->Option d) (b:aap.den->Option d) (c:aa2.den->Option d) (v:ZF.den):Option d:=QE (fun e f g h i j l=>a ((e,f,()),((g,h,i,()),(j,l,()),()))) (fun o p q s u=>b ((),((o,p,q,()),(s,u,()),()))) (c ((),())) v.1.1 v.1.2.1 v.2.1.1 v.2.1.2.1 v.2.1.2.2.1 v.2.2.1.1 v.2.2.1.2.1
theorem aAg:dQ agc 154 aqt aj7:=uV (alu) (h2:=by intros;simp only[alu,QE,cO,cZ,bG,bW,dh])
theorem aEq:dM agc 154 aHb:=nV [aqt] (aD (fM (aAg)) aN)
theorem am4:eu agc:=eA Tryz.f154 (aD NL (aD NM aN)) (aEq)
theorem ao0:dU prog 154 aGg:=sA am4
noncomputable def aG5:Code:=(f116.body).getD .skip
noncomputable def aqi:Code:=cA (cA (cB (cA (cB (cB (aG5))))))
def atm:eQ:=⟨[0,5,6,100003],[],[0],[],[4],[]⟩
def Zu:SP:=⟨us [bR,.u,.u,.u,.u,cy,bO] 37,[.box 1000005 165 eR]⟩
def Qb:SP:=⟨us [bR] 43,[]⟩
def Qg:SP:=⟨us cP 39,[]⟩
def Aq {g:Type} (e:bZ) (d:Int) (h:bZ) (i:jM) (j:Bool) (l:bZ->Int->bZ->jM->Bool->Option g):Option g:=cond (fD e d) (bH (SG (h,(i,(j,()))) (bY e d) d) fun f=>l e (di .i64 d 1) f.1.1 f.1.2.1 f.1.2.2.1) a7
def Qv {g:Type} (h:bZ->Int->bZ->jM->Bool->Option g) (o:bZ->Option g) (l:Int->Option g) (e:bZ) (d:Int) (f:bZ) (i:jM) (j:Bool):Option g:=cond (gV d (bI e)) (cond (fD e d) (bH (ado (bY e d)) fun p=>cond p.1 (cond (gG f [84]) (l d)<|cond (gG f [84,76]) (cond (fD e d) (cond (!(bP (bY e d) 40)) (l d)<|Aq e d f i j h) a7)<|Aq e d f i j h)<|Aq e d f i j h) a7)<|o e
def Fq:Nat->bZ->Int->bZ->jM->Bool->Option (Qb.den⊕Qg.den)
 |0,_,_,_,_,_=>a7
 |n+1,d,e,f,g,h=>Qv (Fq n) (fun i=>a6 (.inl ((i,()),()))) (fun j=>a6 (.inr ((j,()),()))) d e f g h
def azh (n:Nat) (v:Zu.den):=Fq n v.1.1 v.1.2.1 v.2.1.1 v.2.1.2.1 v.2.1.2.2.1
noncomputable def ajV:dE:=fJ atm Zu Qb Qg (.exit 0) (azh bM) 6
def Wn (e:bZ) (f:Int):Option CQ:=bH SE fun d=>bH (Fq bM e f d.1.1 d.1.2.1 d.1.2.2.1) fun g=>dN g (fun h=>a6 ((bI h.1.1),())) (fun i=>a6 (i.1.1,()))
def awo:Sum:=⟨[.str,dA],Ve,fun x=>Wn x.1 x.2.1⟩
noncomputable def af0:Env:=iJ prog tt 116 [(150,acg),(152,ach),(151,awz)] [(3,atm)] [(3,ajV)]
def ali {d:Type} (a:Zu.den->Option d) (b:Qb.den->Option d) (c:Qg.den->Option d) (v:Zu.den):Option d:=Qv (fun e f g h i=>a ((e,f,()),((g,h,i,()),()))) (aE b) (aE c) v.1.1 v.1.2.1 v.2.1.1 v.2.1.2.1 v.2.1.2.2.1
theorem az6:dQ af0 116 aqi ajV:=uV (ali) (h2:=by intros;simp only[ali,aE,Qv,cO,cZ,bG,bW,dh,Aq])
theorem aEf:dM af0 116 aG5:=nV [aqi] (aD (fM (az6)) aN)
theorem amR:eu af0:=eA f116 (aD NL (aD NM (aD XB aN))) (aEf)
theorem aoN:dU prog 116 awo:=sA amR
end
section
open Option renaming some → a6, none → a7
open Tryz
open Go.RowKit
noncomputable def aDa:Code:=(f113.body).getD .skip
noncomputable def aqf:Code:=cA (cA (cA (cB (cB (cA (cA (cB (cA (cA (cB (cA (cB (cB (aDa))))))))))))))
noncomputable def aqe:Code:=cA (cA (cB (cA (cB (cB (aDa))))))
def atl:eQ:=⟨[0,5,9,10,100007],[],[0,5,9,10],[],[6,7],[]⟩
def atj:eQ:=⟨[0,5,8,9,100003],[],[0],[],[6,7],[]⟩
def Zq:SP:=⟨eN,da⟩
def aaf:SP:=⟨eN,da⟩
def aaS:SP:=⟨us [.u,.u,.u,.u,.u,.u,bO,bO] 66,[]⟩
def Qr {i:Type} (l j:bZ->Int->Int->bZ->Bool->Option i) (o:Int->Int->Option i) (e:bZ) (f d:Int) (h:bZ) (g:Bool):Option i:=cond g (cond (gV d f) (cond (fD e d) (cond (bP (bY e d) 9) (l e f (di .i64 d 1) h g)<|j e f d h g) a7)<|j e f d h g)<|j e f d h g
def JW:Nat->bZ->Int->Int->bZ->Bool->Option (aaf.den⊕aaS.den)
 |0,_,_,_,_,_=>a7
 |n+1,d,e,f,g,h=>Qr (JW n) (fun i j l o p=>a6 (.inl ((i,j,l,()),((o,p,()),())))) (fun q s=>a6 (.inr ((q,s,()),()))) d e f g h
def aze (n:Nat) (v:Zq.den):=JW n v.1.1 v.1.2.1 v.1.2.2.1 v.2.1.1 v.2.1.2.1
noncomputable def ajS:dE:=fJ atl Zq aaf aaS (.exit 2) (aze bM) 6
def Zp:SP:=⟨us [bR,.u,.u,.u,.u,cy,.u,.u,bO,bO] 64,da⟩
def P9:SP:=⟨us [bR] 73,[]⟩
def Qd:SP:=⟨us [.u,.u,.u,.u,.u,.u,bO,bO] 66,[]⟩
def qK {e:Type} (h:bZ) (i j:Int) (l:bZ) (o:Bool) (f:Int->Int->Option e) (p:bZ->Int->Int->bZ->Bool->Option e):Option e:=bH (JW bM h i j l o) fun q=>dN q (fun d=>cond (fE (bI d.1.1) d.1.2.2.1 d.1.2.1) (cond (gG (sub d.1.1 d.1.2.2.1 d.1.2.1) d.2.1.1) (cond (gV d.1.2.1 (bI d.1.1)) (f (di .i64 d.1.2.1 1) 1)<|f d.1.2.1 1)<|p d.1.1 (di .i64 d.1.2.1 1) (di .i64 d.1.2.1 1) d.2.1.1 d.2.1.2.1) a7) (fun g=>f g.1.1 g.1.2.1)
def Gg {j:Type} (g:bZ->Int->Int->bZ->Bool->Option j) (o:bZ->Option j) (l:Int->Int->Option j) (e:bZ) (f d:Int) (h:bZ) (i:Bool):Option j:=cond (leI d (bI e)) (cond (gV d (bI e)) (cond (fD e d) (cond (!(bP (bY e d) 10)) (g e f (di .i64 d 1) h i)<|cond (bP d (bI e)) (cond (bP f d) (g e f (di .i64 d 1) h i)<|qK e d f h i l g)<|qK e d f h i l g) a7)<|cond (bP d (bI e)) (cond (bP f d) (g e f (di .i64 d 1) h i)<|qK e d f h i l g)<|qK e d f h i l g)<|o e
def vC:Nat->bZ->Int->Int->bZ->Bool->Option (P9.den⊕Qd.den)
 |0,_,_,_,_,_=>a7
 |n+1,d,e,f,g,h=>Gg (vC n) (fun i=>a6 (.inl ((i,()),()))) (fun j l=>a6 (.inr ((j,l,()),()))) d e f g h
def azd (n:Nat) (v:Zp.den):=vC n v.1.1 v.1.2.1 v.1.2.2.1 v.2.1.1 v.2.1.2.1
noncomputable def ajR:dE:=fJ atj Zp P9 Qd (.exit 0) (azd bM) 12
def aiT (g:bZ) (d:Int) (e:bZ×pq):Option oD:=bH (vC bM g d d e.1 e.2.1) fun h=>dN h (fun i=>a6 ((bI i.1.1),(0,()))) (fun f=>a6 (f.1.1,(f.1.2.1,())))
def awl:Sum:=⟨[.str,dA,Dk],tzJ,fun x=>aiT x.1 x.2.1 x.2.2.1⟩
noncomputable def Yo:Env:=iJ prog tt 113 [] [(7,atl),(3,atj)] [(7,ajS),(3,ajR)]
def alf {d:Type} (a:Zq.den->Option d) (b:aaf.den->Option d) (c:aaS.den->Option d) (v:Zq.den):Option d:=Qr (fun e f g h i=>a ((e,f,g,()),((h,i,()),()))) (fun j l o p q=>b ((j,l,o,()),((p,q,()),()))) (aL c) v.1.1 v.1.2.1 v.1.2.2.1 v.2.1.1 v.2.1.2.1
theorem az3:dQ Yo 113 aqf ajS:=uV (alf) (h2:=by intros;simp only[alf,aL,Qr,cO,cZ,bG,bW,dh])
def ale {d:Type} (a:Zp.den->Option d) (b:P9.den->Option d) (c:Qd.den->Option d) (v:Zp.den):Option d:=Gg (fun e f g h i=>a ((e,f,g,()),((h,i,()),()))) (aE b) (aL c) v.1.1 v.1.2.1 v.1.2.2.1 v.2.1.1 v.2.1.2.1
theorem az2:dQ Yo 113 aqe ajR:=uV (ale) (h2:=by intros;simp only[ale,aE,aL,Gg,cO,cZ,bG,bW,dh,qK])
theorem aEc:dM Yo 113 aDa:=nV [aqf,aqe] (aD (fM (az3)) (aD (fM (az2)) aN))
theorem amO:eu Yo:=eA f113 aN (aEc)
theorem aoK:dU prog 113 awl:=sA amO
noncomputable def aG3:Code:=(f114.body).getD .skip
noncomputable def aqg:Code:=cA (cA (cA (cB (aG3))))
def Zr:SP:=⟨us [bR,bO] 40,[]⟩
def Qa:SP:=⟨us [.u,bO] 40,[]⟩
def Qe:SP:=⟨us cP 37,[]⟩
def Qs {g:Type} (h:bZ->Int->Option g) (f i:Int->Option g) (e:bZ) (d:Int):Option g:=cond (gV d (bI e)) (cond (fD e d) (cond (bP (bY e d) 32) (h e (di .i64 d 1))<|cond (fD e d) (cond (bP (bY e d) 9) (h e (di .i64 d 1))<|cond (fD e d) (cond (bP (bY e d) 92) (cond (gV (di .i64 d 1) (bI e)) (cond (fD e (di .i64 d 1)) (cond (bP (bY e (di .i64 d 1)) 10) (h e (di .i64 d 2))<|f d) a7)<|f d)<|f d) a7) a7) a7)<|f d
def Fj:Nat->bZ->Int->Option (Qa.den⊕Qe.den)
 |0,_,_=>a7
 |n+1,d,e=>Qs (Fj n) (fun f=>a6 (.inl ((f,()),()))) (fun g=>a6 (.inr ((g,()),()))) d e
def azf (n:Nat) (v:Zr.den):=Fj n v.1.1 v.1.2.1
noncomputable def ajT:dE:=fJ YY Zr Qa Qe (.exit 0) (azf bM) 6
def aiU (d:bZ) (e:Int):Option CQ:=bH (Fj bM d e) fun f=>dN f (fun g=>a6 (g.1.1,())) (fun h=>a6 (h.1.1,()))
def awm:Sum:=⟨[.str,dA],Ve,fun x=>aiU x.1 x.2.1⟩
noncomputable def afY:Env:=iJ prog tt 114 [] [(1,YY)] [(1,ajT)]
def alg {d:Type} (a:Zr.den->Option d) (b:Qa.den->Option d) (c:Qe.den->Option d) (v:Zr.den):Option d:=Qs (aL a) (aE b) (aE c) v.1.1 v.1.2.1
theorem az4:dQ afY 114 aqg ajT:=uV (alg) (h2:=by intros;simp only[alg,aL,aE,Qs,cO,cZ,bG,bW,dh])
theorem aEd:dM afY 114 aG3:=nV [aqg] (aD (fM (az4)) aN)
theorem amP:eu afY:=eA f114 aN (aEd)
theorem aoL:dU prog 114 awm:=sA amP
noncomputable def b84:Code:=(f84.body).getD .skip
noncomputable def aBu:Code:=cA (cA (cA (cB (cB (cB (b84))))))
def aBX:eQ:=⟨[3,100004],[],[3],[],[2],[]⟩
def akX:SP:=⟨us [.u,.u,.u,bR] 29,[]⟩
def ahx:SP:=⟨us [.u,.u,.u,bR] 29,[]⟩
def ahT:SP:=⟨us [.u,.u,bR] 30,[]⟩
def aib {e:Type} (g f h:bZ->Option e) (d:bZ):Option e:=cond (gV 0 (bI d)) (cond (fD d (eU .i64 (bI d) 1)) (cond (bP (bY d (eU .i64 (bI d) 1)) 32) (cond (fE (bI d) 0 (eU .i64 (bI d) 1)) (g (sub d 0 (eU .i64 (bI d) 1))) a7)<|f d) a7)<|f d
def ag8:Nat->bZ->Option (ahx.den⊕ahT.den)
 |0,_=>a7
 |n+1,d=>aib (ag8 n) (fun e=>a6 (.inl ((e,()),()))) (fun f=>a6 (.inr ((f,()),()))) d
def aE7 (n:Nat) (v:akX.den):=ag8 n v.1.1
noncomputable def auK:dE:=fJ aBX akX ahx ahT (.exit 0) (aE7 bM) 6
def YN (d:Int):Option (bZ×Unit):=cond (gV d 1) (a6 ([],()))<|cond (gV 17 d) (a6 ([],()))<|cond (fE (bI [38,38,32,124,124,32,59,59,32,60,60,32,60,60,45,62,62,32,60,38,32,62,38,32,60,62,32,62,124,32,60,32,32,62,32,32,38,32,32,59,32,32,124,32,32,40,32,32,41,32,32]) (aol .i64 3 (eU .i64 d 1)) (aol .i64 3 d)) (bH (ag8 bM (sub [38,38,32,124,124,32,59,59,32,60,60,32,60,60,45,62,62,32,60,38,32,62,38,32,60,62,32,62,124,32,60,32,32,62,32,32,38,32,32,59,32,32,124,32,32,40,32,32,41,32,32] (aol .i64 3 (eU .i64 d 1)) (aol .i64 3 d))) fun e=>dN e (fun f=>a6 (f.1.1,())) (fun g=>a6 (g.1.1,()))) a7
def amr:Sum:=⟨[dA],tzI,fun x=>YN x.1⟩
noncomputable def arW:Env:=iJ prog tt 84 [] [(4,aBX)] [(4,auK)]
def avU {d:Type} (a:akX.den->Option d) (b:ahx.den->Option d) (c:ahT.den->Option d) (v:akX.den):Option d:=aib (aE a) (aE b) (aE c) v.1.1
theorem aFD:dQ arW 84 aBu auK:=uV (avU) (h2:=by intros;simp only[avU,aE,aib,cO,cZ,bG,bW,dh])
theorem aIm:dM arW 84 b84:=nV [aBu] (aD (fM (aFD)) aN)
theorem arX:eu arW:=eA f84 aN (aIm)
theorem UZ:dU prog 84 amr:=sA arX
noncomputable def aG4:Code:=(f115.body).getD .skip
noncomputable def aqh:Code:=cA (cA (cB (cA (cB (cB (aG4))))))
def Zt:SP:=⟨us [bR,bO,.u,.u,.u,bO,bO] 35,[]⟩
def aag:SP:=⟨us [.u,.u,.u,.u,.u,bO] 36,[]⟩
def aaT:SP:=⟨us cP 37,[]⟩
def Qu {j:Type} (i:bZ->Int->Int->Int->Option j) (l p:Int->Option j) (e:bZ) (d g f:Int):Option j:=cond (leI f 17) (bH (YN f) fun h=>cond (leI (bI h.1) (eU .i64 (bI e) d)) (cond (fE (bI e) d (di .i64 d (bI h.1))) (cond (gG (sub e d (di .i64 d (bI h.1))) h.1) (bH (YN g) fun o=>cond (gV (bI o.1) (bI h.1)) (i e d f (di .i64 f 1))<|i e d g (di .i64 f 1))<|i e d g (di .i64 f 1)) a7)<|i e d g (di .i64 f 1))<|l g
def Fp:Nat->bZ->Int->Int->Int->Option (aag.den⊕aaT.den)
 |0,_,_,_,_=>a7
 |n+1,d,e,f,g=>Qu (Fp n) (fun h=>a6 (.inl ((h,()),()))) (fun i=>a6 (.inr ((i,()),()))) d e f g
def azg (n:Nat) (v:Zt.den):=aR (Fp n) v
noncomputable def ajU:dE:=fJ Y0 Zt aag aaT (.exit 0) (azg bM) 6
def adb (d:bZ) (e:Int):Option CQ:=bH (Fp bM d e 0 1) fun f=>dN f (fun g=>a6 (g.1.1,())) (fun h=>a6 (h.1.1,()))
def awn:Sum:=⟨[.str,dA],Ve,fun x=>adb x.1 x.2.1⟩
noncomputable def afZ:Env:=iJ prog tt 115 [(84,amr)] [(3,Y0)] [(3,ajU)]
def alh {d:Type} (a:Zt.den->Option d) (b:aag.den->Option d) (c:aaT.den->Option d) (v:Zt.den):Option d:=aR (Qu (aM a) (aE b) (aE c)) v
theorem az5:dQ afZ 115 aqh ajU:=uV (alh) (h2:=by intros;simp only[alh,aM,aE,aR,Qu,cO,cZ,bG,bW,dh])
theorem aEe:dM afZ 115 aG4:=nV [aqh] (aD (fM (az5)) aN)
theorem amQ:eu afZ:=eA f115 (aD UZ aN) (aEe)
theorem aoM:dU prog 115 awn:=sA amQ
def SA (e:bZ):Option pq:=bH (ai0 e) fun d=>cond (gG d.1.1 [84]) (a6 (true,()))<|some ((gG d.1.1 [84,76]),())
def awq:Sum:=⟨[.str],NZ,fun x=>SA x.1⟩
theorem aoP:dU prog 118 awq:=qA f118 [] (sE ao0 aN)
end
section
open Option renaming some → a6, none → a7
open Bool renaming and_eq_true → af
open Nat renaming le_refl → ae, eq_of_beq_eq_true → aj, le_trans → aB, mul_le_mul_right → bC, le_mul_of_pos_right → bF
open Tryz
open Go.RowKit Go.Shelf Go.Lib
def TB:Go.Shelf.Ren:=⟨fun|155=>95|154=>126|138=>157|165=>158|143=>159|166=>90|197=>160|169=>94|195=>190|218=>191|240=>123|241=>192|219=>193|260=>194|276=>156|277=>235|217=>172|225=>236|224=>237|267=>238|266=>216|314=>264|n=>n,fun|9=>9|3=>3|4=>4|72=>128|0=>0|76=>131|105=>175|21=>21|5=>5|70=>126|20=>20|37=>74|75=>130|127=>150|164=>173|46=>96|119=>233|139=>236|138=>235|146=>246|51=>120|80=>134|n=>n,fun|1=>0|3=>1|4=>2|n=>n⟩
theorem TA:Go.Proofs.Lays.n155 prog TB:={
 mixed:=by kernel_rfl
 f138:=func157.trans (congrArg a6 (by kernel_rfl))
 f143:=func159.trans (congrArg a6 (by kernel_rfl))
 f154:=func126.trans (congrArg a6 (by kernel_rfl))
 f155:=func95.trans (congrArg a6 (by kernel_rfl))
 f165:=func158.trans (congrArg a6 (by kernel_rfl))
 f166:=func90.trans (congrArg a6 (by kernel_rfl))
 f169:=func94.trans (congrArg a6 (by kernel_rfl))
 f195:=func190.trans (congrArg a6 (by kernel_rfl))
 f197:=func160.trans (congrArg a6 (by kernel_rfl))
 f217:=func172.trans (congrArg a6 (by kernel_rfl))
 f218:=func191.trans (congrArg a6 (by kernel_rfl))
 f219:=func193.trans (congrArg a6 (by kernel_rfl))
 f224:=func237.trans (congrArg a6 (by kernel_rfl))
 f225:=func236.trans (congrArg a6 (by kernel_rfl))
 f240:=func123.trans (congrArg a6 (by kernel_rfl))
 f241:=func192.trans (congrArg a6 (by kernel_rfl))
 f260:=func194.trans (congrArg a6 (by kernel_rfl))
 f266:=func216.trans (congrArg a6 (by kernel_rfl))
 f267:=func238.trans (congrArg a6 (by kernel_rfl))
 f276:=func156.trans (congrArg a6 (by kernel_rfl))
 f277:=func235.trans (congrArg a6 (by kernel_rfl))
 f314:=func264.trans (congrArg a6 (by kernel_rfl))
 t0:=underlying0
 a0:=isAgg0
 z0:=sizeOf0
 v0:=zeroValue0
 t3:=underlying3
 a3:=isAgg3
 z3:=sizeOf3
 v3:=zeroValue3
 t4:=underlying4
 a4:=isAgg4
 z4:=sizeOf4
 v4:=zeroValue4
 t5:=underlying5
 a5:=isAgg5
 z5:=sizeOf5
 v5:=zeroValue5
 t9:=underlying9
 a9:=isAgg9
 z9:=sizeOf9
 v9:=zeroValue9
 t20:=underlying20
 a20:=isAgg20
 z20:=sizeOf20
 v20:=zeroValue20
 t21:=underlying21
 a21:=isAgg21
 z21:=sizeOf21
 v21:=zeroValue21
 t37:=underlying74
 a37:=isAgg74
 z37:=sizeOf74
 v37:=zeroValue74
 t46:=underlying96
 a46:=isAgg96
 z46:=sizeOf96
 v46:=zeroValue96
 t51:=underlying120
 a51:=isAgg120
 z51:=sizeOf120
 v51:=zeroValue120
 t70:=underlying126
 a70:=isAgg126
 z70:=sizeOf126
 v70:=zeroValue126
 t72:=underlying128
 a72:=isAgg128
 z72:=sizeOf128
 v72:=zeroValue128
 t75:=underlying130
 a75:=isAgg130
 z75:=sizeOf130
 v75:=zeroValue130
 t76:=underlying131
 a76:=isAgg131
 z76:=sizeOf131
 v76:=zeroValue131
 t105:=underlying175
 a105:=isAgg175
 z105:=sizeOf175
 v105:=zeroValue175
 t119:=underlying233
 a119:=isAgg233
 z119:=sizeOf233
 t127:=underlying150
 a127:=isAgg150
 z127:=sizeOf150
 v127:=zeroValue150
 t138:=underlying235
 a138:=isAgg235
 z138:=sizeOf235
 v138:=zeroValue235
 t139:=underlying236
 a139:=isAgg236
 z139:=sizeOf236
 v139:=zeroValue236
 t146:=underlying246
 a146:=isAgg246
 z146:=sizeOf246
 v146:=zeroValue246
 t164:=underlying173
 a164:=isAgg173
 z164:=sizeOf173
 v164:=zeroValue173
 g1:=by kernel_rfl
 g3:=by kernel_rfl
 g4:=by kernel_rfl}
theorem aym:Builder.Extra prog TB where
 sizeBuilder:=by kernel_rfl
 liesBuilder:=by kernel_rfl
 t5:=TA.t5
 a5:=TA.a5
 z5:=TA.z5
 v5:=TA.v5
 infoByte:=by kernel_rfl
 cellsByte:=by kernel_rfl
 sizeByte:=by kernel_rfl
 neB5:=by decide
def avs (s d new:List UInt8):Option (List UInt8×Unit):=cond (decide (s.length<4294967281)&&decide (1<=d.length)&&decide (s.length+s.length*new.length<=140737488355328)) (a6 (Lib.replaceAll s d new,())) a7
def axB:Sum:=⟨[.str,.str,.str],[(.str,false)],fun x=>avs x.1 x.2.1 x.2.2.1⟩
theorem axC:dU prog 95 axB:=by
 intro w i j x y h o p f;obtain⟨u,Y,q,s,v,Z,z,A,B,D,E,G,I⟩:=p;obtain rfl:D=[]:=I;subst E z;have J:j= #[u,v,B]:=by
  apply Array.ext';simpa using q
 subst J;have K:=s.str_inv;have M:=A.str_inv;have N:=G.str_inv;subst K M N;have f:avs x.1 x.2.1 x.2.2.1=a6 y:=f;unfold avs at f;obtain⟨g,f⟩:=dG f;simp only[af,decide_eq_true_eq]at g;cases f;obtain⟨m,O⟩:=h.2;have d: ∀l:List UInt8,(⟨l.toArray⟩:ByteArray).size=l.length:=fun l=>by simp[ByteArray.size]
 have S:Lib.countB ⟨x.1.toArray⟩ ⟨x.2.1.toArray⟩<=x.1.length:=by
  have:=Lib.countB_mul_le (⟨x.2.1.toArray⟩:ByteArray) (by rw[d];exact g.1.2) (⟨x.1.toArray⟩:ByteArray).size ⟨x.1.toArray⟩ (ae _);rw[d,d]at this;exact aB (bF _ (by omega)) this
 have U:=Any.strings_ReplaceAll TA aym ⟨x.1.toArray⟩ ⟨x.2.1.toArray⟩ ⟨x.2.2.1.toArray⟩ m w (by rw[d];exact g.1.1) O (by rw[d];exact g.1.2)
  (by rw[d,d];have:=bC x.2.2.1.length S;omega)
 refine .inl ⟨Be OV func95 (show f95.body=a6 ((f95.body).getD .skip) by kernel_rfl) _ _,U.mono fun e V ⟨W,X⟩=> ?_⟩;refine⟨(kQ w i).at_ V,[.string ⟨(Lib.replaceAll x.1 x.2.1 x.2.2.1).toArray⟩],W,rfl,(Rq h o).ext X,rfl,rfl,rfl, ?_⟩;simp only[axB,oZ,bJ,bU,and_true];exact VD.str_mk
noncomputable def sg2 (g:FuncId):Option Sum:=cond (Nat.beq g 95) (a6 axB)<|sg1 g
theorem aJ3: ∀g s,sg2 g=a6 s->dU prog g s:=fun g s h=>by
 unfold sg2 at h;rw[cond_eq_ite]at h;split at h
 .rename_i d
  obtain rfl:g=95:=aj d;cases h;exact axC
 exact ah8 g s h
end
section
open Go.RowKit
theorem dn {a b:Int} (d: -9223372036854775808<=a+b:=by omega) (h2:a+b<=9223372036854775807:=by omega):di .i64 a b=a+b:=by
 unfold di;rw[IntKind.wrap_i64];omega
theorem iw {a b:Int} (d: -9223372036854775808<=a-b:=by omega) (h2:a-b<=9223372036854775807:=by omega):eU .i64 a b=a-b:=by
 unfold eU;rw[IntKind.wrap_i64];omega
theorem aza {a b:Int}:leI a b=true↔a<=b:=by simp[leI]
theorem azS {a b:Int}:gV a b=true↔a<b:=by simp[gV]
theorem ayh {a b:Int}:bP a b=true↔a=b:=by simp[bP]
theorem ayN {d:Type} {l:List d} {i:Int}:fD l i=true↔0<=i/\i<l.length:=by simp[fD]
theorem azT {d:Type} {l:List d} {i:Nat}:lZ i l=true↔i<l.length:=by simp[lZ,PG]
theorem aov {n lo hi:Int}:fE n lo hi=true↔0<=lo/\lo<=hi/\hi<=n:=by simp[fE]
theorem bV {d:Type} {b:Bool} {x y:d} (h:b=true):(bif b then x else y)=x:=by rw[h];rfl
theorem dI {d:Type} {b:Bool} {x y:d} (h:b=false):(bif b then x else y)=y:=by rw[h];rfl
theorem lQ {a b:Int} (h:a<=b:=by omega):leI a b=true:=aza.2 h
theorem JO {a b:Int} (h:b<a:=by omega):leI a b=false:=by simp[leI];omega
theorem eH {a b:Int} (h:a<b:=by omega):gV a b=true:=azS.2 h
theorem iG {a b:Int} (h:b<=a:=by omega):gV a b=false:=by simp[gV];omega
theorem zX {a b:Int} (h: ¬a<=b:=by omega):leI a b=false:=JO
theorem ig {a b:Int} (h: ¬a<b:=by omega):gV a b=false:=iG
theorem fK {a b:Int} (h:a=b:=by omega):bP a b=true:=ayh.2 h
theorem dX {a b:Int} (h:a≠b:=by omega):bP a b=false:=by simp[bP];exact h
theorem dV {d:Type} {l:List d} {i:Int} (h:0<=i:=by omega) (h2:i<l.length:=by omega):fD l i=true:=ayN.2 ⟨h,h2⟩
theorem l9 {d:Type} {l:List d} {i:Nat} (h:i<l.length):lZ i l=true:=azT.2 h
theorem fO {n lo hi:Int} (h:0<=lo) (d:lo<=hi) (h2:hi<=n):fE n lo hi=true:=aov.2 ⟨h,d,h2⟩
theorem bK {d:Type} {l:List d}:bI l=(l.length:Int):=rfl
theorem dK {n:Nat} (h:n<1000000000000000000000000:=by omega):n<bM:=by unfold bM;omega
theorem L9 {e:Type} {l:List e} {d x:e} {i:Int} (h:i=l.length):dw (l++[x]) d i=x:=by
 unfold dw;subst h;simp[List.getD]
end
section
open Option renaming some → a6, none → a7
open List renaming length_append → ai, length_singleton → bu
open Go.RowKit
abbrev fQ:=List qm
def lo (s:fQ):List oD:=(s.map fun f=>(f.1,f.2,())).reverse
def letter (m:Int):UInt8:=([84,67,80,79,83,68,66,86,73,65,82,69,76,88,35]:bZ).getD m.toNat 0
def so (s:fQ):bZ:=(s.map fun f=>letter f.1).reverse
def po (s:fQ):List Int:=(s.map (·.2)).reverse
theorem sV (f:qm) (s:fQ):lo (f::s)=lo s++[(f.1,f.2,())]:=by simp[lo]
theorem oW (f:qm) (s:fQ):so (f::s)=so s++[letter f.1]:=by simp[so]
theorem tu (f:qm) (s:fQ):po (f::s)=po s++[f.2]:=by simp[po]
theorem pg (s:fQ):(lo s).length=s.length:=by simp[lo]
theorem CE (s:fQ):(so s).length=s.length:=by simp[so]
theorem Uw (s:fQ):(po s).length=s.length:=by simp[po]
def CU (b:Int):Bool:=decide (b=32)||decide (b=9)||decide (b=10)||decide (b=124)||decide (b=38)||decide (b=59)||decide (b=60)||decide (b=62)||decide (b=40)||decide (b=41)
def isByte (b:Int):Prop:=0<=b/\b<256
theorem Rw {b:Int} (h:isByte b): ∃n:Fin 256,b=((n.val:Nat):Int):=⟨⟨b.toNat,by have:=h.2;have:=h.1;omega⟩,by have:=h.1;simp;omega⟩
theorem lN (s:bZ) (i:Int):isByte (bY s i):=by
 grind [bY,isByte,UInt8.toNat_lt]
theorem aHs: ∀n:Fin 256,GN ((n.val:Nat):Int)=a6 (CU ((n.val:Nat):Int),()):=by decide+kernel
theorem aHt: ∀n:Fin 256,ado ((n.val:Nat):Int)=a6 (CU ((n.val:Nat):Int),()):=by decide+kernel
theorem aq4 {b:Int} (h:isByte b):GN b=a6 (CU b,()):=by
 obtain⟨n,rfl⟩:=Rw h;exact aHs n
theorem aq5 {b:Int} (h:isByte b):ado b=a6 (CU b,()):=by
 obtain⟨n,rfl⟩:=Rw h;exact aHt n
theorem WT {d:Type} {l:List d} (x:d) (h:l.length<1000000):dC (eU .i64 (bI (l++[x])) 1)=l.length:=by
 grind [bK,iw,dC]
theorem Xr {d:Type} {l:List d} (x:d) (h:l.length<1000000):sub (l++[x]) 0 (eU .i64 (bI (l++[x])) 1)=l:=by
 have hl:(((l++[x]).length:Nat):Int)=l.length+1:=by simp
 rw[bK,hl,iw];simp_all [sub]
theorem wG {d:Type} {l:List d} (x:d) (h:l.length<1000000):eU .i64 (bI (l++[x])) 1=l.length:=by
 grind [bK,iw]
theorem ak1 {s:fQ} (hb:s.length<1000000) (fr:Bool) (at_ m:Int):wY (lo s) fr at_ m=a6 ((lo ((m,at_)::s),(fr,(at_,()))),()):=by
 have h:dY (bT (lo s) [(m,(at_,()))]) 16=true:=by
  simp only[dY,bT,ai,pg,bu,decide_eq_true_eq,kH];omega
 unfold wY;rw[h];simp[bP,bT,sV]
theorem Qi {f g:Int×Int} {r:fQ} (hb:(f::g::r).length<1000000) (fr:Bool) (at_:Int):wV (lo (f::g::r)) fr at_=a6 ((lo (g::r),(fr,(at_,()))),()):=by
 have hl:(lo (g::r)).length=r.length+1:=by rw[pg];rfl
 have d:r.length+2<1000000:=by simpa using hb
 unfold wV;rw[sV f,wG _ (by omega),bV (eH (by grind [bK])),bV (fO (by omega) (by omega) (by rw[bK];simp;omega))];simp[takeN,dC]
theorem rZ {f:Int×Int} {r:fQ} (hb:(f::r).length<1000000) (fr:Bool) (at_ m:Int):uU (lo (f::r)) fr at_ m=a6 ((lo ((m,f.2)::r),(fr,(at_,()))),()):=by
 have hl:(lo r).length=r.length:=pg r;have d:r.length+1<1000000:=by simpa using hb
 unfold uU;rw[sV f,wG _ (by omega),bV (dV (by omega) (by simp;omega)),bV (l9 (by simp[dC]))];simp[dC,dJ,gX,sV]
theorem aeS {f g:Int×Int} {r:fQ} (hb:(f::g::r).length<1000000) (fr:Bool) (at_:Int):ajj (lo (f::g::r)) fr at_=a6 ((lo (f::g::r),(fr,(at_,()))),(g.1,())):=by
 have hl:(lo r).length=r.length:=pg r;have d:r.length+2<1000000:=by simpa using hb
 have e:BM (eU .i64 (bI (lo (f::g::r))) 2) 0=r.length:=by
  grind [bK,iw,pg,BM]
 unfold ajj;rw[e,sV f,sV g,bV (dV (by omega) (by simp[hl];omega)),bV (l9 (by simp[dC,hl]))];simp_all [dC,dJ]
theorem F6 {f:Int×Int} {r:fQ} (hb:(f::r).length<1000000) (fr:Bool) (c:UInt8):DD (so (f::r),(po (f::r),(fr,()))) [c]=a6 ((so r++[c],(po (f::r),(fr,()))),()):=by
 have hl:(so r).length=r.length:=CE r;have d:r.length+1<1000000:=by simpa using hb
 unfold DD;simp only;rw[oW,Xr _ (by omega),wG _ (by omega),bV (fO (by omega) (by omega) (by rw[bK];simp;omega)),bV (by simp[iH,kH,hl];omega)];rfl
theorem abD {f:Int×Int} {r:fQ} (hb:(f::r).length<1000000) (fr:Bool):JG (so (f::r),(po (f::r),(fr,())))=a6 ((so r,(po r,(fr,()))),()):=by
 have hl:(so r).length=r.length:=CE r;have d:(po r).length=r.length:=Uw r;have e:r.length+1<1000000:=by simpa using hb
 unfold JG;simp only;rw[oW,tu,Xr _ (by omega),wG _ (by omega),bV (fO (by omega) (by omega) (by rw[bK];simp;omega)),bV (fO (by omega) (by omega) (by rw[bK];simp;omega))];simp[sub,hl,d]
theorem Dx {d:Type} {f:d->d->Bool} (h: ∀x,f x x=true): ∀l:List d,wQ f l l=true
 |[]=>rfl
 |x::l=>by simp[wQ,h,Dx h l]
theorem Si: ∀(t:Ty) (x:t.den),Yu t x x=true
 |.unit,_=>rfl
 |.bool,x=>by simp[Yu]
 |.int _,x=>by simp[Yu,bP]
 |.str,x=>by simp[Yu,gG]
 |.list t,x=>Dx (Si t) x
 |.pair a b,x=>by simp[Yu,Si]
theorem gQ (t:Ty) (x:List t.den):mr t x x=true:=Dx (Si t) x
theorem eP (x:Int):bP x x=true:=by simp[bP]
theorem mW (x:bZ):gG x x=true:=by simp[gG]
theorem iC (x:Bool):jv x x=true:=by simp[jv]
theorem aAR {s:fQ} (hb:s.length<1000000) (fr:Bool) (c:UInt8) (at_:Int):wW (so s,(po s,(fr,()))) [c] at_=a6 ((so s++[c],(po s++[at_],(fr,()))),()):=by
 have hl:(so s).length=s.length:=CE s;have d:(po s).length=s.length:=Uw s;have e:iH (so s) [c]=true:=by simp[iH,kH,hl];omega
 have f:dY (bT [] (po s)) 8=true:=by simp[dY,bT,kH,d];omega
 have g:dY (bT (bT [] (po s)) [at_]) 8=true:=by simp[dY,bT,kH,d];omega
 (unfold wW;delta mF kL)
 simp_all [eP,mW,iC,gQ,bG,bT]
theorem Ql (a:bZ) (b:List Int) (fr d:Bool):xU (a,(b,(fr,()))) d=a6 ((a,(b,(d,()))),()):=rfl
end
section
open Go.RowKit
def Il (s:fQ) (b at_:Int):Option fQ:=if b=92 then some ((13,at_)::s)else if b=36 then some ((12,at_)::s)else if b=96 then some ((6,at_)::s)else none
def KH (m:Int) (s:fQ) (fr:Bool) (b at_:Int):fQ×Bool:=if b=92 then((13,at_)::s,fr)else if b=35/\fr=true then((14,at_)::s,fr)else if b=40 then(if m=0 then s else(2,at_)::s,true)else if b=41 then(if m=0 then s else s.tail, !decide (m=1))else if b=39 then((4,at_)::s,false)else if b=34 then((5,at_)::s,false)else if b=36 then((12,at_)::s,false)else if b=96 then((6,at_)::s,false)else(s,CU b)
def jm (m:Int) (s:fQ) (fr:Bool) (b at_:Int):fQ×Bool:=
 if m=0\/m=1\/m=2 then KH m s fr b at_
 else if m=13 then(s.tail,fr&&decide (b=10))
 else if m=4 then(if b=39 then s.tail else s,fr)
 else if m=14 then(if b=10 then(s.tail,true)else(s,fr))
 else if m=6 then(if b=96 then s.tail else if b=92 then(13,at_)::s else s,fr)
 else match Il s b at_ with
  |some d=>(d,fr)
  |none=>
   if m=9\/m=10 then(if b=40 then(10,at_)::s else if b=41 then(if m=10 then s.tail else(11,(s.headD (0,0)).2)::s.tail)else s,fr)
   else(if b=34 then(if m=5 then s.tail else(5,at_)::s)else if b=125/\m≠5 then s.tail else if b=39/\m=7 then(4,at_)::s else s,fr)
def gm (s:fQ) (fr:Bool) (b at_:Int):fQ×Bool:=
 match s with
 |[]=>([],fr)
 |f::r=>
  if f.1=12 then
   (if b=40 then((3,f.2)::r,true)
   else if b=123 then((if(r.headD (0,0)).1=5\/(r.headD (0,0)).1=8 then 8 else 7,f.2)::r,fr)
   else if b=36 then(r,fr)
   else jm (r.headD (0,0)).1 r fr b at_)
  else if f.1=3 then(if b=40 then((9,f.2)::r,false)else jm 1 ((1,f.2)::r) fr b at_)
  else if f.1=11 then(if b=41 then(r,fr)else jm 9 ((9,f.2)::r) fr b at_)
  else jm f.1 (f::r) fr b at_
theorem nZ (b:Int):b=10\/b=34\/b=35\/b=36\/b=39\/b=40\/b=41\/b=92\/b=96\/b=123\/b=125\/
  (b≠10/\b≠34/\b≠35/\b≠36/\b≠39/\b≠40/\b≠41/\b≠92/\b≠96/\b≠123/\b≠125):=by omega
theorem ik (a b:Int):bP a b=decide (a=b):=by
 rfl
def pst (x:fQ×Bool) (at_:Int):(List oD×Bool×Int×Unit):=(lo x.1,(x.2,(at_,())))
def Ha (x:fQ×Bool):bZ×(List Int×pq):=(so x.1,(po x.1,(x.2,())))
theorem ah0 {m:Int} {f:Int×Int} {r:fQ} (d:m=0\/((m=1\/m=2)/\ ∃g h,r=g::h)) (hb:(f::r).length<1000000) (fr:Bool) {b:Int} (i:isByte b) (at_:Int):
  Wx (lo (f::r)) fr at_ m b=some (pst (KH m (f::r) fr b at_) at_,()):=by
 have e:=aq4 i;rcases d with rfl|⟨rfl|rfl,g,r,rfl⟩<;>rcases nZ b with rfl|rfl|rfl|rfl|rfl|rfl|rfl|rfl|rfl|rfl|rfl|⟨j,l,o,p,q,s,u,v,x,y,z⟩<;>cases fr<;>
  simp_all [Wx,SH,KH,pst,ik,ak1,Qi,CU,bG,JH]
theorem aAL {m:Int} {f:Int×Int} {r:fQ} (d:m=0\/((m=1\/m=2\/m=4\/m=5\/m=6\/m=7\/m=8\/m=9\/m=10\/m=13\/m=14)/\ ∃g h,r=g::h)) (hb:(f::r).length<1000000) (fr:Bool) {b:Int} (e:isByte b) (at_:Int):
  Ol (lo (f::r)) fr at_ m b=some (pst (jm m (f::r) fr b at_) at_,()):=by
 rcases d with rfl|⟨rfl|rfl|d,g,r,rfl⟩
 .simp[Ol,jm,ik,ah0 (.inl rfl) hb fr e at_,pst,bG,Bo]
 .simp[Ol,jm,ik,ah0 (.inr ⟨.inl rfl,g,r,rfl⟩) hb fr e at_,pst,bG,Bo]
 .simp[Ol,jm,ik,ah0 (.inr ⟨.inr rfl,g,r,rfl⟩) hb fr e at_,pst,bG,Bo]
 .rcases d with rfl|rfl|rfl|rfl|rfl|rfl|rfl|rfl|rfl<;>rcases nZ b with rfl|rfl|rfl|rfl|rfl|rfl|rfl|rfl|rfl|rfl|rfl|⟨i,j,l,o,p,q,s,u,v,x,y⟩<;>cases fr<;>
  simp_all [Ol,ajk,ajl,SH,jm,Il,pst,ik,ak1,Qi,rZ,bG,Bo,YF,YG]
def TF (m:Int):Prop:=m=0\/m=1\/m=2\/m=5\/m=6\/m=7\/m=8\/m=9\/m=10
def iF:fQ->Prop
 |[]=>False
 |[f]=>f.1=0
 |f::g::r=>1<=f.1/\f.1<=14/\TF g.1/\iF (g::r)
theorem aHH: ∃k,bM=k+2:=by
 simp_all [bM]
theorem aeB {l:List oD} {x:Int×Int×Unit} (h:l.length<1000000):dJ (l++[x]) (0,(0,())) (dC (eU .i64 (bI (l++[x])) 1))=x:=by
 rw[WT x h];simp[dJ]
theorem YQ {d:Type} {l:List d} {x:d} (h:l.length<1000000):fD (l++[x]) (eU .i64 (bI (l++[x])) 1)=true:=by
 grind [wG,dV]
theorem aky {d:Type} {l:List d} {x:d} (h:l.length<1000000):lZ (dC (eU .i64 (bI (l++[x])) 1)) (l++[x])=true:=by
 simp_all [WT,l9]
theorem yC {f:Int×Int} {r:fQ} (n:Nat) (d:f.1=0\/((f.1=1\/f.1=2\/f.1=4\/f.1=5\/f.1=6\/f.1=7\/f.1=8\/f.1=9\/f.1=10\/f.1=13\/f.1=14)/\ ∃g e,r=g::e)) (hb:(f::r).length<1000000) (fr:Bool) {b:Int} (h:isByte b) (at_:Int):
  wo (n+1) b fr at_ (lo (f::r))=some (.inl ((),((),()),(((jm f.1 (f::r) fr b at_).2,at_,()),lo (jm f.1 (f::r) fr b at_).1,()))):=by
 have hl:(lo r).length<1000000:=by grind [pg]
 have i:f.1≠12:=by omega
 have j:f.1≠3:=by omega
 have l:f.1≠11:=by omega
 have o:=aAL d hb fr h at_;rw[wo,Aw];rw[show lo (f::r)=lo r++[(f.1,f.2,())] from sV f r,YQ hl,aky hl,aeB hl];simp only[aa,ik,i,j,l,decide_false,ac];rw[<-sV,o,bG];rfl
theorem aoe {f:Int×Int} {r:fQ} (d:iF (f::r)) (hl:TF f.1):f.1=0\/((f.1=1\/f.1=2\/f.1=4\/f.1=5\/f.1=6\/f.1=7\/f.1=8\/f.1=9\/f.1=10\/f.1=13\/f.1=14)/\ ∃g e,r=g::e):=by
 cases r with
 |nil=>exact .inl d
 |cons g r=>
  unfold TF at hl
  grind
theorem agy {s:fQ} (d:iF s) (hb:s.length<1000000) (fr:Bool) {b:Int} (j:isByte b) {at_:Int} (h0:0<=at_) (l:at_<1000000000):Ws (lo s) fr at_ b=some (pst (gm s fr b at_) (at_+1),()):=by
 obtain⟨k,hk⟩:=aHH;cases s with
 |nil=>cases d
 |cons f r=>
 have hl:(lo r).length<1000000:=by grind [pg]
 have o:bP (bI (lo (f::r))) 0=false:=dX (by rw[bK,pg];simp;omega);have h:di .i64 at_ 1=at_+1:=dn;unfold Ws;rw[o,ac,hk];by_cases hp:f.1=12\/f.1=3\/f.1=11
 .cases r with
  |nil=>have:f.1=0:=d;omega
  |cons g r=>
  have q:=aoe d.2.2.2 d.2.2.1;have u:(g::r).length<1000000:=by grind
  rw[show k+2=(k+1)+1 from rfl,wo,Aw,show lo (f::g::r)=lo (g::r)++[(f.1,f.2,())] from sV f _,YQ hl,aky hl,aeB hl,<-sV];rcases hp with e|e|e
  .have hd:Oj (lo (f::g::r)) fr at_ b=some ((if b=40 then(lo ((3,f.2)::g::r),(true,(at_,())))else if b=123 then(lo ((if g.1=5\/g.1=8 then 8 else 7,f.2)::g::r),(fr,(at_,())))else(lo (g::r),(fr,(at_,())))),(decide (b=40\/b=123\/b=36),())):=by
    by_cases e1:b=40
    .subst e1;simp[Oj,ik,rZ hb,bG]
    .by_cases e2:b=123
     .subst e2;by_cases e5:g.1=5
      .simp[Oj,ik,rZ hb,aeS hb,bG,e5]
      .by_cases e8:g.1=8<;>simp[Oj,ik,rZ hb,aeS hb,bG,e5,e8]
     .by_cases e3:b=36<;>simp[Oj,ik,Qi hb,bG,e1,e2,e3]
   simp only[aa,ik,e,decide_true];rw[hd,bG];by_cases e1:b=40\/b=123\/b=36
   .simp only[e1,decide_true,aa,bG,dN,h];rcases e1 with rfl|rfl|rfl<;>simp[gm,e,pst,h]
   .have i:b≠40/\b≠123/\b≠36:=by omega
    simp only[i.1,i.2.1,i.2.2,or_self,decide_false,ac,if_false];simp_all [yC,bG,dN,gm,pst]
  .simp only[aa,ik,e,decide_true,show decide ((3:Int)=12)=false from rfl,ac];by_cases e1:b=40
   .simp_all [rZ,bG,dN,gm,pst]
   .simp only[e1,decide_false,ac,rZ hb,bG];rw[yC k (f:=(1,f.2)) (.inr ⟨.inl rfl,g,r,rfl⟩) (by simpa using hb) fr j at_,bG];simp[dN,gm,e,e1,pst,h]
  .simp only[aa,ik,e,decide_true,show decide ((11:Int)=12)=false from rfl,show decide ((11:Int)=3)=false from rfl,ac];by_cases e1:b=41
   .simp_all [Qi,bG,dN,gm,pst]
   .simp only[e1,decide_false,ac,rZ hb,bG];rw[yC k (f:=(9,f.2)) (.inr ⟨by simp,g,r,rfl⟩) (by simpa using hb) fr j at_,bG];simp[dN,gm,e,e1,pst,h]
 .have v:f.1=0\/((f.1=1\/f.1=2\/f.1=4\/f.1=5\/f.1=6\/f.1=7\/f.1=8\/f.1=9\/f.1=10\/f.1=13\/f.1=14)/\ ∃g p,r=g::p):=by
   cases r with
   |nil=>exact .inl d
   |cons g r=>have l:=d.1;have x:=d.2.1;grind
  simp_all [yC,bG,dN,gm,pst]
end
section
open Go.RowKit
theorem al2 (f:qm) (r:fQ) (h:r.length<1000000):bY (so (f::r)) (eU .i64 (bI (so (f::r))) 1)=((letter f.1).toNat:Int):=by
 rw[oW,wG _ (by rw[CE];exact h)];simp[bY,List.getD]
theorem aCd (f:qm) (r:fQ) (h:r.length<1000000):fD (so (f::r)) (eU .i64 (bI (so (f::r))) 1)=true:=by
 rw[oW];exact YQ (by rw[CE];exact h)
theorem awe (f g:qm) (r:fQ) (h:r.length<900000):fD (so (f::g::r)) (eU .i64 (bI (so (f::g::r))) 2)=true/\bY (so (f::g::r)) (eU .i64 (bI (so (f::g::r))) 2)=((letter g.1).toNat:Int):=by
 have hl:(((so (f::g::r)).length:Nat):Int)=r.length+2:=by rw[CE];simp;omega
 rw[bK,hl,iw,show((r.length:Int)+2-2)=r.length by omega];refine⟨dV (by omega) (by rw[hl];omega), ?_⟩;rw[oW,oW];simp[bY,List.getD,CE]
theorem lets:letter 0=84/\letter 1=67/\letter 2=80/\letter 3=79/\letter 4=83/\letter 5=68/\letter 6=66/\letter 7=86/\letter 8=73/\letter 9=65/\letter 10=82/\letter 11=69/\letter 12=76/\letter 13=88/\letter 14=35:=by decide
theorem Am {s:fQ} (hb:s.length<1000000) (fr:Bool) (m:Int) (c:UInt8) (d:c=letter m) (at_:Int):wW (so s,(po s,(fr,()))) [c] at_=some ((so ((m,at_)::s),(po ((m,at_)::s),(fr,()))),()):=by
 subst d;rw[aAR hb,oW,tu]
theorem ah1 {m:Int} {f:Int×Int} {r:fQ} (d:m=0\/m=1\/m=2) (hb:(f::r).length<1000000) (fr:Bool) {b:Int} (g:isByte b) (at_:Int):
  ajg (so (f::r),(po (f::r),(fr,()))) ((letter m).toNat:Int) b at_=some (Ha (KH m (f::r) fr b at_),()):=by
 have e:=aq5 g;have h:=Am hb fr 13 88 rfl at_;have i:=Am hb fr 4 83 rfl at_;have j:=Am hb fr 5 68 rfl at_;have l:=Am hb fr 12 76 rfl at_;have o:=Am hb fr 6 66 rfl at_;have p:=Am hb fr 14 35 rfl at_;have q:=Am hb fr 2 80 rfl at_;have s:=abD hb fr;have u:=lets;rcases d with rfl|rfl|rfl<;>rcases nZ b with rfl|rfl|rfl|rfl|rfl|rfl|rfl|rfl|rfl|rfl|rfl|⟨v,x,y,z,A,B,D,E,G,I,J⟩<;>cases fr<;>
  simp_all [ajg,Wv,KH,Ha,ik,Ql,CU,bG,mW,gQ,iC,YD,YE]
theorem Qj {m:Int} {f:Int×Int} {r:fQ} (hf:f.1=m) (e:m=0\/m=1\/m=2\/m=4\/m=5\/m=6\/m=7\/m=8\/m=9\/m=10\/m=13\/m=14) (hb:(f::r).length<1000000) (fr:Bool) {b:Int} (g:isByte b) (at_:Int):
  GM (so (f::r),(po (f::r),(fr,()))) ((letter m).toNat:Int) b at_=some (Ha (jm m (f::r) fr b at_),()):=by
 have h:=lets;have i:=Am hb fr 13 88 rfl at_;have j:=Am hb fr 12 76 rfl at_;have l:=Am hb fr 6 66 rfl at_;have o:=Am hb fr 10 82 rfl at_;have p:=Am hb fr 5 68 rfl at_;have q:=Am hb fr 4 83 rfl at_;have s:=abD hb fr;have tt:=F6 hb fr 69;have u:so r++[69]=so ((11,f.2)::r):=by rw[oW];rfl
 have v:po (f::r)=po ((11,f.2)::r):=by simp[tu]
 rcases e with rfl|rfl|rfl|e
 .have d:=ah1 (.inl rfl) hb fr g at_;simp[GM,jm,ik,bG,Ha,Bl,uZ,E8,E9]at d ⊢;rw[d];simp[bG,h]
 .have d:=ah1 (.inr (.inl rfl)) hb fr g at_;simp[GM,jm,ik,bG,Ha,Bl,uZ,E8,E9]at d ⊢;rw[d];simp[bG,h]
 .have d:=ah1 (.inr (.inr rfl)) hb fr g at_;simp[GM,jm,ik,bG,Ha,Bl,uZ,E8,E9]at d ⊢;rw[d];simp[bG,h]
 .rcases e with rfl|rfl|rfl|rfl|rfl|rfl|rfl|rfl|rfl<;>rcases nZ b with rfl|rfl|rfl|rfl|rfl|rfl|rfl|rfl|rfl|rfl|rfl|⟨x,y,z,A,B,D,E,G,I,J,K⟩<;>cases fr<;>
  simp_all [GM,Wv,jm,Il,Ha,ik,Ql,bG,mW,gQ,iC,gG,Bl,uZ,E8,E9]
end
section
open Go.RowKit
theorem Fa {f:Int×Int} {r:fQ} (h:iF (f::r)):0<=f.1/\f.1<=14:=by
 cases r with
 |nil=>have:f.1=0:=h;omega
 |cons g r=>have:=h.1;have:=h.2.1;omega
theorem letter_eq {m:Int} (h0:0<=m) (d:m<=14):decide (((letter m).toNat:Int)=76)=decide (m=12)/\decide (((letter m).toNat:Int)=79)=decide (m=3)/\decide (((letter m).toNat:Int)=69)=decide (m=11)/\
  decide (((letter m).toNat:Int)=68)=decide (m=5)/\decide (((letter m).toNat:Int)=73)=decide (m=8):=by
 have:m=0\/m=1\/m=2\/m=3\/m=4\/m=5\/m=6\/m=7\/m=8\/m=9\/m=10\/m=11\/m=12\/m=13\/m=14:=by omega
 rcases this with rfl|rfl|rfl|rfl|rfl|rfl|rfl|rfl|rfl|rfl|rfl|rfl|rfl|rfl|rfl<;>decide
theorem agz {s:fQ} (i:iF s) (hb:s.length<900000) (fr:Bool) {b:Int} (j:isByte b) (at_:Int):SG (so s,(po s,(fr,()))) b at_=some (Ha (gm s fr b at_),()):=by
 cases s with
 |nil=>cases i
 |cons f r=>
 have d:(f::r).length<1000000:=by omega
 have hr:r.length<1000000:=by simp at hb;omega
 obtain⟨o,g1⟩:=Fa i;obtain⟨p,q,u,-,-⟩:=letter_eq o g1;unfold SG;simp only;rw[aCd f r hr,al2 f r hr];simp only[aa,ik,p,q,u];by_cases e:f.1=12
 .cases r with
  |nil=>have:f.1=0:=i;omega
  |cons g r=>
  have E:=i.2.2.1;have v:(g::r).length<1000000:=by omega
  obtain⟨x,y⟩:=Fa i.2.2.2;obtain⟨-,-,-,z,A⟩:=letter_eq x y;obtain⟨B,D⟩:=awe f g r (by simp at hb;omega);simp only[e,decide_true,aa];by_cases e1:b=40
  .subst e1;simp only[decide_true,aa,F6 d,bG,Ql];simp[gm,e,Ha,oW,tu,lets]
  .by_cases e2:b=123
   .subst e2;simp only[e1,decide_true,decide_false,aa,ac,B,D,z,A,F6 d,bG]
    grind [gm,Ha,oW,tu,lets]
   .simp only[e1,e2,decide_false,ac,abD d,bG];by_cases e3:b=36
    .simp_all [gm,Ha]
    .simp only[e3,decide_false,ac];rw[aCd g r (by simp at hr;omega),al2 g r (by simp at hr;omega)];have l:g.1=0\/g.1=1\/g.1=2\/g.1=4\/g.1=5\/g.1=6\/g.1=7\/g.1=8\/g.1=9\/g.1=10\/g.1=13\/g.1=14:=by grind [TF]
     rw[aa,Qj rfl l v fr j at_,bG];simp_all [gm]
 .simp only[e,decide_false,ac];by_cases e3:f.1=3
  .simp only[e3,decide_true,aa];by_cases e1:b=40
   .subst e1;simp only[decide_true,aa,F6 d,bG,Ql];simp[gm,e3,Ha,oW,tu,lets]
   .simp only[e1,decide_false,ac,F6 d,bG];have h:=Qj (f:=(1,f.2)) (r:=r) rfl (.inr (.inl rfl)) (by simpa using d) fr j at_;rw[oW,tu]at h;simp only[lets]at h;rw[show((67:Int))=(((67:UInt8).toNat:Nat):Int) from rfl,tu f r,h,bG]
    grind [gm]
  .simp only[e3,decide_false,ac];by_cases e11:f.1=11
   .simp only[e11,decide_true,aa];by_cases e1:b=41
    .simp_all [abD,bG,gm,Ha]
    .simp only[e1,decide_false,ac,F6 d,bG];have h:=Qj (f:=(9,f.2)) (r:=r) rfl (by simp) (by simpa using d) fr j at_;rw[oW,tu]at h;simp only[lets]at h;rw[show((65:Int))=(((65:UInt8).toNat:Nat):Int) from rfl,tu f r,h,bG]
     grind [gm]
   .simp only[e11,decide_false,ac];have l:f.1=0\/f.1=1\/f.1=2\/f.1=4\/f.1=5\/f.1=6\/f.1=7\/f.1=8\/f.1=9\/f.1=10\/f.1=13\/f.1=14:=by omega
    rw[Qj rfl l d fr j at_,bG];simp_all [gm]
theorem anU {s:fQ} (d:iF s) (hl: ∃f r,s=f::r/\TF f.1) {m at_:Int} (e:1<=m) (h2:m<=14):iF ((m,at_)::s):=by
 obtain⟨f,r,rfl,g⟩:=hl;exact⟨e,h2,g,d⟩
theorem DL {f:Int×Int} {r:fQ} (d:iF (f::r)) (hr:r≠[]) {m at_:Int} (e:1<=m) (h2:m<=14):iF ((m,at_)::r):=by
 cases r with
 |nil=>exact absurd rfl hr
 |cons g r=>exact⟨e,h2,d.2.2.1,d.2.2.2⟩
theorem Fb {f:Int×Int} {r:fQ} (d:iF (f::r)) (hr:r≠[]):iF r:=by
 cases r with
 |nil=>exact absurd rfl hr
 |cons g r=>exact d.2.2.2
theorem oK {f:Int×Int} {r:fQ} (d:iF (f::r)) (h:f.1≠0):r≠[]:=by
 rintro rfl;exact h d
theorem Bq {m:Int} {f:Int×Int} {r:fQ} (hf:f.1=m) (d:iF (f::r)) (l:m≠12/\m≠3/\m≠11) (fr:Bool) (b at_:Int):
  iF (jm m (f::r) fr b at_).1/\(jm m (f::r) fr b at_).1.length<=(f::r).length+1:=by
 obtain⟨o,g1⟩:=Fa d;have hr:f.1≠0->r≠[]:=oK d;have j:m=0\/m=1\/m=2\/m=4\/m=5\/m=6\/m=7\/m=8\/m=9\/m=10\/m=13\/m=14:=by omega
 have push: ∀k,TF f.1->1<=k->k<=14->iF ((k,at_)::f::r):=fun k hl g i=>anU d ⟨f,r,rfl,hl⟩ g i;have p:m=0\/m=1\/m=2\/m=5\/m=6\/m=7\/m=8\/m=9\/m=10->TF f.1:=fun h=>by simp_all [TF]
 have q:m≠0->iF r:=fun h=>Fb d (hr (by rw[hf];exact h));have st: ∀k,m≠0->1<=k->k<=14->iF ((k,f.2)::r):=fun k h g i=>DL d (hr (by rw[hf];exact h)) g i;rcases j with e|e|e|e|e|e|e|e|e|e|e|e<;>subst e<;>rcases nZ b with rfl|rfl|rfl|rfl|rfl|rfl|rfl|rfl|rfl|rfl|rfl|⟨g,i,s,u,v,x,y,z,A,B,D⟩<;>cases fr<;>
  simp_all [jm,KH,Il]<;>first|omega|(refine⟨?_,by omega⟩;assumption)
end
section
open List renaming drop_eq_getElem_cons → aA, drop_zero → aJ, drop_of_length_le → aQ, eq_nil_of_length_eq_zero → bD
open Go.RowKit
theorem good_step {s:fQ} (d:iF s) (fr:Bool) (b at_:Int):iF (gm s fr b at_).1/\(gm s fr b at_).1.length<=s.length+1:=by
 cases s with
 |nil=>cases d
 |cons f r=>
 simp only[gm];split
 .rename_i e
  have hr:r≠[]:=oK d (by omega);have p: ∀k,1<=k->k<=14->iF ((k,f.2)::r):=fun k i j=>DL d hr i j;have l:=Fb d hr;split
  .simp_all
  .split
   .grind
   .split
    .grind
    .cases r with
     |nil=>exact absurd rfl hr
     |cons g r=>
      have o:=d.2.2.1;have h:=Bq rfl l (by unfold TF at o;omega) fr b at_
      grind
 .split
  .rename_i e
   have hr:r≠[]:=oK d (by omega);split
   .grind [DL]
   .have h:=Bq (f:=(1,f.2)) rfl (DL d hr (by omega) (by omega)) (by omega) fr b at_
    assumption
  .split
   .rename_i e
    have hr:r≠[]:=oK d (by omega);split
    .grind [Fb]
    .have h:=Bq (f:=(9,f.2)) rfl (DL d hr (by omega) (by omega)) (by omega) fr b at_
     assumption
   .exact Bq rfl d (by omega) fr b at_
def md (s:fQ):List Int:=s.map (·.1)
theorem Kt (m:Int) {s d:fQ} (h:md s=md d) (fr:Bool) (b a e:Int):md (jm m s fr b a).1=md (jm m d fr b e).1/\(jm m s fr b a).2=(jm m d fr b e).2:=by
 have f:md s.tail=md d.tail:=by
  have:=congrArg List.tail h;simpa [md] using this
 have g:m=0\/m=1\/m=2\/m=4\/m=5\/m=6\/m=7\/m=9\/m=10\/m=13\/m=14\/(m≠0/\m≠1/\m≠2/\m≠4/\m≠5/\m≠6/\m≠7/\m≠9/\m≠10/\m≠13/\m≠14):=by omega
 have i: ∀k (p q:Int),md ((k,p)::s)=md ((k,q)::d):=fun k p q=>by simp_all [md]
 have hd: ∀k (p q:Int),md ((k,p)::s.tail)=md ((k,q)::d.tail):=fun k p q=>by simp_all [md]
 rcases g with rfl|rfl|rfl|rfl|rfl|rfl|rfl|rfl|rfl|rfl|rfl|⟨j,l,o,u,v,x,y,z,A,B,D⟩<;>rcases nZ b with rfl|rfl|rfl|rfl|rfl|rfl|rfl|rfl|rfl|rfl|rfl|⟨E,G,I,J,K,M,N,O,S,U,V⟩<;>cases fr<;>
  simp_all [jm,KH,Il]<;>first|exact h|exact f|exact i _ _ _|exact hd _ _ _
theorem azU {s d:fQ} (h:md s=md d) (fr:Bool) (b a i:Int):md (gm s fr b a).1=md (gm d fr b i).1/\(gm s fr b a).2=(gm d fr b i).2:=by
 cases s with
 |nil=>cases d with
  |nil=>exact⟨rfl,rfl⟩
  |cons _ _=>simp[md]at h
 |cons f r=>cases d with
  |nil=>simp[md]at h
  |cons f' e=>
   have j:f.1=f'.1:=by simp_all [md]
   have g:md r=md e:=by simp_all [md]
   have l:(r.headD (0,0)).1=(e.headD (0,0)).1:=by
    cases r<;>cases e<;>simp[md]at g ⊢;exact g.1
   have o: ∀k (p q:Int),md ((k,p)::r)=md ((k,q)::e):=fun k p q=>by simp_all [md]
   simp only[gm,<-j,<-l];split
   .split
    .grind
    .split
     .grind
     .split
      .exact⟨g,rfl⟩
      grind [Kt]
   .split
    .split
     .grind
     grind [Kt]
    .split
     .split
      .exact⟨g,rfl⟩
      grind [Kt]
     grind [Kt]
def jA (b:UInt8):Int:=(b.toNat:Int)
def mZ:bZ->Int->fQ×Bool->fQ×Bool
 |[],_,x=>x
 |b::l,a,x=>mZ l (a+1) (gm x.1 x.2 (jA b) a)
def fH:fQ×Bool:=([(0,0)],true)
theorem kF:iF fH.1:=rfl
theorem drop_at {s:List UInt8} {i:Int} (h0:0<=i) (h:i<s.length): ∃b,s.drop i.toNat=b::s.drop (i+1).toNat/\bY s i=jA b:=by
 have d:i.toNat<s.length:=by omega
 refine⟨s[i.toNat], ?_, ?_⟩
 .grind [aA]
 simp_all [bY,jA]
theorem Jt {s:List UInt8} {i:Int} (h:s.length<=i:=by omega):s.drop i.toNat=[]:=aQ (by omega)
theorem aB4 (s:bZ) (g:s.length<=100000): ∀(N:Nat) (i:Int) (x:fQ×Bool),(s.length:Int)-i<N->0<=i->i<=s.length->iF x.1->(x.1.length:Int)<=i+1->
  J4 N s (bI s) i x.2 i (lo x.1)=some (.inl ((),(((mZ (s.drop i.toNat) i x).2,(s.length:Int),()),lo (mZ (s.drop i.toNat) i x).1,())))
 |0,i,x,h,_,_,_,_=>by omega
 |N+1,i,x,h,h0,l,d,hl=>by
  rw[J4,QF];by_cases e:i<s.length
  .obtain⟨b,hd,j⟩:=drop_at h0 e;rw[bV (eH (b:=bI s) e),bV (dV h0 e),agy d (by omega) x.2 (lN s i) h0 (by omega),bG,hd,mZ,<-j];simp only[pst];rw[dn];have f:=good_step d x.2 (bY s i) i;exact aB4 s g N (i+1) (gm x.1 x.2 (bY s i) i) (by omega) (by omega) (by omega) f.1 (by have:=f.2;omega)
  .have o:i=s.length:=by omega
   simp_all [iG,bK,mZ]
theorem aB5 (s:bZ) (l:s.length<=100000) (d:bZ) (f:Bool): ∀(N:Nat) (i:Int) (x:fQ×Bool),(s.length:Int)-i<N->0<=i->i<=s.length->iF x.1->(x.1.length:Int)<=i+1->
  J3 N s i (so x.1) (po x.1) x.2 d f=some (.inl ((),((so (mZ (s.drop i.toNat) i x).1,po (mZ (s.drop i.toNat) i x).1,(mZ (s.drop i.toNat) i x).2,()),(d,f,()),())))
 |0,i,x,h,_,_,_,_=>by omega
 |N+1,i,x,h,h0,p,g,hl=>by
  rw[J3,QE];by_cases e:i<s.length
  .obtain⟨b,hd,o⟩:=drop_at h0 e;rw[bV (eH (b:=bI s) e),bV (dV h0 e),agz g (by omega) x.2 (lN s i) i,bG,hd,mZ,<-o];simp only[Ha];rw[dn];have j:=good_step g x.2 (bY s i) i;exact aB5 s l d f N (i+1) (gm x.1 x.2 (bY s i) i) (by omega) (by omega) (by omega) j.1 (by have:=j.2;omega)
  simp_all [iG,bK,Jt,mZ]
theorem DK: ∀(l:bZ) (a:Int) (x:fQ×Bool),iF x.1->iF (mZ l a x).1/\(mZ l a x).1.length<=x.1.length+l.length
 |[],a,x,h=>⟨h,by simp[mZ]⟩
 |b::l,a,x,h=>by
  have d:=good_step h x.2 (jA b) a;have e:=DK l (a+1) (gm x.1 x.2 (jA b) a) d.1
  grind [mZ]
theorem Oe {n:Nat} (h:n<=1000000000:=by omega):n<bM:=by unfold bM;omega
theorem aGZ (s:bZ) (f:s.length<=100000):ai3 s=some (lo (mZ s 0 fH).1,((mZ s 0 fH).2,())):=by
 have h:=aB4 s f bM 0 fH (by have:=Oe (n:=s.length) (by omega);omega) (by omega) (by omega) kF (by simp[fH]);have d:=DK s 0 fH kF;unfold ai3;rw[show([(0,(0,()))]:List oD)=lo fH.1 from rfl,show(true:Bool)=fH.2 from rfl,h,bG];simp only[dN,Int.toNat_zero,aJ];have g:(lo (mZ s 0 fH).1).length≠0:=by
  rw[pg];intro e;rw[bD e]at d;exact d.1
 rw[dI (dX (by rw[bK];omega))];have i:oI (lo (mZ s 0 fH).1)=some (lo (mZ s 0 fH).1,()):=by
  unfold oI rJ;have:dY (lo (mZ s 0 fH).1) 16=true:=by
   have:=d.2;have j:fH.1.length=1:=rfl;simp only[dY,pg,decide_eq_true_eq,kH];omega
  rw[this];rfl
 rw[i,bG];cases hf:(mZ s 0 fH).2 with
 |true=>simp[adr,bG]
 |false=>simp[adr,bG,ik,bK,g]
theorem aG0 (s:bZ) (d:s.length<=100000):ai0 s=some (Ha (mZ s 0 fH),()):=by
 have h:=aB5 s d [] false bM 0 fH (by have:=Oe (n:=s.length) (by omega);omega) (by omega) (by omega) kF (by simp[fH]);unfold ai0;rw[show SE=some ((so fH.1,(po fH.1,(fH.2,()))),()) from rfl,bG];simp_all [bG,dN,Ha]<;>rfl
end
section
open Option renaming some → a6, none → a7
open Bool renaming false_eq_true → ah, not_true → au, and_true → ay, not_false → az
open List renaming length_cons → aH
open Nat renaming le_refl → ae
open Go.RowKit
def rF (s:fQ) (b:Int):Bool:=CU b&&(match s with
 |[_]=>true
 |[f,_]=>decide (f.1=12)&& !decide (b=40)
 |_=>false)
def Dc:bZ->Int->fQ×Bool->Nat
 |[],_,_=>0
 |b::l,a,x=>if rF x.1 (jA b)then 0 else Dc l (a+1) (gm x.1 x.2 (jA b) a)+1
theorem aiH: ∀(l:bZ) (a:Int) (x:fQ×Bool),Dc l a x<=l.length
 |[],_,_=>ae _
 |b::l,a,x=>by
  simp only[Dc,aH];split
  .omega
  .have:=aiH l (a+1) (gm x.1 x.2 (jA b) a);omega
theorem aq3 {s d:fQ} (h:md s=md d) (b:Int):rF s b=rF d b:=by
 match s,d with
 |[],[]=>rfl
 |[_],[_]=>rfl
 |[f,_],[e,_]=>simp_all [md,rF]
 |_::_::_::_,_::_::_::_=>rfl
 |[],_::_=>simp[md]at h
 |_::_,[]=>simp[md]at h
 |[_],_::_::_=>simp[md]at h
 |_::_::_,[_]=>simp[md]at h
 |[_,_],_::_::_::_=>simp[md]at h
 |_::_::_::_,[_,_]=>simp[md]at h
theorem aiI: ∀(l:bZ) (a d:Int) (x e:fQ×Bool),md x.1=md e.1->x.2=e.2->Dc l a x=Dc l d e
 |[],_,_,_,_,_,_=>rfl
 |b::l,a,d,x,e,f,h=>by
  have g:=azU f x.2 (jA b) a d;simp only[Dc,aq3 f,<-h];rw[aiI l (a+1) (d+1) _ _ g.1 g.2]
theorem aya {s:fQ} (d:iF s) (hb:s.length<1000000) (fr:Bool) (at_:Int) {b:Int} (e:isByte b):ai2 (lo s) fr at_ b=a6 ((lo s,(fr,(at_,()))),(rF s b,())):=by
 unfold ai2;rw[aq4 e,bG];cases he:CU b with
 |false=>simp[rF,he]
 |true=>
  match s with
  |[]=>cases d
  |[f]=>simp[rF,he,ik,bK,lo]
  |[f,g]=>
   have i:fD (lo [f,g]) 1=true:=dV (by omega) (by simp[lo]);have j:lZ (dC 1) (lo [f,g])=true:=l9 (by simp[lo,dC]);have l:dJ (lo [f,g]) (0,(0,())) (dC 1)=(f.1,f.2,()):=by rfl
   have o:(lo [f,g]).length=2:=by simp[lo]
   simp only[ik,bK,i,j,l,o,aa]
   grind [rF]
  |f::g::h::r=>
   grind [pg,ik,bK,rF]
theorem aq1 (s:bZ) (g:s.length<=100000): ∀(N:Nat) (i a:Int) (x:fQ×Bool),(s.length:Int)-i<N->0<=i->i<=s.length->0<=a->a<=i->iF x.1->(x.1.length:Int)<=a+1->
  ∃o,JZ N s i x.2 a (lo x.1)=a6 o/\dN o (fun j=>a6 (j.1.1,())) (fun l=>a6 (l.1.1,()))=a6 (i+Dc (s.drop i.toNat) a x,())
 |0,i,a,x,h,_,_,_,_,_,_=>by omega
 |N+1,i,a,x,h,h0,q,u,v,d,hl=>by
  rw[JZ,QC];by_cases e:i<s.length
  .obtain⟨b,hd,p⟩:=drop_at h0 e;rw[bV (eH (b:=bI s) e),bV (dV h0 e),aya d (by omega) x.2 a (lN s i),bG,hd,Dc,<-p];cases hw:rF x.1 (bY s i)with
   |true=>exact⟨_,rfl,by simp[dN]⟩
   |false=>
    simp only[ac,ah,if_false];rw[bV (dV h0 e),agy d (by omega) x.2 (lN s i) (by omega) (by omega),bG];simp only[pst];rw[dn];have f:=good_step d x.2 (bY s i) a;obtain⟨o,y,z⟩:=aq1 s g N (i+1) (a+1) (gm x.1 x.2 (bY s i) a) (by omega) (by omega) (by omega) (by omega) (by omega) f.1 (by have:=f.2;omega)
    grind
  .rw[dI (iG (b:=bI s) (by rw[bK];omega)),Jt];exact⟨_,rfl,by simp[dN,Dc]⟩
theorem aGR (s:bZ) (d:s.length<=100000) {i:Int} (h0:0<=i) (hi:i<=s.length):adl s i=a6 (i+Dc (s.drop i.toNat) i fH,()):=by
 obtain⟨o,e,f⟩:=aq1 s d bM i 0 fH (by have:=Oe (n:=s.length) (by omega);omega) h0 hi (by omega) h0 kF (by simp[fH]);unfold adl;rw[dI (iG h0),dI (iG (a:=bI s) hi),show([(0,(0,()))]:List oD)=lo fH.1 from rfl,show(true:Bool)=fH.2 from rfl,e,bG,f,aiI _ i 0 fH fH rfl rfl]
theorem awf {s:fQ} (d:iF s):gG (so s) [84]=(match s with|[_]=>true|_=>false):=by
 match s with
 |[]=>cases d
 |[f]=>have h:f.1=0:=d;simp[so,gG,h,lets]
 |f::g::r=>
  grind [CE,gG]
theorem al3 {s:fQ} (d:iF s):gG (so s) [84,76]=(match s with|[f,_]=>decide (f.1=12)|_=>false):=by
 match s with
 |[]=>cases d
 |[f]=>
  simp_all [so,gG]
 |[f,g]=>
  have h:g.1=0:=d.2.2.2;obtain⟨j,g1⟩:=Fa d;have i:f.1=0\/f.1=1\/f.1=2\/f.1=3\/f.1=4\/f.1=5\/f.1=6\/f.1=7\/f.1=8\/f.1=9\/f.1=10\/f.1=11\/f.1=12\/f.1=13\/f.1=14:=by omega
  rcases i with e|e|e|e|e|e|e|e|e|e|e|e|e|e|e<;>simp[so,gG,h,e,lets]
 |f::g::h::r=>
  grind [CE,gG]
theorem aq2 (s:bZ) (u:s.length<=100000): ∀(N:Nat) (i:Int) (x:fQ×Bool),(s.length:Int)-i<N->0<=i->i<=s.length->iF x.1->(x.1.length:Int)<=i+1->
  ∃o,Fq N s i (so x.1) (po x.1) x.2=a6 o/\dN o (fun d=>a6 ((bI d.1.1),())) (fun j=>a6 (j.1.1,()))=a6 (i+Dc (s.drop i.toNat) i x,())
 |0,i,x,h,_,_,_,_=>by omega
 |N+1,i,x,h,h0,B,l,hl=>by
  (rewrite [Fq,Qv];delta Aq)
  by_cases e:i<s.length
  .obtain⟨b,hd,v⟩:=drop_at h0 e;have p:=good_step l x.2 (bY s i) i;obtain⟨o,y,z⟩:=aq2 s u N (i+1) (gm x.1 x.2 (bY s i) i) (by omega) (by omega) (by omega) p.1 (by have:=p.2;omega);rw[bV (eH (b:=bI s) e),bV (dV h0 e),aq5 (lN s i),bG,hd,Dc,<-v,awf l,al3 l,dV h0 e,agz l (by omega) x.2 (lN s i) i,bG];simp only[Ha,aa];rw[dn];have q: ∃o,Fq N s (i+1) (so (gm x.1 x.2 (bY s i) i).1) (po (gm x.1 x.2 (bY s i) i).1) (gm x.1 x.2 (bY s i) i).2=a6 o/\dN o (fun d=>a6 ((bI d.1.1),())) (fun j=>a6 (j.1.1,()))=a6 (i+((Dc (s.drop (i+1).toNat) (i+1) (gm x.1 x.2 (bY s i) i)+1:Nat):Int),()):=
    ⟨o,y,z.trans (by grind)⟩
   have A: ∃o,(a6 (Sum.inr ((i,()),())):Option (Qb.den⊕Qg.den))=a6 o/\dN o (fun d=>a6 ((bI d.1.1),())) (fun j=>a6 (j.1.1,()))=a6 (i+((0:Nat):Int),()):=⟨_,rfl,by simp[dN]⟩;cases he:CU (bY s i)with
   |false=>simp_all [rF]
   |true=>
    generalize D:x.1=st at*
    match st with
    |[]=>cases l
    |[f]=>simp_all [rF]
    |[f,g]=>
     by_cases e12:f.1=12
     .by_cases e40:bY s i=40
      .simp only[rF,he,aa,ac,ik,e12,e40,decide_true,au,Bool.and_false,ah,if_false]at q ⊢;exact q
      .simp only[rF,he,aa,ac,ik,e12,e40,decide_true,decide_false,az,ay,if_true];exact A
     simp_all [rF]
    |f::g::h::r=>simp_all [rF]
  .rw[dI (iG (b:=bI s) (by rw[bK];omega)),Jt];exact⟨_,rfl,by simp[dN,Dc,bK];omega⟩
theorem aGS (s:bZ) (d:s.length<=100000) {i:Int} (h0:0<=i) (hi:i<=s.length):Wn s i=a6 (i+Dc (s.drop i.toNat) i fH,()):=by
 obtain⟨o,e,f⟩:=aq2 s d bM i fH (by have:=Oe (n:=s.length) (by omega);omega) h0 hi kF (by simp[fH];omega);unfold Wn;rw[show SE=a6 ((so fH.1,(po fH.1,(fH.2,()))),()) from rfl,bG];simp_all [bG]
end
section
open Option renaming some → a6, none → a7
open Bool renaming and_eq_true → af, not_true → au
open List renaming drop_eq_getElem_cons → aA, length_cons → aH, length_drop → aP, drop_of_length_le → aQ
open Go.RowKit
def isL (c:UInt8):Bool:=(97<=c&&c<=122)||(65<=c&&c<=90)||c==95
def isD (c:UInt8):Bool:=48<=c&&c<=57
def WH (c:UInt8):Bool:=isL c||isD c
def isP (c:UInt8):Bool:=c==64||c==42||c==35||c==63||c==45||c==36||c==33
def ax5:Bool:=(List.range 256).all fun b=>match ade (b:Int),adf (b:Int),SN (b:Int)with
 |some (x,_),a6 (y,_),a6 (k,_)=>(x==isL (UInt8.ofNat b))&&((y==isD (UInt8.ofNat b))&&((decide (k=5)==isL (UInt8.ofNat b))&&(decide (k=6)==isD (UInt8.ofNat b))))
 |_,_,_=>false
theorem aqV:ax5=true:=by kernel_rfl
theorem uk (c:UInt8):ade (c.toNat:Int)=a6 (isL c,())/\adf (c.toNat:Int)=a6 (isD c,())/\ ∃k,SN (c.toNat:Int)=a6 (k,())/\bP k 5=isL c/\bP k 6=isD c:=by
 have h:=List.all_eq_true.1 aqV c.toNat (List.mem_range.2 (by have:=c.toNat_lt;omega));have d:UInt8.ofNat c.toNat=c:=by simp
 rw[d]at h;split at h
 .rename_i x u y v k w e f g
  simp only[af,beq_iff_eq]at h
  grind [bP]
 .cases h
def aIy:Bool:=(List.range 256).all fun b=>match Gy (b:Int) [64,42,35,63,45,36,33]with
 |some (x,_)=>(x==isP (UInt8.ofNat b))&&(isP (UInt8.ofNat b)==(bP (b:Int) 64||(bP (b:Int) 42||(bP (b:Int) 35||(bP (b:Int) 63||(bP (b:Int) 45||(bP (b:Int) 36||bP (b:Int) 33)))))))
 |_=>false
theorem aFH:aIy=true:=by kernel_rfl
theorem avd (c:UInt8):Gy (c.toNat:Int) [64,42,35,63,45,36,33]=a6 (isP c,())/\isP c=(bP (c.toNat:Int) 64||(bP (c.toNat:Int) 42||(bP (c.toNat:Int) 35||(bP (c.toNat:Int) 63||(bP (c.toNat:Int) 45||(bP (c.toNat:Int) 36||bP (c.toNat:Int) 33)))))):=by
 have h:=List.all_eq_true.1 aFH c.toNat (List.mem_range.2 (by have:=c.toNat_lt;omega));have d:UInt8.ofNat c.toNat=c:=by simp
 grind
theorem byte_at {s:List UInt8} {i:Nat} (h:i<s.length):bY s (i:Int)=(s[i].toNat:Int):=by
 simp_all [bY]
def runN (s:bZ):Nat:=(s.takeWhile WH).length
def Gz (s:bZ):Nat:=(s.takeWhile isL).length
def kV (s:bZ):Nat:=(s.takeWhile isD).length
theorem Lu (p:UInt8->Bool) (s:bZ):(s.takeWhile p).length<=s.length:=by
 induction s with
 |nil=>simp
 |cons c v d=>grind [List.takeWhile_cons]
theorem EN (p:UInt8->Bool): ∀(s:bZ) (i:Nat) (h:i<s.length),i<(s.takeWhile p).length->p s[i]=true
 |[],i,h,_=>by simp at h
 |c::v,i,h,d=>by
  rw[List.takeWhile_cons]at d;split at d
  .rename_i e
   match i with
   |0=>exact e
   |i+1=>exact EN p v i (by simpa using h) (by simpa using d)
  .simp at d
theorem zA (p:UInt8->Bool): ∀(s:bZ) (h:(s.takeWhile p).length<s.length),p s[(s.takeWhile p).length]=false
 |[],h=>by simp at h
 |c::v,h=>by
  by_cases hc:p c=true
  .have e:List.takeWhile p (c::v)=c::v.takeWhile p:=by simp_all
   have d:(v.takeWhile p).length<v.length:=by simp_all
   have:=zA p v d;simp_all
  simp_all
theorem aJr (p:UInt8->Bool) (s:bZ) (n:Nat) (d:n<=s.length) (e: ∀i (h:i<s.length),i<n->p s[i]=true) (h2: ∀h:n<s.length,p s[n]=false):(s.takeWhile p).length=n:=by
 have a:=Lu p s;by_cases c:(s.takeWhile p).length<n
 .grind [zA]
 grind [EN]
def nl (s:bZ):Nat:=if Gz s=0 then 0 else runN s
theorem avz {s:List UInt8} (h:Gz s≠0):runN s≠0:=by
 unfold Gz at h;unfold runN
 match s with
 |[]=>simp at h
 |c::v=>
  simp_all [List.takeWhile_cons,WH]
theorem aB2 (s:bZ):nl s<=s.length:=by
 unfold nl;split
 .omega
 .exact Lu _ _
theorem X4 {s:List UInt8} (d:s.length<4000000) {a k:Nat} (h:a+k<s.length): ∃hk:k<(s.drop a).length,bY s (di .i64 (a:Int) (k:Int))=(((s.drop a)[k]).toNat:Int):=by
 have hk:k<(s.drop a).length:=by grind
 refine⟨hk, ?_⟩;rw[dn,show(a:Int)+(k:Int)=((a+k:Nat):Int) by omega,byte_at h,List.getElem_drop]
theorem aCf {s:List UInt8} (e:s.length<4000000) {at_:Nat} (g:at_<=s.length) (a:bZ) (b:Int) (c:bZ) (d:Int): ∀(N k:Nat),s.length-k<N->k<=Gz (s.drop at_)->
  oM N s (at_:Int) (k:Int) a b c d=a6 (.inl ((((Gz (s.drop at_):Nat):Int),()),((a,b,c,d,()),(),()),()))
 |0,k,h,hk=>by
  omega
 |N+1,k,h,hk=>by
  have p:=Lu isL (s.drop at_);have q:=aP (i:=at_) (l:=s);rw[oM,vV];have u:k<=((s.drop at_).takeWhile isL).length:=hk;have f:di .i64 (at_:Int) (k:Int)=(at_:Int)+k:=dn;by_cases h1:at_+k<s.length
  .obtain⟨j,o⟩:=X4 e h1;rw[o,f,bV (eH (by rw[bK];omega)),bV (dV),(uk _).1,bG];by_cases h2:k<Gz (s.drop at_)
   .rw[EN isL _ k j h2];simp only[au,ac];rw[dn,show(k:Int)+1=((k+1:Nat):Int) by omega];exact aCf e g a b c d N (k+1) (by omega) (by omega)
   .obtain rfl:k=Gz (s.drop at_):=by omega
    grind [zA,Gz]
  .obtain rfl:k=Gz (s.drop at_):=by grind [Gz]
   rw[f,dI (ig (by rw[bK];omega))]
theorem aCg {s:List UInt8} (e:s.length<4000000) {at_:Nat} (j:at_<=s.length) (a:bZ) (b:Int) (c:bZ) (d:Int): ∀(N k:Nat),s.length-k<N->k<=runN (s.drop at_)->
  qy N s (at_:Int) (k:Int) a b c d=a6 (.inl ((((runN (s.drop at_):Nat):Int),()),((a,b,c,d,()),(),()),()))
 |0,k,h,hk=>by
  omega
 |N+1,k,h,hk=>by
  have u:=Lu WH (s.drop at_);have v:=aP (i:=at_) (l:=s);rw[qy,CO];have x:k<=((s.drop at_).takeWhile WH).length:=hk;have f:di .i64 (at_:Int) (k:Int)=(at_:Int)+k:=dn;by_cases h1:at_+k<s.length
  .obtain⟨g,o⟩:=X4 e h1;have p:di .i64 (k:Int) 1=((k+1:Nat):Int):=by grind [dn]
   rw[o,f,bV (eH (by rw[bK];omega)),bV (dV),(uk _).1,bG,(uk _).2.1];by_cases h2:k<runN (s.drop at_)
   .have q:=aCg e j a b c d N (k+1) (by omega) (by omega);have y:=EN WH _ k g h2;rw[p];cases hL:isL (s.drop at_)[k]with
    |true=>exact q
    |false=>
     simp_all [WH,bG]
   .obtain rfl:k=runN (s.drop at_):=by omega
    have:=zA WH _ g;have z:WH (s.drop at_)[runN (s.drop at_)]=false:=this;simp_all [WH,bG]
  .obtain rfl:k=runN (s.drop at_):=by grind [runN]
   rw[f,dI (ig (by rw[bK];omega))]
theorem aCe {s:List UInt8} (e:s.length<4000000) {at_:Nat} (g:at_<=s.length) (a:bZ) (b:Int) (c:bZ) (d:Int): ∀(N k:Nat),s.length-k<N->k<=kV (s.drop at_)->
  qH N s (at_:Int) (k:Int) a b c d=a6 (.inl ((((kV (s.drop at_):Nat):Int),()),((a,b,c,d,()),(),()),()))
 |0,k,h,hk=>by
  omega
 |N+1,k,h,hk=>by
  have p:=Lu isD (s.drop at_);have q:=aP (i:=at_) (l:=s);rw[qH,yE];have u:k<=((s.drop at_).takeWhile isD).length:=hk;have f:di .i64 (at_:Int) (k:Int)=(at_:Int)+k:=dn;by_cases h1:at_+k<s.length
  .obtain⟨j,o⟩:=X4 e h1;rw[o,f,bV (eH (by rw[bK];omega)),bV (dV),(uk _).2.1,bG];by_cases h2:k<kV (s.drop at_)
   .rw[EN isD _ k j h2];simp only[au,ac];rw[dn,show(k:Int)+1=((k+1:Nat):Int) by omega];exact aCe e g a b c d N (k+1) (by omega) (by omega)
   .obtain rfl:k=kV (s.drop at_):=by omega
    grind [zA,kV]
  .obtain rfl:k=kV (s.drop at_):=by grind [kV]
   rw[f,dI (ig (by rw[bK];omega))]
theorem acC {s:List UInt8} (d:s.length<4000000) {a:Nat} (e:a<=s.length):DC s a=a6 (((kV (s.drop a):Nat):Int),()):=by
 rw[DC,dI (ig)];by_cases h0:a=s.length
 .subst h0;rw[bV (lQ (by rw[bK];omega)),List.drop_length];rfl
 rw[dI (zX (by rw[bK];omega)),show qH bM s a 0 s a s a=_ from aCe d e s a s a bM 0 (dK) (by omega),bG];rfl
theorem apX {s:List UInt8} (d:s.length<4000000) {a:Nat} (e:a<=s.length):agH s a=a6 (((nl (s.drop a):Nat):Int),()):=by
 (rewrite [agH];delta agI;rw[dI (ig)])
 by_cases h0:a=s.length
 .subst h0;rw[bV (lQ (by rw[bK];omega)),List.drop_length];rfl
 rw[dI (zX (by rw[bK];omega)),show oM bM s a 0 s a s a=_ from aCf d e s a s a bM 0 (dK) (by omega),bG];unfold dN;simp only;unfold nl;by_cases h1:Gz (s.drop a)=0
 .rw[am h1,h1];rfl
 .rw[aq h1,dI (dX),dI (ig),dI (zX (by rw[bK];omega)),show qy bM s a 0 _ _ _ _=_ from aCg d e _ _ _ _ bM 0 (dK) (by omega)];rfl
theorem Oy {s:List UInt8} (e:s.length<4000000): ∀(N k:Nat),s.length-k<N->k<=runN s->
  MM N s (k:Int)=a6 (if runN s=s.length then .inl ((),())else .inr ((false,()),()))
 |0,k,h,hk=>by omega
 |N+1,k,h,hk=>by
  have o:=Lu WH s;have p:k<=(s.takeWhile WH).length:=hk;rw[MM,ab3];by_cases h1:k<s.length
  .obtain⟨c,f,g,q⟩:=(uk s[k]).2.2;have i:fD s (k:Int)=true:=dV;rw[bV (eH (by rw[bK];omega)),i,byte_at h1,f,bG,g];by_cases h2:k<runN s
   .have j:=Oy e N (k+1) (by omega) (by omega);have u:=EN WH s k h1 h2;have l:di .i64 (k:Int) 1=((k+1:Nat):Int):=by grind [dn]
    rw[l];cases hL:isL s[k]with
    |true=>exact j
    |false=>
     simp_all [WH,bG]
   .obtain rfl:k=runN s:=by omega
    have:=zA WH s h1;have d:WH s[runN s]=false:=this;simp only[WH,Bool.or_eq_false_iff]at d;rw[d.1,aq (by omega)];simp_all [bG]
  .obtain rfl:k=runN s:=by grind [runN]
   rw[dI (ig (by rw[bK];omega)),am (by omega)]
theorem as5 {s:List UInt8} (h0:s≠[]):Gz s=0↔isL (s.headD 0)=false:=by
 match s,h0 with
 |c::v,_=>
  simp_all [Gz,List.takeWhile_cons]
theorem xf {s:List UInt8} (e:s.length<4000000):YJ s=a6 (decide (nl s≠0/\nl s=s.length),()):=by
 rw[YJ];by_cases h0:s=[]
 .subst h0;rfl
 have f:0<s.length:=List.length_pos_iff.2 h0;obtain⟨_,_,c,g,j,p⟩:=uk s[0];have l:bY s 0=(s[0].toNat:Int):=byte_at (i:=0) f;have q:s.headD 0=s[0]:=by
  match s,h0 with
  |c::v,_=>rfl
 rw[dI (dX (by rw[bK];omega)),bV (dV),l,g,bG];simp only;rw[j];unfold nl;cases hL:isL s[0]with
 |false=>
  simp_all [as5]
 |true=>
  have d:Gz s≠0:=fun h=>by simp_all [as5]
  have o:=avz d;simp only[au,ac];rw[aq d,show MM bM s 1=_ from Oy e bM 1 (dK) (by omega)];by_cases h3:runN s=s.length
  .rw[am h3,decide_eq_true ⟨o,h3⟩];rfl
  .rw[aq h3,decide_eq_false (fun h=>h3 h.2)];rfl
theorem acw (p:UInt8->Bool): ∀(s:bZ) (k:Nat),((s.take k).takeWhile p).length=min k (s.takeWhile p).length
 |[],k=>by simp
 |c::v,0=>by simp
 |c::v,k+1=>by
  rw[List.take_succ_cons,List.takeWhile_cons,List.takeWhile_cons];split
  .rw[aH,aH,acw p v k];omega
  .simp
theorem azX (t:bZ) {k:Nat} (d:1<=k) (hk:k<=t.length):(nl (t.take k)≠0/\nl (t.take k)=(t.take k).length)↔k<=nl t:=by
 have hl:(t.take k).length=k:=by simp_all
 have a:=acw isL t k;have b:=acw WH t k;unfold nl Gz runN
 grind
theorem TU {s:List UInt8} (d:s.length<4000000) {a:Nat} (f:a<=s.length): ∀(N k:Nat),s.length-a+1-k<N->1<=k->k<=s.length-a+1->
  FP N s a ((min (k-1) (nl (s.drop a)):Nat):Int) (k:Int)=a6 (.inl ((((nl (s.drop a):Nat):Int),()),()))
 |0,k,h,_,_=>by omega
 |N+1,k,h,g,l=>by
  have i:=aB2 (s.drop a);rw[aP]at i;rw[FP,QU,bK,iw];by_cases e:k<=s.length-a
  .have j:sub s (a:Int) (di .i64 (a:Int) (k:Int))=(s.drop a).take k:=by
    grind [dn,sub,List.drop_take]
   have o:=TU d f N (k+1) (by omega) (by omega) (by omega);rw[bV (lQ),bV (fO (by omega) (by grind [dn]) (by grind [dn])),j,
    xf (by grind),bG,dn,show(k:Int)+1=((k+1:Nat):Int) by omega]
   have p:=azX (s.drop a) g (by simp_all)
   grind
  .rw[dI (zX),show min (k-1) (nl (s.drop a))=nl (s.drop a) by omega]
theorem aCZ {s:List UInt8} (d:s.length<4000000) {a:Nat} (e:a<=s.length):ajq s a=a6 (((nl (s.drop a):Nat):Int),()):=by
 rw[ajq];have h:=TU d e bM 1 (dK) (by omega) (by omega);rw[show min (1-1) (nl (s.drop a))=0 by omega]at h;rw[show FP bM s a 0 1=_ from h,bG];rfl
def prl (s:bZ):Nat:=if nl s≠0 then nl s else match s with
 |c::_=>if isP c||isD c then 1 else 0
 |[]=>0
theorem ahZ (s:bZ):prl s<=s.length:=by
 unfold prl
 grind [aB2]
theorem LQ {s:List UInt8} {a:Nat} (h:a<s.length):s.drop a=s[a]::s.drop (a+1):=aA h
theorem axS {s:List UInt8} (d:s.length<4000000) {a:Nat} (f:a<=s.length):aji s a=a6 (((prl (s.drop a):Nat):Int),()):=by
 rw[aji,aCZ d f,bG];unfold prl;by_cases e:nl (s.drop a)=0
 .rw[bV (fK),aq (by omega)];by_cases h:a<s.length
  .obtain⟨k,hk,j,g⟩:=(uk s[a]).2.2;have i:fD s (a:Int)=true:=dV;rw[bV (eH (by rw[bK];omega)),i,byte_at h,hk,bG,g,(avd _).1,bG,e,LQ h]
   grind
  simp_all [ig,bK,aQ]
 simp_all [dX]
theorem axR {s:List UInt8} (d:s.length<4000000) {a:Nat} (f:a<=s.length):Wy s a=a6 (((prl (s.drop a):Nat):Int),()):=by
 rw[Wy,apX d f,bG];unfold prl;by_cases e:nl (s.drop a)=0
 .rw[dI (ig),aq (by omega),dI (ig)];by_cases h:a<s.length
  .rw[dI (zX (by rw[bK];omega)),bV (dV),byte_at h,acC d f,bG];have hd:Iz ((kV (s.drop a):Nat):Int) 1=if isD s[a]then 1 else 0:=by
    grind [kV,LQ,List.takeWhile_cons,Iz]
   have g:=(avd s[a]).2;rw[hd,LQ h]
   grind
  simp_all [lQ,bK,aQ]
 .rw[bV (eH),am e]
end
section
open Bool renaming and_true → ay
open List renaming length_append → ai, length_cons → aH
open Nat renaming le_refl → ae
open Go.RowKit
abbrev kP:=Int×Int×Int×Int×Bool×Unit
abbrev GI:=Int×Int×Unit
def dP:kP:=(0,(0,(0,(0,(false,())))))
def dF:GI:=(0,(0,()))
def counts (m:Int):Int:=if m=3 then 1 else if m=11 then 9 else m
theorem acX (m:Int):WA m=some (counts m,()):=by
 unfold WA counts;simp only[ik];by_cases h1:m=3
 .simp[h1]
 .by_cases h2:m=11<;>simp[h1,h2]
theorem FY {e:Type} {l:List e} {d x:e} {i:Nat} (h:i<l.length):dJ (gX l i x) d i=x:=by
 simp_all [dJ,gX]
theorem afe {d:Type} {l:List d} {i:Nat} {x y:d}:gX (gX l i x) i y=gX l i y:=by
 simp_all [gX]
theorem ajw {d:Type} {l:List d} {i:Nat} {x:d} {k:Int}:fD (gX l i x) k=fD l k:=by
 simp_all [fD,gX]
theorem akx {d:Type} {l:List d} {i k:Nat} {x:d}:lZ k (gX l i x)=lZ k l:=by
 simp_all [lZ,gX]
theorem vT {d:Type} {l:List d} {i:Nat} {x:d}:(gX l i x).length=l.length:=by
 simp_all [gX]
theorem ac3 (n:Nat):eqN n n=true:=by simp[eqN]
def Po (L:List kP) (j:Nat) (a:Int):List kP:=gX L j ((dJ L dP j).1,(dJ L dP j).2.1,a,(dJ L dP j).2.2.2.1,false,())
def WS (L:List kP) (j:Nat) (m:Int):List kP:=gX L j (m,(dJ L dP j).2)
theorem F8 (L:List kP) (j:Nat) (a:Int):(Po L j a).length=L.length:=vT
theorem FU (L:List kP) (j:Nat) (m:Int):(WS L j m).length=L.length:=vT
def o5 (F:List GI) (a:Int):Nat->List kP->List Int->List kP×List Int
 |0,L,H=>(L,H)
 |n+1,L,H=>
  if n+1<=F.length/\(F.getD n dF).2.1=(dJ L dP (H.getD n 0).toNat).2.1 then(L,H)
  else o5 F a n (Po L (H.getD n 0).toNat (a+1)) (H.take n)
def Af (F:List GI) (H:List Int):Nat->Nat->List kP->List kP
 |0,_,L=>L
 |k+1,i,L=>Af F H k (i+1) (WS L (H.getD i 0).toNat (counts (F.getD i dF).1))
theorem afd (F:List GI) {a:Int} (d:0<=a) (f:a<1000000) (hF:F.length<1000000): ∀(N n:Nat) (L:List kP) (H:List Int),n<N->n=H.length->n<1000000->L.length<1000000->
  (∀j∈H,0<=j/\j<L.length)->
  J7 N F a (n:Int) L H=some (.inl ((F,()),((),()),((),(o5 F a n L H).1,(o5 F a n L H).2,())))
 |0,n,L,H,h,_,_,_,_=>by omega
 |N+1,0,L,H,h,_,_,_,_=>by
  rfl
 |N+1,n+1,L,H,h,B,D,hL,g=>by
  have E:n<H.length:=by omega
  have i:eU .i64 ((n+1:Nat):Int) 1=(n:Int):=by grind [iw]
  have l:H.getD n 0∈H:=by simp_all
  obtain⟨o,p⟩:=g _ l;have q:dJ H 0 (dC (n:Int))=H.getD n 0:=rfl;have s:dw F (0,(0,())) (n:Int)=F.getD n dF:=rfl;have u:fD L (H.getD n 0)=true:=dV o p;have hl:lZ (dC (H.getD n 0)) L=true:=l9 (by simp only[dC];omega);have v:fE (bI H) 0 (n:Int)=true:=fO (by omega) (by omega) (by rw[bK];omega);have y:sub H 0 (n:Int)=H.take n:=by simp[sub]
  have z:di .i64 a 1=a+1:=dn;have A:dC (H.getD n 0)<L.length:=by simp only[dC];omega
  have iV: ∀x,dJ (gX L (dC (H.getD n 0)) x) (0,(0,(0,(0,(false,()))))) (dC (H.getD n 0))=x:=fun x=>FY A;have go:=afd F d f hF N n (Po L (H.getD n 0).toNat (a+1)) (H.take n) (by omega) (by grind) (by omega) (by rw[F8];exact hL)
   (fun j G=>by grind [F8])
  (rewrite [J7,QQ];delta Gl wE wC jk;rw[o5])
  simp only[i,q,s,u,hl,v,y,z,ajw,akx,iV,afe,aa];rw[bV (eH),bV (dV),bV (l9 (by assumption))];by_cases e:n+1<=F.length
  .rw[bV (lQ (by rw[bK];omega)),bV (dV)];by_cases e2:(F.getD n dF).2.1=(dJ L dP (H.getD n 0).toNat).2.1
   .rw[am ⟨e,e2⟩];exact bV (fK e2)
   .rw[aq (fun h=>e2 h.2)];exact(dI (dX e2)).trans go
  .rw[dI (zX (by rw[bK];omega)),aq (fun h=>e h.1)];exact go
theorem afc (F:List GI) (H:List Int) (hF:F.length<1000000) (e:H.length<1000000): ∀(k i N:Nat) (L:List kP),i+k=H.length->H.length<=F.length->L.length<1000000->(∀j∈H,0<=j/\j<L.length)->
  sW (N+k) F (bI F) (i:Int) L H=sW N F (bI F) (H.length:Int) (Af F H k i L) H
 |0,i,N,L,h,_,_,_=>by simp_all [Af]
 |k+1,i,N,L,h,f,hL,g=>by
  have u:i<H.length:=by omega
  have l:H.getD i 0∈H:=by simp_all
  obtain⟨o,p⟩:=g _ l;have q:dJ H 0 (dC (i:Int))=H.getD i 0:=rfl;have s:dw F (0,(0,())) (i:Int)=F.getD i dF:=rfl;have d:fD L (H.getD i 0)=true:=dV o p;have hl:lZ (dC (H.getD i 0)) L=true:=l9 (by simp only[dC];omega);have go:=afc F H hF e k (i+1) N (WS L (H.getD i 0).toNat (counts (F.getD i dF).1)) (by omega) f (by rw[FU];exact hL) (fun j v=>by grind [FU])
  (rewrite [show N+(k+1)=(N+k)+1 by omega,sW,CJ];delta lU lT kw;rw[Af,<-go])
  rw[bV (eH (by rw[bK];omega)),bV (dV),bV (eH (by rw[bK];omega)),bV (dV),bV (l9 (by assumption)),acX,bG,q,d,hl];simp only[ajw,d,aa,ac3,ay,s];rw[dn,show(i:Int)+1=((i+1:Nat):Int) by omega];rfl
theorem MV (F:List GI) (H:List Int): ∀(k i:Nat) (L:List kP),(Af F H k i L).length=L.length
 |0,_,_=>rfl
 |k+1,i,L=>by rw[Af,MV F H k,FU]
theorem ND (F:List GI) (a:Int): ∀(n:Nat) (L:List kP) (H:List Int),(o5 F a n L H).1.length=L.length/\(o5 F a n L H).2.length<=H.length/\(∀j∈(o5 F a n L H).2,j∈H)
 |0,_,H=>⟨rfl,ae _,fun _ h=>h⟩
 |n+1,L,H=>by
  rw[o5];split
  .simp
  .have h:=ND F a n (Po L (H.getD n 0).toNat (a+1)) (H.take n)
   grind [F8]
def abH (L:List kP) (H:List Int) (F:List GI) (a:Int):List kP×List Int:=
 let r:=o5 F a H.length L H
 let d:=Af F r.2 r.2.length 0 r.1
 if F.length=r.2.length then(d,r.2)
 else(d++[(counts (F.getD r.2.length dF).1,((F.getD r.2.length dF).2.1,(0,((if r.2.length=0 then-1 else r.2.getD (r.2.length-1) 0),(true,())))))],r.2++[(d.length:Int)])
theorem aIL {L:List kP} {H:List Int} {F:List GI} {t:GI} {a:Int} (i:0<=a) (o:a<1000000) (hF:F.length<1000000) (hL:L.length<1000000) (p:H.length<1000000) (q: ∀j∈H,0<=j/\j<L.length)
  (s:(o5 F a H.length L H).2.length<=F.length) (h2:F.length<=(o5 F a H.length L H).2.length+1):
  adu L H (t::F) a=some (((abH L H F a).1,((abH L H F a).2,())),()):=by
 have G:=ND F a H.length L H;have u:sub (t::F) 1 (bI (t::F))=F:=by simp[sub,bI]
 have v:=afd F i o hF bM H.length L H (dK) rfl p hL q;unfold adu;rw[bV (fO (by omega) (by rw[bK];simp;omega) (by rw[bK];omega)),u,bK (l:=H),v,bG];simp only[dN];unfold abH;generalize hr:o5 F a H.length L H=r at*;have y: ∀j∈r.2,0<=j/\j<r.1.length:=fun j I=>by simp_all
 have J:=MV F r.2 r.2.length 0 r.1;obtain⟨K,z⟩: ∃K,bM=(K+2)+r.2.length:=⟨bM-2-r.2.length,by have:=dK (n:=r.2.length+2) (by omega);omega⟩;have g:=afc F r.2 hF (by omega) r.2.length 0 (K+2) r.1 (by omega) s (by omega) y;rw[<-z]at g;rw[show(0:Int)=((0:Nat):Int) from rfl,g];by_cases e:F.length=r.2.length
 ·(rewrite [sW,CJ];delta lU lT kw;rw[dI (ig (by rw[bK];omega)),am e,bG])
 .rw[aq e];have M:r.2.length<F.length:=by omega
  generalize N:Af F r.2 r.2.length 0 r.1=L2 at*;have A:dw F (0,(0,())) (r.2.length:Int)=F.getD r.2.length dF:=rfl;have B: ∀x:kP,dY (bT L2 [x]) 40=true:=fun x=>by simp only[dY,bT,ai,aH,List.length_nil,decide_eq_true_eq,kH];omega
  have D: ∀x:Int,dY (bT r.2 [x]) 8=true:=fun x=>by simp only[dY,bT,ai,aH,List.length_nil,decide_eq_true_eq,kH];omega
  have h: ∀f d,(d.length:Int)=r.2.length+1->sW (K+1) F (bI F) (di .i64 (r.2.length:Int) 1) f d=some (.inl ((),((),()),((),f,d,()))):=fun f d O=>by
   (rewrite [sW,CJ];delta lU lT kw;rw[dI (ig (by grind [bK,dn]))])
  (rewrite [sW,CJ];delta lU lT kw;rw[bV (eH (by rw[bK];omega)),bV (dV),dI (ig (by rw[bK];omega))])
  simp only[A,acX,bG,eP,B,D,ay,aa,iC];by_cases e0:r.2.length=0
  .rw[dI (ig),am e0,h _ _ (by simp[bT]),bG];rfl
  .have E:eU .i64 (r.2.length:Int) 1=((r.2.length-1:Nat):Int):=by grind [iw]
   rw[bV (eH),E,bV (dV),bV (l9 (by simp only[dC];omega)),aq e0,h _ _ (by simp[bT]),bG];rfl
end
section
open Go.RowKit
def qi (s:fQ):List GI:=(s.dropLast.map fun f=>(f.1,f.2,())).reverse
def CY (s:fQ):List Int:=(s.dropLast.map (·.2)).reverse
theorem tq (s:fQ):(qi s).map (·.2.1)=CY s:=by
 simp only[qi,CY,List.map_reverse,List.map_map];rfl
theorem aD9 {s:fQ} (d:iF s): ∃t:GI,lo s=t::qi s:=by
 have e:s≠[]:=by rintro rfl;exact d
 grind [List.dropLast_concat_getLast,lo,qi]
theorem aeT (f:qm) {r:fQ} (h:r≠[]):CY (f::r)=CY r++[f.2]:=by
 cases r with
 |nil=>exact absurd rfl h
 |cons g r=>simp[CY]
theorem aAM (pre:fQ) (f:qm) (r:fQ): ∃l,CY (pre++f::r)=CY (f::r)++l:=by
 induction pre with
 |nil=>simp
 |cons g pre d=>
  obtain⟨l,h⟩:=d;simp_all [aeT]
def Shape (s y:fQ) (at_:Int):Prop:= ∃e f r d,s=e++f::r/\(y=(d,f.2)::r\/ ∃g,y=(g,at_)::(d,f.2)::r)
theorem yD {m:Int} {f:Int×Int} {r:fQ} (hr:m=0\/r≠[]) (fr:Bool) (b at_:Int):Shape (f::r) (jm m (f::r) fr b at_).1 at_:=by
 have d:Shape (f::r) (f::r) at_:=⟨[],f,r,f.1,rfl,.inl rfl⟩;have push: ∀k,Shape (f::r) ((k,at_)::f::r) at_:=fun k=>⟨[],f,r,f.1,rfl,.inr ⟨k,rfl⟩⟩;have e: ∀k,Shape (f::r) ((k,f.2)::r) at_:=fun k=>⟨[],f,r,k,rfl,.inl rfl⟩;have i:m≠0->Shape (f::r) r at_:=fun h=>by
  cases r with
  |nil=>simp_all
  |cons g r=>exact⟨[f],g,r,g.1,rfl,.inl rfl⟩
 unfold jm KH Il;rcases nZ b with rfl|rfl|rfl|rfl|rfl|rfl|rfl|rfl|rfl|rfl|rfl|⟨j,l,o,p,q,s,u,v,x,y,z⟩<;>cases fr<;>simp_all<;>
  (repeat' split)<;>first|assumption|exact push _|exact e _|(exact i (by omega))|(simp_all;done)|exact d|skip
theorem aoE {pre s y:fQ} {at_:Int} (h:Shape s y at_):Shape (pre++s) y at_:=by
 obtain⟨p,f,r,d,g,e⟩:=h;exact⟨pre++p,f,r,d,by simp_all,e⟩
theorem UI {a:Int} {f:Int×Int} {r y:fQ} {at_:Int} (h:Shape ((a,f.2)::r) y at_):Shape (f::r) y at_:=by
 obtain⟨p,g,o,e,i,j⟩:=h;cases p with
 |nil=>
  obtain⟨l,d⟩:=List.cons.inj i;subst l d;exact⟨[],f,r,e,rfl,j⟩
 |cons q p=>
  obtain⟨l,d⟩:=List.cons.inj i;exact⟨f::p,g,o,e,by rw[d];rfl,j⟩
theorem aic {s:fQ} (d:iF s) (fr:Bool) (b at_:Int):Shape s (gm s fr b at_).1 at_:=by
 cases s with
 |nil=>cases d
 |cons f r=>
 have j: ∀k,Shape (f::r) ((k,f.2)::r) at_:=fun k=>⟨[],f,r,k,rfl,.inl rfl⟩;have l: ∀g i,r=g::i->Shape (f::r) r at_:=fun g i h=>by rw[h];exact⟨[f],g,i,g.1,rfl,.inl rfl⟩
 simp only[gm];split
 .rename_i e
  have hr:r≠[]:=oK d (by omega);cases r with
  |nil=>exact absurd rfl hr
  |cons g r=>
  split
  .exact j 3
  .split
   .split<;>exact j _
   .split
    .exact l g r rfl
    .have o:=Fb d hr;refine aoE (pre:=[f]) (yD ?_ fr b at_)
     grind [oK]
 .split
  .grind [oK,UI,yD]
  .split
   .rename_i e
    have hr:r≠[]:=oK d (by omega);split
    .cases r with
     |nil=>exact absurd rfl hr
     |cons g r=>exact l g r rfl
    grind [UI,yD]
   grind [yD,oK]
theorem KG {s:fQ} (d:iF s) (fr:Bool) (b at_:Int): ∃c,c<=(CY s).length/\(CY (gm s fr b at_).1=(CY s).take c\/CY (gm s fr b at_).1=(CY s).take c++[at_]):=by
 obtain⟨e,f,r,i,j,o⟩:=aic d fr b at_;obtain⟨l,hl⟩:=aAM e f r;rw[<-j]at hl;have p:CY ((i,f.2)::r)=CY (f::r):=by
  cases r with
  |nil=>rfl
  |cons g r=>rfl
 refine⟨(CY (f::r)).length,by rw[hl];simp, ?_⟩;rw[hl,List.take_left']
 .rcases o with h|⟨q,h⟩
  .simp_all
  .rw[h,aeT _ (by simp),p];exact .inr rfl
 .rfl
end
section
open Int renaming toNat_natCast → aZ
open List renaming length_append → ai, length_map → aK
open Nat renaming le_refl → ae, lt_or_ge → aI
open Go.RowKit
theorem akA {e:Type} {l:List e} {d:e} {i:Nat} (h:l.length<=i):dJ l d i=d:=by
 simp_all [dJ]
theorem oQ {e:Type} {l:List e} {d:e} {i:Nat} (h:i<l.length):dJ l d i=l[i]:=by
 simp_all [dJ]
theorem getD_take {e:Type} {l:List e} {d:e} {i n:Nat} (h:i<n):(l.take n).getD i d=l.getD i d:=by
 simp_all
theorem IB {e:Type} {l:List e} {d x:e} {i j:Nat} (h:i≠j):dJ (gX l i x) d j=dJ l d j:=by
 simp_all [dJ,gX]
def KR (a:Int) (p:kP):kP:=(p.1,p.2.1,a,p.2.2.2.1,false,())
theorem F9 (L:List kP) (j:Nat) (a:Int) (k:Nat) (d:j<L.length):dJ (Po L j a) dP k=if j=k then KR a (dJ L dP k)else dJ L dP k:=by
 unfold Po;by_cases h:j=k
 .subst h;rw[am rfl,FY d];rfl
 .rw[aq h,IB h]
theorem MW (L:List kP) (j:Nat) (m:Int) (k:Nat) (d:j<L.length):dJ (WS L j m) dP k=if j=k then(m,(dJ L dP k).2)else dJ L dP k:=by
 unfold WS;by_cases h:j=k
 .subst h;rw[am rfl,FY d]
 .rw[aq h,IB h]
theorem UK (F:List GI) (a:Int) (H:List Int) (c:Nat) (l: ∀n,n<H.length->0<=H.getD n 0): ∀(n:Nat) (L:List kP),c<=n->n<=H.length->
  (∀m,m<n->(H.getD m 0).toNat<L.length)->
  (∀m,m<c->m<F.length/\(F.getD m dF).2.1=(dJ L dP (H.getD m 0).toNat).2.1)->
  (∀m,c<=m->m<n-> ¬(m+1<=F.length/\(F.getD m dF).2.1=(dJ L dP (H.getD m 0).toNat).2.1))->
  (o5 F a n L (H.take n)).2=H.take c/\
  (∀j,(∃m,c<=m/\m<n/\(H.getD m 0).toNat=j)->dJ (o5 F a n L (H.take n)).1 dP j=KR (a+1) (dJ L dP j))/\
  (∀j,(∀m,c<=m->m<n->(H.getD m 0).toNat≠j)->dJ (o5 F a n L (H.take n)).1 dP j=dJ L dP j)
 |0,L,o,p,hl,q,g=>by
  have:c=0:=by omega
  subst this;exact⟨rfl,fun j ⟨m,_,h,_⟩=>by omega,fun j _=>rfl⟩
 |n+1,L,o,p,hl,q,g=>by
  rw[o5,getD_take (by omega)];by_cases e:c=n+1
  .grind
  .have s:=g n (by omega) (by omega);have f:=hl n (by omega);have z: ∀k,(dJ (Po L (H.getD n 0).toNat (a+1)) dP k).2.1=(dJ L dP k).2.1:=fun k=>by
    rw[F9 _ _ _ _ f];split<;>rfl
   rw[aq s,List.take_take,show min n (n+1)=n by omega];obtain⟨u,v,x⟩:=UK F a H c l n (Po L (H.getD n 0).toNat (a+1)) (by omega) (by omega) (fun m i=>by grind [F8])
    (fun m i=>by grind) (fun m i y=>by grind)
   refine⟨u,fun j d=> ?_,fun j d=> ?_⟩
   .by_cases hq: ∃m,c<=m/\m<n/\(H.getD m 0).toNat=j
    .rw[v j hq,F9 _ _ _ _ f];split<;>rfl
    .obtain⟨m,A,y,B⟩:=d;have:m=n:=by
      grind
     simp_all [F9]
   .rw[x j (fun k hk D=>d k hk (by omega)),F9 _ _ _ _ f,aq (d n (by omega) (by omega))]
theorem TS (F:List GI) (H:List Int) (f: ∀m n,m<H.length->n<H.length->(H.getD m 0).toNat=(H.getD n 0).toNat->m=n): ∀(k i:Nat) (L:List kP),i+k<=H.length->
  (∀m,m<H.length->(H.getD m 0).toNat<L.length)->
  (∀m,i<=m->m<i+k->dJ (Af F H k i L) dP (H.getD m 0).toNat=(counts (F.getD m dF).1,(dJ L dP (H.getD m 0).toNat).2))/\
  (∀j,(∀m,i<=m->m<i+k->(H.getD m 0).toNat≠j)->dJ (Af F H k i L) dP j=dJ L dP j)
 |0,i,L,h,hl=>⟨fun m o p=>by omega,fun j _=>rfl⟩
 |k+1,i,L,h,hl=>by
  have d:=hl i (by omega);obtain⟨q,g⟩:=TS F H f k (i+1) (WS L (H.getD i 0).toNat (counts (F.getD i dF).1)) (by omega) (fun m s=>by grind [FU]);rw[Af];refine⟨fun m o p=> ?_,fun j l=> ?_⟩
  .by_cases e:m=i
   .subst e;rw[g _ (fun k hk v x=>by grind),MW _ _ _ _ d,am rfl]
   .rw[q m (by omega) (by omega),MW _ _ _ _ d,aq (fun u=>e (f i m (by omega) (by omega) u).symm)]
  .rw[g j (fun m s y=>l m (by omega) (by omega)),MW _ _ _ _ d,aq (l i (by omega) (by omega))]
def GL (F:List GI) (v:Int):Option Int:=(F.find? fun f=>f.2.1==v).map (·.1)
theorem Sz {F:List GI} (hd: ∀m n,m<F.length->n<F.length->(F.getD m dF).2.1=(F.getD n dF).2.1->m=n) {m:Nat} (d:m<F.length):GL F (F.getD m dF).2.1=some (F.getD m dF).1:=by
 have e: ∃f,F.find? (fun f=>f.2.1==(F.getD m dF).2.1)=some f:=by
  cases h:F.find? (fun f=>f.2.1==(F.getD m dF).2.1)with
  |some f=>exact⟨f,rfl⟩
  |none=>
   grind
 grind [List.getElem_of_mem,GL]
theorem Ij {F:List GI} {v:Int} (h: ∀m,m<F.length->(F.getD m dF).2.1≠v):GL F v=none:=by
 grind [GL,List.getElem_of_mem]
def nM (F:List GI) (a:Int) (p:kP):kP:=
 if p.2.2.2.2.1=true then(match GL F p.2.1 with
  |some m=>(counts m,p.2)
  |none=>KR (a+1) p)else p
def Zd (F:List GI) (a:Int):Bool:=match F.getLast? with
 |some f=>decide (f.2.1=a)
 |none=>false
def ata (L:List Int) (v:Int):Int:=((L.findIdx fun p=>p==v:Nat):Int)
def yX (F:List GI) (a:Int) (fr:List Int):kP:=(counts (F.getLastD dF).1,a,0,(if F.length=1 then-1 else ata fr (F.getD (F.length-2) dF).2.1),true,())
def Ou (F:List GI) (a:Int) (L:List kP):List kP:=L.map (nM F a)++if Zd F a=true then [yX F a (L.map (·.2.1))]else []
structure Inv (L:List kP) (H:List Int) (F:List GI) (k:Int):Prop where
 len:H.length=F.length
 nn: ∀n,n<H.length->0<=H.getD n 0/\(H.getD n 0).toNat<L.length
 frm: ∀n,n<H.length->(dJ L dP (H.getD n 0).toNat).2.1=(F.getD n dF).2.1/\(dJ L dP (H.getD n 0).toNat).2.2.2.2.1=true
 opn: ∀j,(dJ L dP j).2.2.2.2.1=true-> ∃n,n<H.length/\(H.getD n 0).toNat=j
 lt: ∀j,j<L.length->(dJ L dP j).2.1<k
 inj: ∀i j,i<L.length->j<L.length->(dJ L dP i).2.1=(dJ L dP j).2.1->i=j
 fd: ∀m n,m<F.length->n<F.length->(F.getD m dF).2.1=(F.getD n dF).2.1->m=n
theorem Inv.hd {L:List kP} {H:List Int} {F:List GI} {k:Int} (h:Inv L H F k): ∀m n,m<H.length->n<H.length->(H.getD m 0).toNat=(H.getD n 0).toNat->m=n:=fun m n d f e=>by
 have g:=(h.frm m d).1;have i:=(h.frm n f).1;rw[e,i]at g;exact(h.fd n m (by rw[<-h.len];exact f) (by rw[<-h.len];exact d) g).symm
theorem rV {F:List GI} {n:Nat} (h:n<F.length:=by omega):(F.getD n dF).2.1=(F.map (·.2.1)).getD n 0:=by
 simp_all
theorem ayl {f:Type} {d:f} {l e:List f} (h:l.length=e.length) (h2: ∀j,j<l.length->dJ l d j=dJ e d j):l=e:=by
 grind [List.ext_getElem,oQ]
theorem adH {L:List kP} (d: ∀i j,i<L.length->j<L.length->(dJ L dP i).2.1=(dJ L dP j).2.1->i=j) {j:Nat} (e:j<L.length):ata (L.map (·.2.1)) (dJ L dP j).2.1=(j:Int):=by
 have f: ∀i,i<L.length->(L.map (·.2.1))[i]? =some (dJ L dP i).2.1:=fun i g=>by
  simp_all [oQ]
 unfold ata
 grind
theorem avZ {L:List kP} {H:List Int} {F g:List GI} {k:Int} (h:Inv L H F k) {c:Nat} (hc:c<=F.length)
  (hF:g.map (·.2.1)=(F.map (·.2.1)).take c\/g.map (·.2.1)=(F.map (·.2.1)).take c++[k]):
  (o5 g k H.length L H).2.length<=g.length/\g.length<=(o5 g k H.length L H).2.length+1/\
  (abH L H g k).1=Ou g k L/\Inv (abH L H g k).1 (abH L H g k).2 g (k+1):=by
 have aU:g.length=c\/g.length=c+1:=by
  have q:g.length=(g.map (·.2.1)).length:=(aK ..).symm;rcases hF with e|e<;>rw[q,e]<;>simp<;>omega
 have aF:c<=H.length:=by rw[h.len];exact hc
 have v: ∀m,m<c->m<g.length/\(g.getD m dF).2.1=(F.getD m dF).2.1:=fun m s=>by
  refine⟨by omega, ?_⟩;rw[rV,rV (F:=F) (by omega)];rcases hF with e|e
  .rw[e,getD_take s]
  .rw[e,List.getD_eq_getElem?_getD,List.getElem?_append_left (by simp;omega),<-List.getD_eq_getElem?_getD,getD_take s]
 have E:c<g.length->(g.getD c dF).2.1=k:=fun s=>by
  rcases hF with e|e
  .have:g.length=(g.map (·.2.1)).length:=(aK ..).symm;rw[e]at this;simp at this;omega
  .rw[rV s,e,List.getD_eq_getElem?_getD,List.getElem?_append_right (by simp;omega)];simp[Nat.min_eq_left hc]
 have G: ∀m,m<F.length->(F.getD m dF).2.1<k:=fun m s=>by
  rw[<-(h.frm m (by rw[h.len];exact s)).1];exact h.lt _ (h.nn m (by rw[h.len];exact s)).2
 obtain⟨Y,s2,s3⟩:=UK g k H c (fun n o=>(h.nn n o).1) H.length L aF (ae _) (fun m s=>(h.nn m s).2)
  (fun m s=>⟨(v m s).1,(v m s).2.trans (h.frm m (by omega)).1.symm⟩)
  (fun m aV N ⟨hl,y⟩=>by
   have s:m=c:=by omega
   subst s;rw[E (by omega),(h.frm m N).1]at y;have:=G m (by rw[<-h.len];exact N);omega)
 rw[List.take_length]at Y s2 s3;have ad:=(ND g k H.length L H).1;have z:(H.take c).length=c:=by rw[List.length_take];omega
 have A: ∀m,m<c->(H.take c).getD m 0=H.getD m 0:=fun m s=>getD_take s;obtain⟨m1,m2⟩:=TS g (H.take c) (fun m n s o e=>by
   rw[z]at s o;rw[A m s,A n o]at e;exact h.hd m n (by omega) (by omega) e) c 0 (o5 g k H.length L H).1 (by omega) (fun m s=>by
   rw[z]at s;rw[A m s,ad];exact(h.nn m (by omega)).2)
 have an:=MV g (H.take c) c 0 (o5 g k H.length L H).1;have aG: ∀j,j<L.length->dJ (Af g (H.take c) c 0 (o5 g k H.length L H).1) dP j=nM g k (dJ L dP j):=fun j u=>by
  unfold nM;have V: ∀m n,m<g.length->n<g.length->(g.getD m dF).2.1=(g.getD n dF).2.1->m=n:=fun m n s o e=>by
   rcases aI m c with q|q<;>rcases aI n c with x|x
   .rw[(v m q).2,(v n x).2]at e;exact h.fd m n (by omega) (by omega) e
   .have:n=c:=by omega
    subst this;rw[(v m q).2,E o]at e;have:=G m (by omega);omega
   .have:m=c:=by omega
    subst this;rw[(v n x).2,E s]at e;have:=G n (by omega);omega
   .omega
  by_cases B:(dJ L dP j).2.2.2.2.1=true
  .rw[am B];obtain⟨n,o,I⟩:=h.opn j B;have af:=(h.frm n o).1;rw[I]at af;rcases aI n c with J|J
   .have e:=m1 n (by omega) (by omega);rw[A n J,I]at e;rw[e,s3 j (fun m s N O=>by have:=h.hd m n N o (O.trans I.symm);omega),af,<-(v n J).2,Sz V (v n J).1]
   .rw[m2 j (fun m _ s O=>by rw[A m (by omega)]at O;have:=h.hd m n (by omega) o (O.trans I.symm);omega),s2 j ⟨n,J,o,I⟩,Ij];intro m s e;rw[af]at e;rcases aI m c with q|q
    .rw[(v m q).2]at e;have:=h.fd m n (by omega) (by rw[<-h.len];exact o) e;omega
    .have:m=c:=by omega
     subst this;rw[E s]at e;have:=G n (by rw[<-h.len];exact o);omega
  .rw[aq B];have ao: ∀m,m<H.length->(H.getD m 0).toNat≠j:=fun m s e=>B (by rw[<-e];exact(h.frm m s).2);rw[m2 j (fun m _ s O=>ao m (by omega) (by rw[<-A m (by omega)];exact O)),s3 j (fun m _ s=>ao m s)]
 have aH:Af g (H.take c) c 0 (o5 g k H.length L H).1=L.map (nM g k):=ayl (d:=dP) (by rw[an,ad,aK]) fun j u=>by
  rw[an,ad]at u;rw[aG j u,oQ (l:=L.map _) (by rw[aK];exact u),List.getElem_map,oQ u]
 have D: ∀p,(nM g k p).2.1=p.2.1:=fun p=>by
  unfold nM;split
  .split<;>rfl
  .rfl
 have au:(abH L H g k)=if g.length=c then(L.map (nM g k),H.take c)else
   (L.map (nM g k)++[(counts (g.getD c dF).1,((g.getD c dF).2.1,(0,((if c=0 then-1 else(H.take c).getD (c-1) 0),(true,())))))],H.take c++[(L.length:Int)]):=by
  unfold abH;simp only[Y,z,aH,aK]
 have aJ: ∀p,(nM g k p).2.2.2.2.1=true->p.2.2.2.2.1=true/\ ∃m,GL g p.2.1=some m:=fun p S=>by
  unfold nM at S;split at S
  .rename_i B
   split at S
   .rename_i m s;exact⟨B,m,s⟩
   .cases S
  .rename_i B;exact absurd S B
 have V: ∀m n,m<g.length->n<g.length->(g.getD m dF).2.1=(g.getD n dF).2.1->m=n:=fun m n s o e=>by
  rcases aI m c with q|q<;>rcases aI n c with x|x
  .rw[(v m q).2,(v n x).2]at e;exact h.fd m n (by omega) (by omega) e
  .have:n=c:=by omega
   subst this;rw[(v m q).2,E o]at e;have:=G m (by omega);omega
  .have:m=c:=by omega
   subst this;rw[(v n x).2,E s]at e;have:=G n (by omega);omega
  .omega
 have U: ∀j,j<L.length->dJ (L.map (nM g k)) dP j=nM g k (dJ L dP j):=fun j u=>by
  rw[oQ (l:=L.map _) (by rw[aK];exact u),List.getElem_map,oQ u]
 have av:Ou g k L=L.map (nM g k)++if Zd g k=true then [yX g k (L.map (·.2.1))]else []:=rfl
 have aw: ∀n,n<c->(nM g k (dJ L dP (H.getD n 0).toNat)).2.1=(g.getD n dF).2.1/\(nM g k (dJ L dP (H.getD n 0).toNat)).2.2.2.2.1=true:=fun n o=>by
  have K:=h.frm n (by omega);refine⟨by rw[D,K.1,(v n o).2], ?_⟩;unfold nM;rw[am K.2,K.1,<-(v n o).2,Sz V (v n o).1];exact K.2
 have ax: ∀j,j<L.length->(nM g k (dJ L dP j)).2.2.2.2.1=true-> ∃n,n<c/\(H.getD n 0).toNat=j:=fun j u B=>by
  obtain⟨q,m,s⟩:=aJ _ B;obtain⟨n,o,I⟩:=h.opn j q;have K:=(h.frm n o).1;rw[I]at K;rcases aI n c with J|J
  .exact⟨n,J,I⟩
  .rw[K,Ij]at s
   .cases s
   .intro m N e;rcases aI m c with q|q
    .rw[(v m q).2]at e;have:=h.fd m n (by omega) (by rw[<-h.len];exact o) e;omega
    .have:m=c:=by omega
     subst this;rw[E N]at e;have:=G n (by rw[<-h.len];exact o);omega
 have ay: ∀{l:List kP} {j:Nat},(dJ l dP j).2.2.2.2.1=true->j<l.length:=fun {l j} u=>by
  rcases aI j l.length with q|q
  .exact q
  .rw[akA q]at u;cases u
 refine⟨by rw[Y,z];omega,by rw[Y,z];omega, ?_⟩;by_cases e:g.length=c
 .have ag:Zd g k=false:=by
   unfold Zd;cases hl:g.getLast? with
   |none=>rfl
   |some f=>
    have aO:g≠[]:=by rintro rfl;cases hl
    have S:0<g.length:=List.length_pos_iff.2 aO;have:g.getD (c-1) dF=f:=by
     rw[List.getLast?_eq_getElem?,e]at hl;rw[List.getD_eq_getElem?_getD,hl];rfl
    have x:=(v (c-1) (by omega)).2;rw[this]at x;have:=G (c-1) (by omega);exact decide_eq_false (by omega)
  rw[au,am e,av,ag];refine⟨by simp, ?_⟩;exact {
   len:=by rw[z,e]
   nn:=fun n o=>by rw[z]at o;rw[A n o,aK];exact h.nn n (by omega)
   frm:=fun n o=>by
    rw[z]at o;rw[A n o,U _ (h.nn n (by omega)).2];exact aw n o
   opn:=fun j u=>by
    have hl:=ay u;rw[aK]at hl;rw[U j hl]at u;obtain⟨n,o,y⟩:=ax j hl u;exact⟨n,by rw[z];exact o,by rw[A n o];exact y⟩
   lt:=fun j u=>by
    rw[aK]at u;rw[U j u,D];have:=h.lt j u;omega
   inj:=fun i j W u y=>by
    rw[aK]at W u;rw[U i W,U j u,D,D]at y;exact h.inj i j W u y
   fd:=V}
 .have az:g.length=c+1:=by omega
  have aA:g.getLast?=some (g.getD c dF):=by
   rw[List.getLast?_eq_getElem?,az,List.getD_eq_getElem?_getD,show c+1-1=c by omega,List.getElem?_eq_getElem (by omega)];rfl
  have aP:g.getLastD dF=g.getD c dF:=by rw[List.getLastD_eq_getLast?,aA];rfl
  have ah:=E (by omega);have ag:Zd g k=true:=by unfold Zd;rw[aA];exact decide_eq_true ah
  have aQ:(if c=0 then-1 else(H.take c).getD (c-1) 0)=(if g.length=1 then-1 else ata (L.map (·.2.1)) (g.getD (g.length-2) dF).2.1):=by
   by_cases c0:c=0
   .rw[am c0,am (by omega)]
   .have o:=h.nn (c-1) (by omega);rw[aq c0,aq (by omega),A _ (by omega),show g.length-2=c-1 by omega,(v (c-1) (by omega)).2,<-(h.frm (c-1) (by omega)).1,adH h.inj o.2];omega
  have aS:(counts (g.getD c dF).1,((g.getD c dF).2.1,((0:Int),((if c=0 then-1 else(H.take c).getD (c-1) 0),(true,())))))=yX g k (L.map (·.2.1)):=by
   unfold yX;rw[aQ,aP,ah]
  rw[au,aq e,av,ag,aS];refine⟨by simp, ?_⟩;have Z:(L.map (nM g k)++[yX g k (L.map (·.2.1))]).length=L.length+1:=by simp
  have M: ∀j,j<L.length->dJ (L.map (nM g k)++[yX g k (L.map (·.2.1))]) dP j=nM g k (dJ L dP j):=fun j u=>by
   rw[<-U j u];unfold dJ;rw[List.getD_eq_getElem?_getD,List.getD_eq_getElem?_getD,List.getElem?_append_left (by rw[aK];exact u)]
  have ab:dJ (L.map (nM g k)++[yX g k (L.map (·.2.1))]) dP L.length=yX g k (L.map (·.2.1)):=by
   unfold dJ;rw[List.getD_eq_getElem?_getD,List.getElem?_append_right (by simp)];simp
  have aj: ∀n,n<c->(H.take c++[(L.length:Int)]).getD n 0=H.getD n 0:=fun n o=>by
   rw[<-A n o,List.getD_eq_getElem?_getD,List.getD_eq_getElem?_getD,List.getElem?_append_left (by rw[z];exact o)]
  have ak:(H.take c++[(L.length:Int)]).getD c 0=L.length:=by
   rw[List.getD_eq_getElem?_getD,List.getElem?_append_right (by rw[z];omega)];simp[z]
  have X:(H.take c++[(L.length:Int)]).length=c+1:=by rw[ai,z];rfl
  have aB: ∀n,n<c+1->n<c\/n=c:=fun n o=>by omega
  have al:(yX g k (L.map (·.2.1))).2.1=k:=rfl;exact {
   len:=by rw[X,az]
   nn:=fun n o=>by
    rw[X]at o;rw[Z];rcases aB n o with q|rfl
    .rw[aj n q];have:=h.nn n (by omega);omega
    .rw[ak];omega
   frm:=fun n o=>by
    rw[X]at o;rcases aB n o with q|rfl
    .rw[aj n q,M _ (h.nn n (by omega)).2];exact aw n q
    .rw[ak,aZ,ab];exact⟨ah.symm,rfl⟩
   opn:=fun j u=>by
    have hl:=ay u;rw[Z]at hl;rcases aI j L.length with q|q
    .rw[M j q]at u;obtain⟨n,o,y⟩:=ax j q u;exact⟨n,by rw[X];omega,by rw[aj n o];exact y⟩
    .exact⟨c,by rw[X];omega,by rw[ak];omega⟩
   lt:=fun j u=>by
    rw[Z]at u;rcases aI j L.length with q|q
    .rw[M j q,D];have:=h.lt j q;omega
    .rw[show j=L.length by omega,ab,al];omega
   inj:=fun i j W u y=>by
    rw[Z]at W u;rcases aI i L.length with q|q<;>rcases aI j L.length with x|x
    .rw[M i q,M j x,D,D]at y;exact h.inj i j q x y
    .rw[M i q,D,show j=L.length by omega,ab,al]at y;have:=h.lt i q;omega
    .rw[M j x,D,show i=L.length by omega,ab,al]at y;have:=h.lt j x;omega
    .omega
   fd:=V}
end
section
open Bool renaming and_true → ay
open List renaming drop_eq_getElem_cons → aA, drop_zero → aJ, length_map → aK, eq_nil_of_length_eq_zero → bD
open Go.RowKit
def rY:bZ->Int->fQ×Bool->List kP->List kP
 |[],_,_,L=>L
 |b::l,a,x,L=>rY l (a+1) (gm x.1 x.2 (jA b) a) (Ou (qi (gm x.1 x.2 (jA b) a).1) a L)
def uu (s:bZ) (p:kP):kP:=if p.1=12 then(p.1,p.2.1,p.2.1+1+((prl (s.drop (p.2.1+1).toNat):Nat):Int),p.2.2.2.1,false,())else if p.2.2.2.2.1=true then(p.1,p.2.1,(s.length:Int),p.2.2.2.1,true,())else p
def dm (s:bZ):List kP:=(rY s 0 fH []).map (uu s)
theorem anV (F:List GI) (a:Int) (L:List kP):(Ou F a L).length<=L.length+1:=by
 grind [Ou]
theorem JJ (s:fQ):(qi s).length<=s.length:=by simp[qi]
theorem ax6 {l:List GI} (h:l.length<1000000):oI l=some (l,()):=by
 grind [oI,rJ,dY,kH]
theorem axL (s:bZ) (u:s.length<=100000): ∀(N:Nat) (i:Int) (x:fQ×Bool) (L:List kP) (H:List Int),(s.length:Int)-i<N->0<=i->i<=s.length->iF x.1->(x.1.length:Int)<=i+1->Inv L H (qi x.1) i->(L.length:Int)<=i->
  ∃f o,J6 N s (bI s) i x.2 i (lo x.1) H L=some (.inl ((s,()),(f,rY (s.drop i.toNat) i x L,(),())))/\Inv (rY (s.drop i.toNat) i x L) f o s.length/\(rY (s.drop i.toNat) i x L).length<=s.length
 |0,i,x,L,H,h,_,_,_,_,_,_=>by omega
 |N+1,i,x,L,H,h,h0,B,g,hl,l,D=>by
  rw[J6,QM];by_cases e:i<s.length
  .obtain⟨b,hd,E⟩:=drop_at h0 e;have d:=good_step g x.2 (bY s i) i;have G:(lo (gm x.1 x.2 (bY s i) i).1).length≠0:=by
    rw[pg];intro e;rw[bD e]at d;exact d.1
   obtain⟨c,p,q⟩:=KG g x.2 (bY s i) i;rw[<-tq,<-tq]at q;rw[<-tq,aK]at p;obtain⟨v,y,I,J⟩:=avZ l p q;obtain⟨t,K⟩:=aD9 d.1;have M:=JJ (gm x.1 x.2 (bY s i) i).1;have O:=JJ x.1;have S:=l.len;have U:=aIL (t:=t) (L:=L) (H:=H) (F:=qi (gm x.1 x.2 (bY s i) i).1) (a:=i) h0 (by omega) (by have:=d.2;omega) (by omega) (by omega)
    (fun j z=>by
     obtain⟨n,A,V⟩:=List.getElem_of_mem z;have:=l.nn n A
     grind) v y
   have W:=anV (qi (gm x.1 x.2 (bY s i) i).1) i L;obtain⟨f,o,X,Y,Z⟩:=axL s u N (i+1) (gm x.1 x.2 (bY s i) i) (Ou (qi (gm x.1 x.2 (bY s i) i).1) i L) (abH L H (qi (gm x.1 x.2 (bY s i) i).1) i).2 (by omega) (by omega) (by omega) d.1 (by have:=d.2;omega) (by simp_all) (by omega);rw[bV (eH (b:=bI s) e),bV (dV h0 e),agy g (by omega) x.2 (lN s i) h0 (by omega),bG];simp only[pst];rw[dI (dX (by rw[bK];omega)),ax6 (by grind),bG]
   grind [bG,dn,rY]
  .have ab:i=s.length:=by omega
   rw[dI (iG (b:=bI s) (by rw[bK];omega)),Jt,rY]
   grind
theorem aBA (s:bZ) (p:s.length<=100000) (H:List Int): ∀(N i:Nat) (L:List kP),L.length-i<N->i<=L.length->L.length<1000000->(∀j,j<L.length->0<=(dJ L dP j).2.1/\(dJ L dP j).2.1<s.length)->
  Ae N s (bI L) (i:Int) H L=some (.inl ((),(H,L.take i++(L.drop i).map (uu s),(),())))
 |0,i,L,h,_,_,_=>by omega
 |N+1,i,L,h,B,hl,q=>by
  (rewrite [Ae,Lc];delta fB ji eG)
  by_cases e:i<L.length
  .have D:lZ (dC (i:Int)) L=true:=l9 (by assumption);have u:fD L (i:Int)=true:=dV;have v:dC (i:Int)=i:=by simp[dC]
   have iV: ∀x,dJ (gX L i x) (0,(0,(0,(0,(false,()))))) i=x:=fun x=>FY e;have y:lZ i L=true:=by assumption
   have E:=q i e;have g:Wy s (di .i64 (dJ L (0,(0,(0,(0,(false,()))))) i).2.1 1)=some (((prl (s.drop ((dJ L dP i).2.1+1).toNat):Nat):Int),()):=by
    grind [dn,dP,axR]
   have l:di .i64 (di .i64 (dJ L (0,(0,(0,(0,(false,()))))) i).2.1 1) ((prl (s.drop ((dJ L dP i).2.1+1).toNat):Nat):Int)=(dJ L dP i).2.1+1+((prl (s.drop ((dJ L dP i).2.1+1).toNat):Nat):Int):=by
    grind [ahZ,dP,dn]
   have z:di .i64 (i:Int) 1=((i+1:Nat):Int):=by grind [dn]
   have go: ∀x,x=uu s (dJ L dP i)->Ae N s (bI L) ((i+1:Nat):Int) H (gX L i x)=some (.inl ((),(H,L.take i++(L.drop i).map (uu s),(),()))):=fun x G=>by
    have I:(uu s (dJ L dP i)).2.1=(dJ L dP i).2.1:=by
     grind [uu]
    have o:=aBA s p H N (i+1) (gX L i x) (by rw[vT];omega) (by rw[vT];omega) (by rw[vT];exact hl) (fun j J=>by
     grind [gX,FY,IB])
    have A:bI (gX L i x)=bI L:=by rw[bK,bK,vT]
    rw[A]at o;rw[o];congr 4;have K:(gX L i x).take (i+1)=L.take i++[x]:=by
     simp_all [gX,List.take_add_one,List.take_set_of_le]
    grind [gX,List.drop_set_of_lt,aA,oQ]
   rw[bV (eH (by rw[bK];omega))];simp only[v,u,y,akx,iV,afe,aa,ac3,ay,z];by_cases ho:(dJ L dP i).2.2.2.2.1=true
   .have f:(dJ L (0,(0,(0,(0,(false,()))))) i).2.2.2.2.1=true:=ho;rw[f,aa];by_cases hm:(dJ L dP i).1=12
    .have d:(dJ L (0,(0,(0,(0,(false,()))))) i).1=12:=hm;rw[d,bV (fK rfl),g,bG];simp only[l];refine go _ ?_;unfold uu;rw[am hm,hm];rfl
    .have d: ¬(dJ L (0,(0,(0,(0,(false,()))))) i).1=12:=hm;rw[dI (dX d)];refine go _ ?_;unfold uu;rw[aq hm,am ho];rfl
   .have f:(dJ L (0,(0,(0,(0,(false,()))))) i).2.2.2.2.1=false:=Bool.eq_false_iff.2 ho;rw[f,ac];by_cases hm:(dJ L dP i).1=12
    .have d:(dJ L (0,(0,(0,(0,(false,()))))) i).1=12:=hm;rw[d,bV (fK rfl),g,bG];simp only[l];refine go _ ?_;unfold uu;rw[am hm,hm];rfl
    .have d: ¬(dJ L (0,(0,(0,(0,(false,()))))) i).1=12:=hm;rw[dI (dX d)];simp_all [gX,oQ,uu]
  .have M:i=L.length:=by omega
   simp_all [ig,bK]
theorem an2:Inv [] [] (qi fH.1) 0:={
 len:=rfl
 nn:=fun n e=>by cases e
 frm:=fun n e=>by cases e
 opn:=fun j d=>by rw[akA (by simp)]at d;cases d
 lt:=fun j d=>by cases d
 inj:=fun i j f=>by cases f
 fd:=fun m n g=>by cases g}
theorem Xb: ∀(l:bZ) (a:Int) (x:fQ×Bool) (L:List kP),0<=a->(∀p∈L,0<=p.2.1)-> ∀p∈rY l a x L,0<=p.2.1
 |[],a,x,L,f,h,p,d=>h p d
 |b::l,a,x,L,f,h,p,d=>by
  rw[rY]at d;refine Xb l (a+1) _ _ (by omega) (fun p d=> ?_) p d;unfold Ou at d;rcases List.mem_append.1 d with e|e
  .obtain⟨q,g,rfl⟩:=List.mem_map.1 e;have:(nM (qi (gm x.1 x.2 (jA b) a).1) a q).2.1=q.2.1:=by
    unfold nM;split
    .split<;>rfl
    .rfl
   grind
  .split at e
   .rw[List.mem_singleton.1 e];exact f
   .cases e
theorem aJF (s:bZ) (d:s.length<=100000):ajd s=some (dm s,()):=by
 obtain⟨f,o,g,e,h⟩:=axL s d bM 0 fH [] [] (by have:=Oe (n:=s.length) (by omega);omega) (by omega) (by omega) kF (by simp[fH]) an2 (by simp);unfold ajd;rw[show([(0,(0,()))]:List oD)=lo fH.1 from rfl,show(true:Bool)=fH.2 from rfl,g,bG];simp only[dN,Int.toNat_zero,aJ]at e h ⊢;have q:=Xb s 0 fH [] (by omega) (fun p i=>by cases i);have u:=aBA s d f bM 0 (rY s 0 fH []) (Oe) (by omega) (by omega) (fun j l=>by
  refine⟨?_,e.lt j l⟩
  grind [oQ])
 grind [bG,dm]
end
end Go.Proofs.YtlhpdcadgbjhiaaGreatDoor
