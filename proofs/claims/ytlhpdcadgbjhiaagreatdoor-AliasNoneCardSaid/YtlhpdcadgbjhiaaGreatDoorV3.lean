/- Parts of the proof, joined and shortened by a program: the plain machine, the functions as it prints them, and the mathematics over them. -/
import Derived.Test.YtlhpdcadgbjhiaaGreatDoorProg
import Derived.KernelRfl
import Derived.Below
import Derived.WalkKit
import Derived.Lib.Walk
import Derived.Lib.SliceRun
import Derived.Lib.AppendZerosOnto
import Derived.Lib.Overlaps
import Derived.Laws.CopyRow
import Derived.Laws.NewBlocks
import Derived.Shelf.RegionOpenPlain
import Derived.Shelf.SlLaysF0
import Derived.Shelf.SlSortCmp.WholeK
import Derived.Sort.LotA
import Derived.ChangeArms
import Derived.WideShapes
import Derived.Shelf.Strings.Builder1
import Derived.Ground.NamesProg
import Derived.Shelf.Strings.Replace
import Derived.Test.YtlhpdcadgbjhiaaGreatDoorV2
set_option linter.unusedVariables false
set_option linter.unusedSimpArgs false
set_option maxRecDepth 100000
set_option maxHeartbeats 4000000
namespace Go.Proofs.YtlhpdcadgbjhiaaGreatDoor
section
open Option renaming some → a6, none → a7
open List renaming mem_cons_of_mem → ak, mem_cons_self → aA
open Nat renaming eq_of_beq_eq_true → ah
open Go.RowKit
def akp:List (FuncId×Sum)->FuncId->Option Sum
 |[],_=>a7
 |e::l,g=>bif Nat.beq g e.1 then a6 e.2 else akp l g
theorem VG {P:Program}: ∀(l:List (FuncId×Sum)),(∀e∈l,dO P e.1 e.2)-> ∀g s,akp l g=a6 s->dO P g s
 |[],_,g,s,h=>by cases h
 |e::l,hl,g,s,h=>by
  simp only[akp]at h;rw[cond_eq_ite]at h;split at h
  .simp_all
  .exact VG l (fun e d=>hl e (ak _ d)) g s h
def auO (f:FuncId) (l:List (Nat×dW)) (g:FuncId) (id:Nat):Option dW:=cond (Nat.beq g f) ((l.find? fun e=>Nat.beq id e.1).map (·.2)) a7
def aqy (f:FuncId) (l:List (Nat×dA)) (g:FuncId) (id:Nat):Option dA:=
 bif Nat.beq g f then(match l.find? fun e=>Nat.beq id e.1 with|some e=>a6 e.2|none=>a7)else a7
theorem aaH {f g:FuncId} (l:List (Nat×dA)) (h:g≠f) (id:Nat):aqy f l g id=a7:=by
 grind [ah,aqy]
def asu:FuncId:=123
def Dq (g:FuncId):Bool:=Nat.beq g asu&& !Nat.beq asu 1000000
def asz:List (Nat×Nat×Nat):=[(1000000,2,5)]
def Ap (t o n:Nat):Bool:=asz.any fun e=>Nat.blt e.1 900000&&(Nat.beq e.1 t&&(Nat.beq e.2.1 o&&Nat.beq e.2.2 n))
def ae1:FuncId:=37
def Dt (g:FuncId):Bool:=Nat.beq g ae1&& !Nat.beq ae1 1000000
def VL:FuncId:=26
def zu:FuncId:=27
def Du (g:FuncId):Bool:=Nat.beq g VL&&(!Nat.beq VL 1000000&& !Nat.beq zu 1000000)
def afG:List (FuncId×fF)->FuncId->Option fF
 |[],_=>a7
 |e::l,g=>bif Nat.beq g e.1 then a6 e.2 else afG l g
theorem KR {P:Program}: ∀(l:List (FuncId×fF)),(∀e∈l,dJ P e.1 e.2)-> ∀g s,afG l g=a6 s->dJ P g s
 |[],_,g,s,h=>by cases h
 |e::l,hl,g,s,h=>by
  simp only[afG]at h;cases hb:Nat.beq g e.1 with
  |true=>
   simp_all
  |false=>
   rw[hb]at h;exact KR l (fun e d=>hl e (ak _ d)) g s h
def oC (P:Program) (T:TT) (f:FuncId) (sg:List (FuncId×Sum)) (kp:List (Nat×dW)) (lp:List (Nat×dA)) (sb:List (FuncId×fF):=[]):Env:=
 {P:=P,T:=T,cl:=false,kp:=auO f kp,sg:=akp sg,lp:=aqy f lp,bf:=Dq,em:=Ap,il:=Dt,sl:=Du,sc:=zu,sb:=afG sb}
theorem ahL {P:Program} {T:TT} (hT:TOk P T) (h:P.follows .mixedOrders=true) (i:EZ P) {f:FuncId} {sg:List (FuncId×Sum)} {kp:List (Nat×dW)} {lp:List (Nat×dA)} {sb:List (FuncId×fF)}
  (j: ∀e∈sg,dO P e.1 e.2) {fn:Func} {c:Code} (hf:P.funcs[f]? =a6 fn) (hb:fn.body=a6 c) (hl:dL (oC P T f sg kp lp sb) f c) (l: ∀E,qf P E->Zt E) (o: ∀g,(Dq g=true->uT P Ap g)/\(Dt g=true->EY P g)/\(Du g=true->E5 P g zu)) (hx: ∀e∈sb,dJ P e.1 e.2:=by simp):eP (oC P T f sg kp lp sb):=by
 have d:qf P (oC P T f sg kp lp sb):= ?_;exact⟨hT,h,i,VG sg j,d,l _ d,o,KR sb hx⟩;intro g q p s u;by_cases e:g=f
 .simp_all
 .exact ig (fun id=>aaH lp e id) (fun _=>rfl) p
def as6 (l:List (FuncId×Nat×dW)) (g:FuncId) (id:Nat):Option dW:=match l.find? fun e=>Nat.beq g e.1&&Nat.beq id e.2.1 with
 |some e=>a6 e.2.2
 |none=>a7
def aco:List (FuncId×Nat×dA)->FuncId->Nat->Option dA
 |[],_,_=>a7
 |e::l,g,id=>bif Nat.beq g e.1&&Nat.beq id e.2.1 then a6 e.2.2 else aco l g id
theorem NU: ∀(l:List (FuncId×Nat×dA)) (g:FuncId),(∀e∈l,e.1≠g)-> ∀id,aco l g id=a7
 |[],g,_,id=>rfl
 |e::l,g,h,id=>by
  have d:Nat.beq g e.1=false:=by
   grind [ah]
  simp only[aco,d,Bool.false_and,ac];exact NU l g (fun e f=>h e (ak _ f)) id
def fK (P:Program) (T:TT) (sg:List (FuncId×Sum)) (kp:List (FuncId×Nat×dW)) (lp:List (FuncId×Nat×dA)) (rf:List FuncId) (sb:List (FuncId×fF):=[]):Env:=
 {P:=P,T:=T,cl:=false,kp:=as6 kp,sg:=akp sg,lp:=aco lp,rf:=fun g _=>rf.any fun x=>Nat.beq g x,bf:=Dq,em:=Ap,il:=Dt,sl:=Du,sc:=zu,sb:=afG sb}
theorem aeJ {P:Program} {T:TT} (hT:TOk P T) (h:P.follows .mixedOrders=true) (i:EZ P) {sg:List (FuncId×Sum)} {kp:List (FuncId×Nat×dW)} {lp:List (FuncId×Nat×dA)}
  {rf:List FuncId} {sb:List (FuncId×fF)} (j: ∀e∈sg,dO P e.1 e.2) (d:List FuncId) (q:(lp.all fun e=>d.any fun g=>Nat.beq e.1 g)=true) (s:(rf.all fun e=>d.any fun g=>Nat.beq e g)=true) (hl: ∀g∈d,∃fn c,P.funcs[g]? =a6 fn/\fn.body=a6 c/\dL (fK P T sg kp lp rf sb) g c)
  (l: ∀E,qf P E->Zt E) (o: ∀g,(Dq g=true->uT P Ap g)/\(Dt g=true->EY P g)/\(Du g=true->E5 P g zu)) (hx: ∀e∈sb,dJ P e.1 e.2:=by simp):eP (fK P T sg kp lp rf sb):=by
 have f:qf P (fK P T sg kp lp rf sb):= ?_;exact⟨hT,h,i,VG sg j,f,l _ f,o,KR sb hx⟩;intro g u p v y;by_cases e:g∈d
 .grind
 .refine ig (fun id=>NU lp g (fun x hx z=>e ?_) id) (fun _=> ?_) p
  .grind [ah]
  .cases hr:rf.any fun x=>Nat.beq g x with
   |false=>exact hr
   |true=>
    simp_all
def bI {d:Type} (a b:List d):List d:=a++b
def bP (i:Int):Nat:=i.toNat
def cO {e:Type} (l:List e) (d:e) (i:Nat):e:=l.getD i d
def takeN {d:Type} (l:List d) (n:Nat):List d:=l.take n
def GV (a b:List UInt8):Bool:=decide (a.length+b.length<=mW)
def mV {d:Type} (i:Nat) (l:List d):Bool:=Ky i l.length
def BK (k:IntKind) (n:Int):Int:=k.wrap n
def Pz (a b:Bool):Bool:=a==b
def Fz (t:Ty) (x y:List t.den):Bool:=um (Tf t) x y
def ibW (s:List UInt8) (c:Int):Int:=Lib.indexByte s c.toNat.toUInt8
def aeb (a b:List UInt8):Int:=Lib.compareBytes a b
def cA:Code->Code
 |.seq a _=>a
 |.block _ c=>c
 |.loop c=>c
 |.scope c=>c
 |.cond _ a _=>a
 |.rangeFunc _ _ a _=>a
 |c=>c
def cB:Code->Code
 |.seq _ b=>b
 |.cond _ _ b=>b
 |.rangeFunc _ _ _ b=>b
 |c=>c
def iW:Code->List Code
 |.seq a b=>iW a++iW b
 |.cond _ a b=>iW a++iW b
 |.block _ c=>iW c
 |.scope c=>iW c
 |.loop c=>iW c++[c]
 |.rangeFunc _ _ a b=>iW a++iW b
 |_=>[]
def iU:Code->List (Code×Code)
 |.seq a b=>iU a++iU b
 |.cond _ a b=>iU a++iU b
 |.block _ c=>iU c
 |.scope c=>iU c
 |.loop c=>iU c
 |.rangeFunc _ _ a b=>(a,b)::(iU a++iU b)
 |_=>[]
def nK:Code->List Code
 |.seq a b=>nK a++(b::nK b)
 |.cond _ a b=>nK a++nK b
 |.block _ c=>nK c
 |.scope c=>nK c
 |.loop c=>nK c
 |.rangeFunc _ _ a b=>nK a++nK b
 |_=>[]
def Um (E:Env) (f:FuncId) (c:Code):Bool:=(nK c).all fun d=>(E.lp f (800000+bM d)).isNone
theorem jg {R:Type} {E:Env} {x:lq R} {e:Sl} {f:FuncId}: ∀c:Code,(∀x∈iU c,E.rf f (bM x.2)=true->oO f (bM x.2)=a6 x)->(∀d∈iW c,∀L,E.lp f (bM d)=a6 L->L.dep.ble E.dp=true->Si E x e f d L)->
  (∀d∈nK c,∀L,E.lp f (800000+bM d)=a6 L->L.dep.ble E.dp=true->Zr E x e f d L)->iL E x e f c
 |.seq a b,g,h,k=>⟨⟨jg a (fun d hd=>g d (List.mem_append.2 (.inl hd))) (fun d hd=>h d (List.mem_append.2 (.inl hd))) fun d hd=>k d (List.mem_append.2 (.inl hd)),k b (List.mem_append.2 (.inr aA))⟩,
   jg b (fun d hd=>g d (List.mem_append.2 (.inr hd))) (fun d hd=>h d (List.mem_append.2 (.inr hd))) fun d hd=>k d (List.mem_append.2 (.inr (ak _ hd)))⟩
 |.cond _ a b,g,h,k=>⟨jg a (fun d hd=>g d (List.mem_append.2 (.inl hd))) (fun d hd=>h d (List.mem_append.2 (.inl hd))) fun d hd=>k d (List.mem_append.2 (.inl hd)),jg b (fun d hd=>g d (List.mem_append.2 (.inr hd))) (fun d hd=>h d (List.mem_append.2 (.inr hd))) fun d hd=>k d (List.mem_append.2 (.inr hd))⟩
 |.block _ c,g,h,k=>jg (E:=E) c g h k
 |.scope c,g,h,k=>jg (E:=E) c g h k
 |.loop c,g,h,k=>⟨jg c g (fun d hd=>h d (List.mem_append.2 (.inl hd))) k,h c (List.mem_append.2 (.inr (List.mem_singleton.2 rfl)))⟩
 |.rangeFunc _ _ a b,g,h,k=>⟨jg a (fun d hd=>g d (ak _ (List.mem_append.2 (.inl hd)))) (fun d hd=>h d (List.mem_append.2 (.inl hd))) fun d hd=>k d (List.mem_append.2 (.inl hd)),
   jg b (fun d hd=>g d (ak _ (List.mem_append.2 (.inr hd)))) (fun d hd=>h d (List.mem_append.2 (.inr hd))) fun d hd=>k d (List.mem_append.2 (.inr hd)),g (a,b) aA⟩
 |.skip,_,_,_|.label _,_,_,_|.region _ _ _,_,_,_|.exit _,_,_,_|.goto _,_,_,_|.ret,_,_,_|.refuse _,_,_,_=>trivial
theorem JD {E:Env} {f:FuncId} (c:Code) (g: ∀x∈iU c,E.rf f (bM x.2)=true->oO f (bM x.2)=a6 x) (h: ∀d∈iW c,∀L,E.lp f (bM d)=a6 L->dU E f d L)
  (k: ∀d∈nK c,∀L,E.lp f (800000+bM d)=a6 L->zO E f d L):dL E f c:=fun R m=>
 jg (E:=E.at m) c g (fun d hd L i j=>by
  have e:=h d hd L i R (m-L.dep);rw[show m-L.dep+L.dep=m from Nat.sub_add_cancel (Nat.le_of_ble_eq_true (m:=m) j)]at e;exact e) fun d hd L i j=>by
  have e:=k d hd L i R (m-L.dep);rw[show m-L.dep+L.dep=m from Nat.sub_add_cancel (Nat.le_of_ble_eq_true (m:=m) j)]at e;exact e
theorem afr {E:Env} {f:FuncId} {c:Code} (h:Um E f c=true): ∀d∈nK c,∀L,E.lp f (800000+bM d)=a6 L->zO E f d L:=fun d hd L e=>by
 have:=List.all_eq_true.1 h d hd;simp_all
def QH (E:Env) (f:FuncId) (c:Code):List Code:=(nK c).filter fun d=>(E.lp f (800000+bM d)).isSome
theorem TY {E:Env} {f:FuncId} {c:Code} (h: ∀d∈QH E f c,∀L,E.lp f (800000+bM d)=a6 L->zO E f d L): ∀d∈nK c,∀L,E.lp f (800000+bM d)=a6 L->zO E f d L:=fun d hd L e=>
 h d (List.mem_filter.2 ⟨hd,by rw[e];rfl⟩) L e
theorem nX {E:Env} {f:FuncId} (c:Code) (g: ∀x∈iU c,E.rf f (bM x.2)=true->oO f (bM x.2)=a6 x) (h: ∀d∈iW c,∀L,E.lp f (bM d)=a6 L->dU E f d L) (k:Um E f c=true:=by kernel_rfl):dL E f c:=
 JD c g h (afr k)
theorem aaF {E:Env} {f:FuncId} (c:Code) (e: ∀id,E.rf f id=false) (h: ∀d∈iW c,∀L,E.lp f (bM d)=a6 L->dU E f d L) (k:Um E f c=true:=by kernel_rfl):dL E f c:=
 nX c (fun x _ g=>by simp_all) h k
theorem di {d e:Type} (b:Bool) (x y:Option d) (k:d->Option e):aZ (bif b then x else y) k=bif b then aZ x k else aZ y k:=by cases b<;>rfl
theorem dm {d e:Type} (k:d->Option e):aZ a7 k=a7:=rfl
theorem aY {d e:Type} (x:d) (k:d->Option e):aZ (a6 x) k=k x:=rfl
theorem bZ {d e f:Type} (x:Option d) (k:d->Option e) (l:e->Option f):aZ (aZ x k) l=aZ x fun a=>aZ (k a) l:=by cases x<;>rfl
theorem ajO {d h e:Type} (a:d) (f:d->e) (g:h->e):dB (.inl a) f g=f a:=rfl
theorem dn {e h d i:Type} (o:e⊕h) (f:e->Option d) (g:h->Option d) (k:d->Option i):aZ (dB o f g) k=dB o (fun a=>aZ (f a) k) fun b=>aZ (g b) k:=by cases o<;>rfl
end
section
open Option renaming some → a6, none → a7
open List renaming append_assoc → ai, map_cons → au
open Tryz
open Go.RowKit
theorem qm {P:Program} (w:World) (h p ty elem:TypeId) (g o e q:Nat) (a:Addr) (f s:Nat) (d:Array Value) (t:TypeId) (cs:List Value) (size:Nat)
  (u:P.underlying h=a6 (.slice elem)) (l:(P.info? elem).map (·.size)=a6 size)
  (x:w.heap[g]? =a6 (.cells d t (0,0))) (y:cs.length=Nat.min f e*size)
  (z: ∀j v,cs[j]? =a6 v->w.cell? (a.add j)=a6 v) (A:o+cs.length<=d.size) (B: ∀v∈cs,v.oneCell'=true):
  (Builtin.copy_ #[h,p] ty #[.slice (a6 ⟨g,o,a7⟩) e q,.slice (a6 a) f s]).run P w=
   .ok (goInt (Nat.min f e)) (w.setRow g (d.toList.take o++cs++d.toList.drop (o+cs.length)).toArray):=by
 have hl:=run_loadCells_list (P:=P) w a cs z;have D:=run_storeCells_at P g o t cs 0 d w x (by simpa using A) B;cases hq:P.info? elem with
 |none=>simp[hq]at l
 |some i=>
  have E:i.size=size:=by simpa [hq] using l
  rw[y]at hl;simp[Builtin.copy_,run_underlying u,Builtin.lenOf,Builtin.firstCells,sizeOf,typeInfo,hq,E,hl,D]
theorem DU {P:Program} (w:World) {ops:Array Oper} {e:List Oper} {o:Oper} {a:Act} {Q:Exit->Act->World->Prop} (g:o.guard=a7) (d s:Operand) (t t':TypeId)
  (i:o.op=.call {callee:=.builtin .copy,args:= #[d,s],argTypes:= #[t,t']}) (v u:Value) (hd:a.eval d=v) (j:a.eval s=u) {f:Value} {w':World}
  (hr:(Builtin.copy_ #[t,t'] o.type #[v,u]).run P w=.ok f w') (h:wpList P ops Q e (a.put o.dst f) w'):wpList P ops Q (o::e) a w:=
 wpList_plain g fun _ l=>by
  unfold Oper.wp execOp;simp only[i,resolve,invoke,builtin,Sem.run_bind,Sem.run_pure,Result.andThen_ok,List.map_toArray,au,List.map_nil,hd,j,hr];exact l _ _ h
theorem Kt {P:Program} {ops:Array Oper} {o:Oper} {a:Act} {w:World} {K:Act->World->Prop} {Q:Exit->Act->World->Prop} {E:Prop}
  (h:o.guard=a7) (d x:Operand) (e f:TypeId) (i:o.op=Op.call {callee:=Callee.builtin Builtin.copy,args:= #[d,x],argTypes:= #[e,f]})
  (v u:Value) (hd:a.eval d=v) (hx:a.eval x=u) {g:Value} {w':World} (hr:(Builtin.copy_ #[e,f] o.type #[v,u]).run P w=.ok g w') (j:K (a.put o.dst g) w'):
  if Region.wanted o (yielded ops a.tmps)=true then Oper.wp P o a w K Q else E:=by
 have l:Region.wanted o (yielded ops a.tmps)=true:=by simp[Region.wanted,h]
 rw[am l];unfold Oper.wp;simp[execOp,i,resolve,invoke,builtin,hd,hx,hr,Result.andThen];exact j
theorem Ih:(prog.info? 41).map (·.size)=a6 2:=by kernel_rfl
theorem ams:(prog.info? 41).map (fun i=>(i.size,i.bytes,i.zero.map (·.cells.size)))=a6 (2,32,a6 2):=by kernel_rfl
theorem aiC: ∃d z,prog.info? 41=a6 d/\d.zero=a6 z/\d.size=2/\d.bytes=32/\z.cells.size=2:=by
 have h:=ams;cases hq:prog.info? 41 with
 |none=>simp[hq]at h
 |some i=>
  simp only[hq,Option.map_some,Option.some.injEq,Prod.mk.injEq,Option.map_eq_some_iff]at h;obtain⟨e,f,z,g,j⟩:=h;exact⟨i,z,rfl,g,e,f,j⟩
theorem art (w:World):(Go.sizeOf 41).run prog w=.ok 2 w:=by
 cases hq:prog.info? 41 with
 |none=>have:=Ih;simp[hq]at this
 |some i=>have:=Ih;simp[hq]at this;simp[sizeOf,typeInfo,hq,this]
theorem aiE (g n c i l c2:Nat) (f:Array Value) (o e2:TypeId) (q s:Value) (I:List Value) (w:World) (hi:i<n) (ao:n+1<=c) (hc:c<=9223372036854775807) (J:w.heap[g]? =a6 (.cells f o (0,0))) (X:f.size=c*2)
  (K:w.heap[l]? =a6 (.cells (q::s::I).toArray e2 (0,0))) (Y:g≠l) (ae: ∀v∈f.toList.take (n*2),v.oneCell'=true) (h1:q.oneCell'=true) (h2:s.oneCell'=true):
  Calls prog 37 #[.slice (a6 ⟨g,0,a7⟩) n c,.int .i64 (i:Int),.slice (a6 ⟨l,0,a7⟩) 1 c2] w fun e w'=>
   e=.returned (.slice (a6 ⟨g,0,a7⟩) (n+1) c)/\ ∃R:Array Value,w.grownBy w' (a6 g)/\w'.heap[g]? =a6 (.cells R o (0,0))/\R.size=c*2/\
    R.toList.take ((n+1)*2)=(f.toList.take (n*2)).take (i*2)++[q,s]++(f.toList.take (n*2)).drop (i*2):=by
 have av: ¬((1:Int)=0):=by omega
 have aw: ¬((i:Int)=(n:Int)):=by omega
 have ax:IntKind.i64.wrap ((i:Int)+1)=(i:Int)+1:=by rw[IntKind.wrap_i64];omega
 have ay:IntKind.i64.wrap ((n:Int)+1)=(n:Int)+1:=by rw[IntKind.wrap_i64];omega
 have az: ¬((c:Int)<(n:Int)+1):=by omega
 have aA:(0:Int)<=(i:Int)+1:=by omega
 have aB:i<=n:=by omega
 have aF:((i:Int)+1).toNat=i+1:=by omega
 have aG:((n:Int)+1).toNat=n+1:=by omega
 have aH: ¬(c=i+1):=by omega
 have aI:(i:Int)<=(n:Int)+1:=by omega
 have aJ: ¬(c=i):=by omega
 have af: ∀N O,(callFunc 65 #[.slice (a6 ⟨l,0,a7⟩) 1 c2,.slice (a6 ⟨g,(i+1)*2,a7⟩) N O]).run prog w=.ok (.value (.bool false)) w:=fun N O=>by
  rw[run_callFunc_extern func65 (by kernel_rfl) (by kernel_rfl) (by kernel_rfl) (e:=Extern.SlicesOverlaps.overlaps #[22,22] #[4]) (by kernel_rfl),
   Lib.run_overlaps_apart w 22 4 41 underlying22 2 art ⟨l,0,a7⟩ ⟨g,(i+1)*2,a7⟩ 1 c2 N O (fun h=>Y h.symm) e2 o (q::s::I).toArray.size f.size (by simp[World.shape?,K]) (by simp[World.shape?,J]) (by omega) (by simp[World.frozen?,K]) (by simp[World.frozen?,K])]
  rfl
 have z:f.toList.length=c*2:=by simpa using X
 obtain⟨cs,A⟩: ∃cs,cs=(f.toList.take (n*2)).drop (i*2):=⟨_,rfl⟩;have B:cs.length=(n-i)*2:=by rw[A];simp[z];omega
 obtain⟨d,D⟩: ∃d:Array Value,d=(f.toList.take ((i+1)*2)++cs++f.toList.drop ((i+1)*2+cs.length)).toArray:=⟨_,rfl⟩;have S:d.size=c*2:=by rw[D];simp[z,B];omega
 have Z: ∀u x U,(Builtin.copy_ #[22,22] u #[.slice (a6 ⟨g,(i+1)*2,a7⟩) (n-i) x,.slice (a6 ⟨g,i*2,a7⟩) (n+1-i) U]).run prog w.drew=.ok (goInt (Nat.min (n+1-i) (n-i))) (w.drew.setRow g d):=fun u x U=>by
  rw[D];refine qm w.drew _ _ u 41 g ((i+1)*2) (n-i) x ⟨g,i*2,a7⟩ (n+1-i) U f o cs 2 underlying22 Ih J ?_ ?_ ?_ ?_
  .rw[B,show Nat.min (n+1-i) (n-i)=n-i from by simp only[Nat.min_def];split<;>omega]
  .intro j v y;rw[Addr.add_lit,cell_of_row w.drew g (i*2+j) f o (0,0) J];rw[A,List.getElem?_drop,List.getElem?_take]at y;split at y
   .simpa using y
   .cases y
  .rw[B,X];omega
  .intro v L;exact ae v (List.mem_of_mem_drop (A▸L))
 obtain⟨p,M⟩: ∃p:Array Value,p=(d.toList.take (i*2)++[q,s]++d.toList.drop (i*2+2)).toArray:=⟨_,rfl⟩;have ag: ∀W:World,W.heap[g]? =a6 (.cells d o (0,0))->W.heap[l]? =a6 (.cells (q::s::I).toArray e2 (0,0))-> ∀u x,(Builtin.copy_ #[22,22] u #[.slice (a6 ⟨g,i*2,a7⟩) (n+1-i) x,.slice (a6 ⟨l,0,a7⟩) 1 c2]).run prog W=.ok (goInt (Nat.min 1 (n+1-i))) (W.setRow g p):=fun W E ah u x=>by
  rw[M];refine qm W _ _ u 41 g (i*2) (n+1-i) x ⟨l,0,a7⟩ 1 c2 d o [q,s] 2 underlying22 Ih E ?_ ?_ ?_ ?_
  .rw[show Nat.min 1 (n+1-i)=1 from by simp only[Nat.min_def];split<;>omega];rfl
  .intro j v y;rw[Addr.add_lit,cell_of_row W l (0+j) _ e2 (0,0) ah,<-y]
   match j with
   |0=>rfl
   |1=>rfl
   |j+2=>simp at y
  .rw[S];simp;omega
  .intro v L;simp at L;rcases L with rfl|rfl<;>assumption
 have V:(w.drew.setRow g d).heap[g]? =a6 (.cells d o (0,0)):=setRow_heap w.drew g f d o _ J;have ab:(w.drew.setRow g d).heap[l]? =a6 (.cells (q::s::I).toArray e2 (0,0)):=(setRow_other w.drew g l d (fun e=>Y e.symm)).trans K;obtain⟨G,E⟩: ∃G,G=w.drew.setRow g d:=⟨_,rfl⟩;rw[<-E]at Z V ab;have aj:p.size=c*2:=by
  have:d.toList.length=c*2:=by simpa using S
  rw[M];simp[this];omega
 have ak:p.toList.take ((n+1)*2)=(f.toList.take (n*2)).take (i*2)++[q,s]++(f.toList.take (n*2)).drop (i*2):=by
  have e1:d.toList.take (i*2)=(f.toList.take (n*2)).take (i*2):=by
   rw[D,List.toList_toArray,ai,List.take_append_of_le_length (by simp[z];omega),List.take_take,List.take_take,show min (i*2) ((i+1)*2)=i*2 by omega,show min (i*2) (n*2)=i*2 by omega]
  have e2:d.toList.drop (i*2+2)=cs++f.toList.drop ((i+1)*2+cs.length):=by
   rw[D,List.toList_toArray,ai];exact List.drop_left' (by simp[z];omega)
  rw[M,List.toList_toArray,e1,e2,<-ai,List.take_left' (by simp[z,B];omega),A]
 have al:(G.setRow g p).heap[g]? =a6 (.cells p o (0,0)):=setRow_heap G g d p o _ V;have an:w.grownBy (G.setRow g p) (a6 g):=by
  rw[E];refine⟨rfl,rfl,rfl,by simp[World.setRow],fun k _ hk=> ?_⟩;have ad:k≠g:=fun e=>hk (by rw[e]);rw[setRow_other _ g k _ ad,setRow_other _ g k _ ad];rfl
 clear E D M A B S z;have mixed:prog.follows .mixedOrders=true:=by kernel_rfl
 go_enter func37,ntmps37
 go_wp2_with (simp only[af])
 go_region_law_o (refine Kt rfl _ _ 22 22 rfl _ _ (by simp[Act.eval,Act.put]) (by simp[Act.eval,Act.put]) (Z _ _ _) ?_)
 go_wp2_with (at_builtin;refine DU _ rfl _ _ 22 22 rfl _ _ rfl rfl (ag _ V ab _ _) ?_)
 go_ret
 exact⟨rfl,p,an,al,aj,ak⟩
theorem aiD (g n c i q c2:Nat) (d:Array Value) (B e2:TypeId) (y A:Value) (Z:List Value) (w:World) (hi:i<n) (aW:n<=c) (aG:c<n+1) (hn:n<=2199023255552) (hg:w.heap[g]? =a6 (.cells d B (0,0))) (aH:d.size=c*2)
  (ag:w.heap[q]? =a6 (.cells (y::A::Z).toArray e2 (0,0))) (aX:g≠q) (aI: ∀v∈d.toList.take (n*2),v.oneCell'=true) (h1:y.oneCell'=true) (h2:A.oneCell'=true):
  Calls prog 37 #[.slice (a6 ⟨g,0,a7⟩) n c,.int .i64 (i:Int),.slice (a6 ⟨q,0,a7⟩) 1 c2] w fun e w'=>
   ∃(G:Nat) (R:Array Value),e=.returned (.slice (a6 ⟨w.heap.size,0,a7⟩) (n+1) G)/\n+1<=G/\G<=maxLen/\w.grownBy w' a7/\w'.heap[w.heap.size]? =a6 (.cells R 41 (0,0))/\R.size=G*2/\
    R.toList.take ((n+1)*2)=(d.toList.take (n*2)).take (i*2)++[y,A]++(d.toList.take (n*2)).drop (i*2):=by
 have bd: ¬((1:Int)=0):=by omega
 have bf: ¬((i:Int)=(n:Int)):=by omega
 have bt:IntKind.i64.wrap ((i:Int)+1)=(i:Int)+1:=by rw[IntKind.wrap_i64];omega
 have cb:IntKind.i64.wrap ((n:Int)+1)=(n:Int)+1:=by rw[IntKind.wrap_i64];omega
 have cc:(c:Int)<(n:Int)+1:=by omega
 have cd:(0:Int)<=(i:Int)+1:=by omega
 have ch:i<=n:=by omega
 have cn:((i:Int)+1).toNat=i+1:=by omega
 have cv:(i:Int)<=(n:Int):=by omega
 have dd: ¬(c=i):=by omega
 have ah:(n:Int)+1-(i:Int)=((n+1-i:Nat):Int):=by omega
 have ab:i+(n+1-i)=n+1:=by omega
 have D:d.toList.length=c*2:=by simpa using aH
 obtain⟨cs,K⟩: ∃cs,cs=(d.toList.take (n*2)).drop (i*2):=⟨_,rfl⟩;have L:cs.length=(n-i)*2:=by rw[K];simp[D];omega
 obtain⟨i0,z,aj,ak,al,ad,an⟩:=aiC;have ao:(Builtin.firstCells i0.size i (.slice (a6 ⟨g,0,a7⟩) i c)).run prog w.drew=.ok (d.toList.take (i*2)).toArray w.drew:=by
  rw[al];exact run_firstCells_some w.drew 2 i ⟨g,0,a7⟩ i c (d.toList.take (i*2)) (by simp[D];omega) (fun j v o=>by
   rw[Addr.add_lit,cell_of_row w.drew g (0+j) d B (0,0) hg,Nat.zero_add];rw[List.getElem?_take]at o;split at o
   .simpa using o
   .cases o)
 have M: ∀s,(Builtin.append_ #[22,3] s #[.slice (a6 ⟨g,0,a7⟩) i c,.int .i64 ((n:Int)+1-(i:Int))]).run prog w=
   .ok (.slice (a6 ⟨w.heap.size,0,a7⟩) (n+1) (grownCap w (n+1) c 41)) (w.drew.alloc (.cells ((d.toList.take (i*2)).toArray++Builtin.zeroCells z.cells (n+1-i)++Builtin.zeroCells z.cells (grownCap w (n+1) c 41-(n+1))) 41)):=fun s=>by
  have h:=Lib.run_append_grow_zeros w 22 3 s 41 i0 z .i64 .i64 underlying22 underlying3 aj ak (a6 ⟨g,0,a7⟩) i c (d.toList.take (i*2)) ao (n+1-i) (by omega) (by omega) (by omega) (by omega) (by rw[ad];omega) (by rw[ad,ab];exact growslice_fits aG (by omega));rw[ab]at h;rw[ah];exact h
 obtain⟨G,O⟩: ∃G,G=grownCap w (n+1) c 41:=⟨_,rfl⟩;obtain⟨p,S⟩: ∃p:Array Value,p=(d.toList.take (i*2)).toArray++Builtin.zeroCells z.cells (n+1-i)++Builtin.zeroCells z.cells (G-(n+1)):=⟨_,rfl⟩;rw[<-O]at M;rw[<-S]at M;have aJ:n+1<=G:=by rw[O];exact grownCap_ge w _ _ _
 have av:G<=maxLen:=by rw[O];exact grownCap_le_maxLen w (n+1) c 41 (by unfold maxLen;omega)
 have df:G<=9223372036854775807:=by unfold maxLen at av;omega
 have ae:p.size=G*2:=by
  rw[S];simp[size_zeroCells,an,D];omega
 have aw:p.toList.take (i*2)=d.toList.take (i*2):=by
  rw[S,Array.toList_append,Array.toList_append,ai,List.toList_toArray];exact List.take_left' (by simp[D];omega)
 have ax:g<w.heap.size:=(Array.getElem?_eq_some_iff.1 hg).1;have ay:q<w.heap.size:=(Array.getElem?_eq_some_iff.1 ag).1;obtain⟨N,U⟩: ∃N,N=w.heap.size:=⟨_,rfl⟩;rw[<-U]at M;obtain⟨u,x⟩: ∃u,u=w.drew.alloc (.cells p 41):=⟨_,rfl⟩;rw[<-x]at M;have a1:u.heap[N]? =a6 (.cells p 41 (0,0)):=by rw[x,U];exact heap_alloc_new w.drew _
 have a2:u.heap[q]? =a6 (.cells (y::A::Z).toArray e2 (0,0)):=by rw[x];exact(Below.heap_alloc w.drew _ q ay).trans ag
 have a3:u.heap[g]? =a6 (.cells d B (0,0)):=by rw[x];exact(Below.heap_alloc w.drew _ g ax).trans hg
 obtain⟨f,V⟩: ∃f:Array Value,f=(p.toList.take (i*2)++[y,A]++p.toList.drop (i*2+2)).toArray:=⟨_,rfl⟩;have az:p.toList.length=G*2:=by simpa using ae
 have af:f.size=G*2:=by rw[V];simp[az];omega
 have aA: ∀W:World,W.heap[N]? =a6 (.cells p 41 (0,0))->W.heap[q]? =a6 (.cells (y::A::Z).toArray e2 (0,0))-> ∀s E,(Builtin.copy_ #[22,22] s #[.slice (a6 ⟨N,i*2,a7⟩) (n+1-i) E,.slice (a6 ⟨q,0,a7⟩) 1 c2]).run prog W=.ok (goInt (Nat.min 1 (n+1-i))) (W.setRow N f):=fun W x I s E=>by
  rw[V];refine qm W _ _ s 41 N (i*2) (n+1-i) E ⟨q,0,a7⟩ 1 c2 p 41 [y,A] 2 underlying22 Ih x ?_ ?_ ?_ ?_
  .rw[show Nat.min 1 (n+1-i)=1 from by simp only[Nat.min_def];split<;>omega];rfl
  .intro j v o;rw[Addr.add_lit,cell_of_row W q (0+j) _ e2 (0,0) I,<-o]
   match j with
   |0=>rfl
   |1=>rfl
   |j+2=>simp at o
  .rw[ae];simp;omega
  .intro v X;simp at X;rcases X with rfl|rfl<;>assumption
 obtain⟨l,Y⟩: ∃l:Array Value,l=(f.toList.take ((i+1)*2)++cs++f.toList.drop ((i+1)*2+cs.length)).toArray:=⟨_,rfl⟩;have aK: ∀W:World,W.heap[N]? =a6 (.cells f 41 (0,0))->W.heap[g]? =a6 (.cells d B (0,0))-> ∀s E sc,(Builtin.copy_ #[22,22] s #[.slice (a6 ⟨N,(i+1)*2,a7⟩) (n-i) E,.slice (a6 ⟨g,i*2,a7⟩) (n-i) sc]).run prog W=.ok (goInt (Nat.min (n-i) (n-i))) (W.setRow N l):=fun W x I s E sc=>by
  rw[Y];refine qm W _ _ s 41 N ((i+1)*2) (n-i) E ⟨g,i*2,a7⟩ (n-i) sc f 41 cs 2 underlying22 Ih x ?_ ?_ ?_ ?_
  .rw[L,show Nat.min (n-i) (n-i)=n-i from by simp only[Nat.min_def];split<;>omega]
  .intro j v o;rw[Addr.add_lit,cell_of_row W g (i*2+j) d B (0,0) I];rw[K,List.getElem?_drop,List.getElem?_take]at o;split at o
   .simpa using o
   .cases o
  .rw[L,af];omega
  .intro v X;exact aI v (List.mem_of_mem_drop (K▸X))
 have aO:g≠N:=by omega
 have dl:q≠N:=by omega
 have b1:(u.setRow N f).heap[N]? =a6 (.cells f 41 (0,0)):=setRow_heap u N p f _ _ a1;have b2:(u.setRow N f).heap[g]? =a6 (.cells d B (0,0)):=(setRow_other u N g f aO).trans a3;obtain⟨J,I⟩: ∃J,J=u.setRow N f:=⟨_,rfl⟩;have aB:=aA u a1 a2;clear aA;rw[<-I]at aB b1 b2;have aP:l.size=G*2:=by
  have:f.toList.length=G*2:=by simpa using af
  rw[Y];simp[this,L];omega
 have aQ:l.toList.take ((n+1)*2)=(d.toList.take (n*2)).take (i*2)++[y,A]++(d.toList.take (n*2)).drop (i*2):=by
  have B:(d.toList.take (n*2)).take (i*2)=d.toList.take (i*2):=by rw[List.take_take,show min (i*2) (n*2)=i*2 by omega]
  have e1:f.toList.take ((i+1)*2)=d.toList.take (i*2)++[y,A]:=by
   rw[V,List.toList_toArray,aw];exact List.take_left' (by simp[D];omega)
  rw[Y,List.toList_toArray,e1,B,List.take_left' (by simp[D,L];omega),K]
 have aS: ∀W:World,W.heap[N]? =a6 (.cells f 41 (0,0))->(W.setRow N l).heap[N]? =a6 (.cells l 41 (0,0)):=fun W hW=>setRow_heap W N f l _ _ hW;have aU:w.grownBy (J.drew.setRow N l) a7:=by
  rw[I,x];refine⟨rfl,rfl,rfl,by simp[World.setRow,World.alloc],fun k hk _=> ?_⟩;have aF:k≠N:=by omega
  rw[setRow_other _ N k _ aF];show(((w.drew.alloc _).setRow N f).heap[k]?)=_;rw[setRow_other _ N k _ aF];exact Below.heap_alloc w.drew _ k hk
 have aV:(J.drew.setRow N l).heap[N]? =a6 (.cells l 41 (0,0)):=setRow_heap J.drew N f l _ _ b1;have dp: ¬(G=i):=by omega
 have ds: ¬(G=i+1):=by omega
 rw[<-U];clear I x V Y K L af D az aw ae S O U aS ao ah ab aj ak al ad an a3 ax ay;have mixed:prog.follows .mixedOrders=true:=by kernel_rfl
 go_enter func37,ntmps37
 go_wp2_with (first
  |(at_builtin;refine Lib.wpList_append_run _ rfl _ _ _ _ rfl _ _ rfl rfl _ _ (M _) ?_)
  |(at_builtin;refine DU _ rfl _ _ 22 22 rfl _ _ rfl rfl (aB _ _) ?_))
 go_region_law_o (refine Kt rfl _ _ 22 22 rfl (.slice (a6 ⟨N,(i+1)*2,a7⟩) (n-i) (G-(i+1))) (.slice (a6 ⟨g,i*2,a7⟩) (n-i) (c-i)) (by simp[Act.eval,Act.put]) (by simp[Act.eval,Act.put]) (aK J.drew b1 b2 3 (G-(i+1)) (c-i)) ?_)
 go_wp2
 go_ret
 exact⟨G,l,rfl,aJ,av,aU,aV,aP,aQ⟩
end
section
open Option renaming some → a6, none → a7
open Nat renaming le_refl → ae
open Tryz
open Go.RowKit
theorem amu (w:World) (B:Nat) (x:TypeId) (v:Value) (n l c2:Nat) (o:List Value) (i j:Value) (V:B<=w.heap.size) (q:w.ownsRow B x 2 v n o) (hn:n<=2199023255552) (W:i.oneCell'=true) (h2:j.oneCell'=true)
  (X:fE w l 0 [i,j]):
  Calls prog ae1 #[v,.int .i64 (n:Int),.slice (a6 ⟨l,0,a7⟩) 1 c2] w fun e w'=> ∃d f,e=.returned d/\w'.ownsRow B f 2 d (n+1) (o++[i,j])/\w.grownBy w' v.ownBlock/\(d.ownBlock=v.ownBlock\/ ∃k,d.ownBlock=a6 k/\w.heap.size<=k)/\d.oneCell'=true:=by
 obtain⟨i0,z,y,A,D,E,G⟩:=aiC;have I: ∀u,∃d w' f,(Builtin.append_ #[22,22] u #[v,.slice (a6 ⟨l,0,a7⟩) 1 c2]).run prog w=.ok d w'/\w'.ownsRow B f 2 d (n+1) (o++[i,j])/\w.grownBy w' v.ownBlock/\(d.ownBlock=v.ownBlock\/d.ownBlock=a6 w.heap.size)/\d.oneCell'=true/\(f=x\/f=41):=fun u=>
  D5 underlying22 y A D E G (by decide) q (a:=a6 ⟨l,0,a7⟩) (m:=1) (cp:=c2) (news:=[i,j]) rfl (by simp[W,h2]) (.inr ⟨l,0,rfl,X⟩) (by unfold maxLen;omega) (by omega) V u
 obtain⟨d,w',f,J,K,L,M,N,_⟩:=I 22;have af: ¬((1:Int)=0):=by omega
 have mixed:prog.follows .mixedOrders=true:=by kernel_rfl
 have O: ∃p f,Ending.returned d=.returned p/\w'.ownsRow B f 2 p (n+1) (o++[i,j])/\w.grownBy w' v.ownBlock/\(p.ownBlock=v.ownBlock\/ ∃k,p.ownBlock=a6 k/\w.heap.size<=k)/\p.oneCell'=true:=
  ⟨d,f,rfl,K,L,M.imp (fun h=>h) (fun h=>⟨_,h,ae _⟩),N⟩
 have Y:=show ae1=37 from rfl
 rw[Y];generalize S:(fun(e:Ending) (w':World)=> ∃d f,e=.returned d/\w'.ownsRow B f 2 d (n+1) (o++[i,j])/\w.grownBy w' v.ownBlock/\(d.ownBlock=v.ownBlock\/ ∃k,d.ownBlock=a6 k/\w.heap.size<=k)/\d.oneCell'=true)=Post;have s:Post (.returned d) w':=by rw[<-S];exact O
 clear O;obtain⟨U,Z,rfl,ag,ah⟩:=CP q;have ad:U=a7->n=0/\Z=0:=fun h=>by
  rcases q.2 with ⟨f,e2⟩|⟨g,ai,aj,f,_⟩
  .cases f;exact⟨e2,rfl⟩
  .cases f;cases h
 clear S K L M N I q y A D E G;cases U with
 |none=>
  obtain⟨rfl,rfl⟩:=ad rfl
  go_enter func37,ntmps37
  go_wp2_with (at_builtin;refine Lib.wpList_append_run _ rfl _ _ _ _ rfl _ _ rfl rfl _ _ J ?_)
  first|exact s|(go_ret;exact s)
 |some a=>
  obtain⟨ab,ao,ak⟩:=a
  go_enter func37,ntmps37
  go_wp2_with (at_builtin;refine Lib.wpList_append_run _ rfl _ _ _ _ rfl _ _ rfl rfl _ _ J ?_)
  all_goals first|exact s|(go_ret;exact s)
theorem Fb {P:Program} {f:FuncId} {fn:Func} {d:Code} (e:(fn.name== "runtime.NumGoroutine")=false) (hf:P.funcs[f]? =a6 fn) (hb:fn.body=a6 d) (args:Array Value) (w:World):(callFunc f args).run P w=.ok (.enter f args) w:=by
 simp_all [callFunc]
theorem ae3:EY prog ae1:=by
 intro w B j v n i d q s f h D E af I l J hi V ag u x y W ah ai;refine⟨Fb (fn:=f37) (by kernel_rfl) (by kernel_rfl) (show _=a6 ((f37.body).getD .skip) by kernel_rfl) _ _, ?_⟩;have X:fE w d 0 [f,h]:=by
  have:=(fE.of_block_cells y).sub 0 2;simpa using this
 by_cases o:i=n
 .subst o;refine(amu w B j v i d q s f h I l J u x X).mono ?_;rintro e K ⟨Y,Z,g1,g2,g3,g4,g5⟩;refine⟨Y,Z,g1, ?_,g3,g4,g5⟩;have hl:=l.1;rw[List.take_of_length_le (by omega),List.drop_eq_nil_of_le (by omega),List.append_nil];exact g2
 .have o:i<n:=by omega
  rcases l.2 with ⟨rfl,e⟩|⟨g,p,z,rfl,ab,L,ad,M,N,A⟩
  .omega
  .have O:g≠d:=fun e=>W (by rw[e];rfl);have S: ∀v∈z.toList.take (n*2),v.oneCell'=true:=by rw[A];exact V
   have U:(s.take (i*2)++[f,h]++s.drop (i*2)).length=(n+1)*2:=by
    have:=l.1;simp;omega
   by_cases hroom:n+1<=p
   .refine(aiE g n p i d q z j D f h E w o hroom (by unfold maxLen at M;omega) L N y O S u x).mono ?_;rintro e K ⟨rfl,R,g1,g2,g3,g4⟩;refine⟨_,j,rfl,⟨U,.inr ⟨g,p,R,rfl,ab,g2,hroom,M,g3, ?_⟩⟩,g1,.inl rfl,rfl⟩;rw[g4,A]
   .refine(aiD g n p i d q z j D f h E w o ad (by omega) J L N y O S u x).mono ?_;rintro e K ⟨G,R,rfl,g1,g2,g3,g4,g5,g6⟩;refine⟨_,41,rfl,⟨U,.inr ⟨w.heap.size,G,R,rfl,I,g4,g1,g2,g5, ?_⟩⟩,⟨g3.os,g3.tape,g3.output,g3.size,fun k hk _=>g3.block k hk (by simp)⟩,.inr ⟨_,rfl,ae _⟩,rfl⟩;rw[g6,A]
end
section
open Option renaming some → a6, none → a7
open Tryz
open Go.Shelf
def Ar:Go.Shelf.Ren:=⟨fun|6=>26|15=>46|14=>45|28=>81|29=>82|20=>73|21=>74|22=>75|23=>76|24=>77|25=>78|26=>79|27=>80|46=>108|47=>109|48=>110|49=>111|50=>112|57=>149|n=>n,fun|22=>28|24=>32|25=>68|3=>3|39=>96|0=>0|53=>120|55=>122|4=>4|46=>114|45=>113|50=>80|5=>5|9=>9|66=>140|70=>144|76=>162|77=>146|n=>n,fun|n=>n⟩
theorem amP:Go.Proofs.SlLaysF0.n6 prog Ar:={
 mixed:=by kernel_rfl
 f6:=⟨Tryz.f26.name,by decide,func26.trans (congrArg a6 (by kernel_rfl))⟩
 f14:=⟨f45.name,by decide,func45.trans (congrArg a6 (by kernel_rfl))⟩
 f15:=func46.trans (congrArg a6 (by kernel_rfl))
 f20:=⟨f73.name,by decide,func73.trans (congrArg a6 (by kernel_rfl))⟩
 f21:=⟨f74.name,by decide,func74.trans (congrArg a6 (by kernel_rfl))⟩
 f22:=⟨f75.name,by decide,func75.trans (congrArg a6 (by kernel_rfl))⟩
 f23:=⟨f76.name,by decide,func76.trans (congrArg a6 (by kernel_rfl))⟩
 f24:=⟨f77.name,by decide,func77.trans (congrArg a6 (by kernel_rfl))⟩
 f25:=⟨f78.name,by decide,func78.trans (congrArg a6 (by kernel_rfl))⟩
 f26:=⟨f79.name,by decide,func79.trans (congrArg a6 (by kernel_rfl))⟩
 f27:=⟨f80.name,by decide,func80.trans (congrArg a6 (by kernel_rfl))⟩
 f28:=func81.trans (congrArg a6 (by kernel_rfl))
 f29:=func82.trans (congrArg a6 (by kernel_rfl))
 f46:=⟨f108.name,by decide,func108.trans (congrArg a6 (by kernel_rfl))⟩
 f47:=func109.trans (congrArg a6 (by kernel_rfl))
 f48:=func110.trans (congrArg a6 (by kernel_rfl))
 f49:=⟨f111.name,by decide,func111.trans (congrArg a6 (by kernel_rfl))⟩
 f50:=⟨f112.name,by decide,func112.trans (congrArg a6 (by kernel_rfl))⟩
 f57:=⟨f149.name,by decide,func149.trans (congrArg a6 (by kernel_rfl))⟩
 t0:=underlying0
 a0:=isAgg0
 z0:=sizeOf0
 v0:=zeroValue0
 t3:=underlying3
 a3:=isAgg3
 z3:=sizeOf3
 v3:=zeroValue3
 t4:=underlying4
 a4:=isAgg4
 z4:=sizeOf4
 v4:=zeroValue4
 t5:=underlying5
 a5:=isAgg5
 z5:=sizeOf5
 v5:=zeroValue5
 t9:=underlying9
 a9:=isAgg9
 z9:=sizeOf9
 v9:=zeroValue9
 t22:=underlying28
 a22:=isAgg28
 z22:=sizeOf28
 v22:=zeroValue28
 t25:=underlying68
 a25:=isAgg68
 z25:=sizeOf68
 v25:=zeroValue68
 t39:=underlying96
 a39:=isAgg96
 z39:=sizeOf96
 v39:=zeroValue96
 t45:=underlying113
 a45:=isAgg113
 z45:=sizeOf113
 v45:=zeroValue113
 t46:=underlying114
 a46:=isAgg114
 z46:=sizeOf114
 v46:=zeroValue114
 t50:=underlying80
 a50:=isAgg80
 z50:=sizeOf80
 v50:=zeroValue80
 t53:=underlying120
 a53:=isAgg120
 z53:=sizeOf120
 v53:=zeroValue120
 t55:=underlying122
 a55:=isAgg122
 z55:=sizeOf122
 v55:=zeroValue122
 t66:=underlying140
 a66:=isAgg140
 z66:=sizeOf140
 v66:=zeroValue140
 t70:=underlying144
 a70:=isAgg144
 z70:=sizeOf144
 v70:=zeroValue144
 t76:=underlying162
 a76:=isAgg162
 z76:=sizeOf162
 v76:=zeroValue162
 t77:=underlying146
 a77:=isAgg146
 z77:=sizeOf146
 v77:=zeroValue146}
end
section
open Option renaming some → a6, none → a7
open Bool renaming and_eq_true → af
open Tryz
open Go.RowKit Go.Shelf Go.Lib Go.Sort
def Jc (x:uM.den):List Value:=[.int .i64 x.1,.int .i64 x.2.1,.int .i64 x.2.2.1,.bool x.2.2.2.1]
theorem alx (x:uM.den): ∀v∈Jc x,v.oneCell'=true:=by
 intro v d;simp[Jc]at d;rcases d with rfl|rfl|rfl|rfl<;>rfl
theorem flat_get: ∀(xs:List uM.den) (j:Nat) (h:j/4<xs.length),(xs.flatMap Jc)[j]? =(Jc xs[j/4])[j %4]?
 |[],j,h=>by simp at h
 |x::xs,j,h=>by
  rw[List.flatMap_cons];by_cases hj:j<4
  .rw[List.getElem?_append_left (by simpa [Jc] using hj)];have d:j/4=0:=by omega
   have e:j %4=j:=by omega
   simp only[d,e,List.getElem_cons_zero]
  .rw[List.getElem?_append_right (by simp[Jc];omega)];have d:j/4=(j-4)/4+1:=by omega
   have e:j %4=(j-4) %4:=by omega
   have f:(j-4)/4<xs.length:=by simp at h;omega
   have g:=flat_get xs (j-4) f;simp only[show(Jc x).length=4 from rfl,g,d,e,List.getElem_cons_succ]
def frm (x:uM.den):Int:=x.2.1
theorem GU: ∀(xs:List uM.den) (n:Int),Rj n xs=true-> ∀(i:Nat) (hi:i<xs.length),n<=frm xs[i]/\frm xs[i]<=4611686018427387904/\ ∀(j:Nat) (d:j<xs.length),i<j->frm xs[i]<frm xs[j]
 |[],_,_,i,hi=>by simp at hi
 |x::xs,n,h,i,hi=>by
  simp only[Rj,af,leI,decide_eq_true_eq]at h;obtain⟨e,f,l⟩:=h;have e:n<=frm x:=e;have f:frm x<=4611686018427387904:=f;have g:=GU xs (frm x+1) l;cases i with
  |zero=>
   refine⟨e,f,fun j d o=> ?_⟩;obtain⟨j,rfl⟩: ∃k,j=k+1:=⟨j-1,by omega⟩;have:=(g j (by simpa using d)).1;simp only[List.getElem_cons_zero,List.getElem_cons_succ];omega
  |succ i=>
   obtain⟨g1,g2,g3⟩:=g i (by simpa using hi);refine⟨by simp only[List.getElem_cons_succ];omega,g2,fun j d o=> ?_⟩;obtain⟨j,rfl⟩: ∃k,j=k+1:=⟨j-1,by omega⟩;exact g3 j (by simpa using d) (by omega)
section
variable (m:Nat) (xs:List uM.den) (hl:xs.length=m+1)
def ZH (i:Fin (m+1)):List Value:=Jc (xs[i.val]'(by omega))
def SS (i j:Fin (m+1)):Int:=frm (xs[i.val]'(by omega))-frm (xs[j.val]'(by omega))
variable (hr:OU xs=true)
include hr in
theorem ajy (i j:Fin (m+1)):ltOf (SS m xs hl) i j=decide (i.val<j.val):=by
 unfold ltOf SS;have d:=(GU xs 0 hr i.val (by omega)).2.2 j.val (by omega);have f:=(GU xs 0 hr j.val (by omega)).2.2 i.val (by omega);by_cases h:i.val<j.val
 .have:=d h;simp[h];omega
 .by_cases h':j.val<i.val
  .have:=f h';simp[h];omega
  .have e:i=j:=Fin.ext (by omega);subst e;simp
include hr in
theorem aoY:SWO (ltOf (SS m xs hl))where
 irrefl x:=by rw[ajy m xs hl hr];simp
 trans x y z h1 h2:=by rw[ajy m xs hl hr]at*;simp at*;omega
 ntrans x y z h1 h2:=by rw[ajy m xs hl hr]at*;simp at*;omega
include hr in
theorem asx (i j:Fin (m+1)) (W:World):Calls prog zu #[.agg (ZH m xs hl i).toArray,.agg (ZH m xs hl j).toArray] W fun e w'=>e=.returned (.int .i64 (SS m xs hl i j))/\ ∃q h,w'=grow (W.drewN q) h:=by
 have d:=GU xs 0 hr i.val (by omega);have f:=GU xs 0 hr j.val (by omega);unfold ZH SS Jc frm at*;generalize xs[i.val]=x at*;generalize xs[j.val]=y at*;obtain⟨p,l,s,u,v⟩:=x;obtain⟨z,o,A,B,D⟩:=y;have g: ∀x y:Int,0<=x->x<=4611686018427387904->0<=y->y<=4611686018427387904->IntKind.i64.wrap (x-y)=x-y:=fun x y k1 k2 k3 k4=>by rw[IntKind.wrap_i64];omega
 have g:=g l o d.1 d.2.1 f.1 f.2.1;clear d f hr;show Calls prog 27 _ _ _
 go_enter func27,ntmps27
 go_wp2
 go_ret
 exact⟨rfl,0,_,by rw[alloc_eq_grow,alloc_eq_grow,grow_grow];rfl⟩
end
theorem aiB:(prog.info? 32).map (·.size)=a6 4:=by kernel_rfl
theorem aru (w:World):(Go.sizeOf (Ar.t 24)).run prog w=.ok 4 w:=by
 show(Go.sizeOf 32).run prog w=_;cases hq:prog.info? 32 with
 |none=>have:=aiB;simp[hq]at this
 |some i=>have:=aiB;simp[hq]at this;simp[sizeOf,typeInfo,hq,this]
theorem amv (w:World):(isAgg (Ar.t 24)).run prog w=.ok true w:=by
 show(isAgg 32).run prog w=_;simp[isAgg,run_underlying underlying32]
theorem YY (m:Nat) (xs:List uM.den) (f:xs.length=m+1) (hr:OU xs=true) (d:Array (Fin (m+1))) (hd:d.toList.Pairwise fun i j=>i.val<=j.val) (u:d.size<4611686018427387904) (w:World) (g cap:Nat) (v:g<w.heap.size) (l:HoldsK (ZH m xs f) 4 w g 0 d):
  Calls prog VL #[.slice (a6 ⟨g,0,a7⟩) d.size cap,.func (.func zu) #[] #[]] w fun e w'=>e=.returned (.tuple #[])/\ ∃q os,w'=grow (Sort.ahead w q) os:=by
 have hT: ∀x y,(ltOf (SS m xs f)) x y=false->(ltOf (SS m xs f)) y x=false->x=y:=fun x y o p=>by
  rw[ajy m xs f hr]at o p;simp at o p;exact Fin.ext (by omega)
 have z:=AnyQ.slices_SortFunc amP 4 (fun w=>amv w) (fun w=>aru w) (ZH m xs f) (fun x=>rfl) (fun x=>alx _) (SS m xs f) (aoY m xs f hr) zu #[] g 0 cap d w
  (enters_of (fn:=Tryz.f27) func27 (by kernel_rfl) (show _=a6 ((Tryz.f27.body).getD .skip) by kernel_rfl))
  (fun _ _ _ _ x y=>asx m xs f hr x y _) l v u
 refine Calls.mono z ?_;rintro e w' ⟨A,s,q,os,B,D,E⟩;refine⟨A,q,os, ?_⟩;have G: ∀i j:Fin (m+1),i.val<=j.val->(!(ltOf (SS m xs f)) j i)=true:=fun i j L=>by rw[ajy m xs f hr];simp;omega
 have I:Holds id (Sort.ahead w q) g 0 (flatK (ZH m xs f) 4 d):=fun j J=>l j J;have K:s=d:=Array.ext' ((sorted_unique_holds (aoY m xs f hr) hT d s B D).trans (List.mergeSort_of_pairwise (hd.imp fun h=>G _ _ h)));rw[E,K];unfold sortWorldK putRowK;rw[putRow_self _ _ _ _ _ I]
theorem afK (I: ∀w,Sj w->Calls prog VL #[.slice a7 0 0,.func (.func zu) #[] #[]] w fun e w'=>e=.returned (.tuple #[])/\w.grownBy w' a7):E5 prog VL zu:=by
 intro w B x v n J xs K hB y L ad hr M;refine⟨Fb (fn:=Tryz.f26) (by kernel_rfl) (by kernel_rfl) (show _=a6 ((Tryz.f26.body).getD .skip) by kernel_rfl) _ _, ?_⟩;subst L;rcases y.2 with ⟨rfl,N⟩|⟨g,f,h,rfl,O,o,S,U,V,D⟩
 .refine(I w K).mono ?_;rintro e w' ⟨W,l⟩;exact⟨W,⟨y.1,.inl ⟨rfl,N⟩⟩,⟨l.os,l.tape,l.output,l.size,fun k hk _=>l.block k hk (by simp)⟩⟩
 .have z:g<w.heap.size:=(Array.getElem?_eq_some_iff.1 o).1;have p: ∀e w',(e=Ending.returned (.tuple #[])/\ ∃q A,w'=grow (Sort.ahead w q) A)->e=.returned (.tuple #[])/\w'.ownsRow B x 4 (.slice (a6 ⟨g,0,a7⟩) xs.length f) xs.length J/\w.grownBy w' (Value.slice (a6 ⟨g,0,a7⟩) xs.length f).ownBlock:=by
   rintro e w' ⟨rfl,q,A,rfl⟩;have X:(grow (Sort.ahead w q) A).heap[g]? =a6 (.cells h x (0,0)):=(Array.getElem?_append_left z).trans o;exact⟨rfl,⟨y.1,.inr ⟨g,f,h,rfl,O,X,S,U,V,D⟩⟩,⟨rfl,rfl,rfl,by simp[grow,Sort.ahead],fun k hk _=>Array.getElem?_append_left hk⟩⟩
  cases hm:xs.length with
  |zero=>
   have Y:OU [((0:Int),((0:Int),((0:Int),(false,()))))]=true:=rfl;have s:=YY 0 [((0:Int),((0:Int),((0:Int),(false,()))))] rfl Y #[] List.Pairwise.nil (by decide) w g f z (fun j d=>by simp at d);rw[hm]at p;exact Calls.mono s p
  |succ m=>
   have u:(Array.ofFn (fun i:Fin (m+1)=>i)).size=m+1:=by simp
   have Z: ∀j (d:j<(m+1)*4),h[j]? =(Jc (xs[j/4]'(by omega)))[j %4]? :=by
    intro j d;rw[<-flat_get xs j (by omega)];have h6:h.toList.take (xs.length*4)=xs.flatMap Jc:=D.trans M;rw[<-h6,List.getElem?_take,hm,am d];simp
   have hH:HoldsK (ZH m xs hm) 4 w g 0 (Array.ofFn (fun i:Fin (m+1)=>i)):=by
    intro j d;rw[size_flatK,u]at d;refine⟨?_,by simp[World.frozen?,o]⟩;have E:j/4<m+1:=by omega
    have hd:(Array.ofFn (fun i:Fin (m+1)=>i))[j/4]! =⟨j/4,E⟩:=by
     simp[E]
    rw[get_flatK _ _ _ _ (by rw[u];exact d),Nat.zero_add,cell_of_row w g j h x (0,0) o,Z j d,hd];have G:j %4<(Jc (xs[j/4]'(by omega))).length:=by show _<4;omega
    rw[List.getElem?_eq_getElem G];show a6 _=a6 ((Jc (xs[j/4]'(by omega)))[j %4]!);rw[List.getElem!_eq_getElem?_getD,List.getElem?_eq_getElem G];rfl
   have ab:(Array.ofFn (fun i:Fin (m+1)=>i)).toList.Pairwise fun i j=>i.val<=j.val:=by
    rw[List.pairwise_iff_getElem];intro i j hi d ae;simp only[Array.getElem_toList,Array.getElem_ofFn];omega
   have s:=YY m xs hm hr _ ab (by rw[u];omega) w g f z hH;rw[u]at s;rw[hm]at p;exact Calls.mono s p
end
section
open Option renaming some → a6, none → a7
open Bool renaming and_eq_true → af
open List renaming mem_cons_of_mem → ak
open Nat renaming le_refl → ae
open Go.RowKit
def TT.allK:TT->Bool
 |.nil=>true
 |.node _ i l r=>i.known&&(l.allK&&r.allK)
theorem TT.allK_at: ∀(T:TT) (t:TypeId),T.allK=true->(T.at t).ty.isSome=true->(T.at t).known=true
 |.nil,t,_,h=>by assumption
 |.node k i l r,t,h,d=>by
  simp only[TT.allK,af]at h;simp only[TT.at]at d ⊢;by_cases e:Nat.beq k t=true
  .simp_all
  .have f:Nat.beq k t=false:=(Bool.not_eq_true _).mp e;simp only[f,ac]at d ⊢;by_cases e2:Nat.blt t k=true
   .simp only[e2,aa]at d ⊢;exact TT.allK_at l t h.2.1 d
   .have g:Nat.blt t k=false:=(Bool.not_eq_true _).mp e2;simp only[g,ac]at d ⊢;exact TT.allK_at r t h.2.2 d
def wfD:(t:Ty)->t.den->Prop
 |.unit,_=>True
 |.bool,_=>True
 |.int k,x=>(Lit.int k x).wf=true
 |.str,x=>x.length<=maxLen
 |.list e,xs=>xs.length<=maxLen/\ ∀x∈xs,wfD e x
 |.pair a b,x=>wfD a x.1/\wfD b x.2
section
variable {P:Program} {T:TT} {w:World} {H:Type} {enc:TypeId×Value->H} {spare:Nat->Bool} {held:Bool}
theorem alB {t:TypeId} {k:TK} (h:(P.underlying t).map jE=a6 (a6 k)): ∃d,P.underlying t=a6 d/\jE d=a6 k:=by
 simp_all
theorem D8 (hT:TOk P T) {t:TypeId} (hk:(T.at t).known=true):P.cellsOf t=(T.at t).size:=by
 obtain⟨h,_⟩:=hT t hk;unfold Program.cellsOf;cases hi:P.info? t with
 |none=>simp_all
 |some f=>
  simp_all
theorem alP {a:Addr} {v:Value} (h:w.cell? a=a6 v):a.block<w.heap.size/\a.spot=a7:=by
 unfold World.cell? at h;split at h
 .rename_i d
  refine⟨(Array.getElem?_eq_some_iff.1 d).1, ?_⟩;simp_all
 .cases h
theorem addr_add_add (a:Addr) (x m:Nat):(a.add x).add m=a.add (x+m):=by
 grind [Addr.add]
theorem YP {e:Ty} {size:Nat} (p:e.size=size) {a:Addr} {len:Nat} {F:List Value->Option (DataW H×List MemPlace)} (hF: ∀cs y,F cs=a6 y-> ∃x:e.den,dM w (fun b=>b<w.heap.size) e x cs/\wfD e x)
  (h: ∀i,i<len-> ∃y,(w.cells? 0 (a.add (i*size)) size).bind F=a6 y): ∀(k j:Nat),j+k<=len->
  ∃(xs:List e.den) (d:List Value),xs.length=k/\dX (dM w (fun b=>b<w.heap.size) e) e.size xs d/\(∀m (f:m<d.length),w.cell? (a.add (j*size+m))=a6 d[m])/\ ∀x∈xs,wfD e x
 |0,j,_=>⟨[],[],rfl,rfl,fun m f=>absurd f (by simp),fun x g=>by cases g⟩
 |k+1,j,v=>by
  obtain⟨xs,d,q,s,A,B⟩:=YP p hF h k (j+1) (by omega);obtain⟨y,l⟩:=h j (by omega);obtain⟨c,o,l⟩:=Option.bind_eq_some_iff.1 l;obtain⟨x,g,D⟩:=hF c y l;have u:c.length=e.size:=dM.length e x c g;have E: ∀m (f:m<c.length),w.cell? (a.add (j*size+m))=a6 c[m]:=fun m f=>by
   simp only[World.cells?,Nat.zero_le,if_true]at o;have:=mapM_some_get o m m (by simp_all);simp_all [addr_add_add]
  refine⟨x::xs,c++d,by simp[q],⟨c,d,rfl,u,g,s⟩,fun m f=> ?_,fun z G=> ?_⟩
  all_goals grind
theorem MW (hT:TOk P T) {n:Nat} {cs:List Value} (e: ∀(t:TypeId) (cs:List Value) (y:DataW H×List MemPlace) (ty:Ty),(T.at t).known=true->(T.at t).ty=a6 ty->DataW.trod enc P w 0 spare held n t cs=a6 y-> ∃x:ty.den,dM w (fun b=>b<w.heap.size) ty x cs/\wfD ty x):
  ∀(f:List (Nat×TypeId)) (off:Nat) (ty:Ty),iV T off f=a6 ty->(∀p∈f,∃y,DataW.trod enc P w 0 spare held n p.2 ((cs.drop p.1).take (P.cellsOf p.2))=a6 y)->
   ∃x:ty.den,dM w (fun b=>b<w.heap.size) ty x ((cs.drop off).take ty.size)/\wfD ty x
 |[],off,ty,h,_=>by
  simp only[iV,Option.some.injEq]at h;subst h;exact⟨(),by simp[dM,Ty.size],trivial⟩
 |(o,g)::l,off,ty,h,i=>by
  simp only[iV]at h;split at h
  .rename_i q
   split at h
   .rename_i a s
    split at h
    .rename_i d
     split at h
     .rename_i b u
      simp only[Option.some.injEq]at h;subst h q;obtain⟨y,j⟩:=i (o,g) (by simp);simp only[D8 hT d.2,<-d.1]at j;obtain⟨v,z,A⟩:=e g _ y a d.2 s j;obtain⟨B,D,E⟩:=MW hT e l _ b u fun p G=>i p (ak _ G);refine⟨(v,B),⟨_,_, ?_,z,D⟩,A,E⟩;simp_all [Ty.size,List.take_add]
     .cases h
    .cases h
   .cases h
  .cases h
theorem Ph (hT:TOk P T) (u:T.allK=true): ∀(o:Nat) (t:TypeId) (cs:List Value) (y:DataW H×List MemPlace) (ty:Ty),(T.at t).known=true->(T.at t).ty=a6 ty->DataW.trod enc P w 0 spare held o t cs=a6 y->
  ∃x:ty.den,dM w (fun b=>b<w.heap.size) ty x cs/\wfD ty x
 |0,t,cs,y,ty,_,_,h=>by simp[DataW.trod]at h
 |o+1,t,cs,y,ty,hk,L,h=>by
  obtain⟨ag,M,ah,N,-,-,-,-⟩:=hT t hk;obtain⟨d,hd,l⟩:=alB M;have g:jU T (T.at t).k=a6 ty:=by
   simp_all
  have hc:=D8 hT hk;have ai:=N ty L;cases d with
  |bool=>
   simp only[jE,Option.some.injEq]at l;rw[<-l]at g;simp only[jU,Option.some.injEq]at g;subst g;obtain⟨b,rfl,_⟩:=DataW.trod_bool hd h;exact⟨b,rfl,trivial⟩
  |int k=>
   simp only[jE,Option.some.injEq]at l;rw[<-l]at g;simp only[jU,Option.some.injEq]at g;subst g;obtain⟨b,rfl,_,B⟩:=DataW.trod_int hd h;exact⟨b,rfl,B⟩
  |string=>
   simp only[jE,Option.some.injEq]at l;rw[<-l]at g;simp only[jU,Option.some.injEq]at g;subst g;obtain⟨s,rfl,_,B⟩:=DataW.trod_string hd h;exact⟨s.data.toList,by simp[dM],(show s.data.toList.length<=maxLen from by assumption)⟩
  |slice e=>
   simp only[jE,Option.some.injEq]at l;rw[<-l]at g;simp only[jU,Option.map_eq_some_iff]at g;obtain⟨q,v,rfl⟩:=g;have z:=TT.allK_at T e u (by rw[v];rfl);have O:q.size=(T.at e).size:=(hT e z).2.2.2.1 q v;have S:=D8 hT z;rcases DataW.trod_slice hd h with ⟨rfl,_⟩|⟨a,D,U,aj,al,n,V,rfl,_,_,hl,hm,W,an,_,_⟩
   .exact⟨[],⟨a7,0,[],rfl,ae _,rfl,.inl rfl⟩,Nat.zero_le _,fun x X=>by cases X⟩
   .obtain rfl:n=o:=by omega
    have Y: ∀i,i<D-> ∃y,(w.cells? 0 (a.add (i*P.cellsOf e)) (P.cellsOf e)).bind (DataW.trod enc P w 0 spare held n e)=a6 y:=fun i Z=>by
     simp_all
    obtain⟨xs,E,A,G,h3,h4⟩:=YP (w:=w) (e:=q) (O.trans S.symm) (fun cs y hy=>Ph hT u n e cs y q z v hy) Y D 0 (by omega);refine⟨xs,⟨a6 a,U,E,by rw[A],by omega,G, ?_⟩,by rw[A];omega,h4⟩;by_cases hz:E=[]
    .exact .inl hz
    .have I:=h3 0 (List.length_pos_iff.2 hz);rw[show a.add (0*P.cellsOf e+0)=a by simp[Addr.add]]at I;obtain⟨J,K⟩:=alP I;obtain⟨ab,ao,au⟩:=a;simp only at J K;subst K;refine .inr ⟨ab,ao,rfl,J,fun j hj=> ?_⟩;simp_all [jm]
  |struct fs=>
   simp only[jE,Option.some.injEq]at l;rw[<-l]at g;simp only[jU]at g;obtain⟨xs,n,V,_,W,av,hf⟩:=DataW.trod_struct hd h;obtain rfl:n=o:=by omega
   obtain⟨x,A,G⟩:=MW (P:=P) (T:=T) (w:=w) (enc:=enc) (spare:=spare) (held:=held) (cs:=cs) hT (fun t cs y ty a b c=>Ph hT u n t cs y ty a b c) _ 0 ty g (fun p hp=>by
    obtain⟨f,ad,rfl⟩:=List.mem_map.1 hp;obtain⟨i,Z⟩:=List.getElem?_of_mem ad
    grind)
   grind
  |func a b c=>
   grind [jE,jU]
  |array a b=>simp[jE]at l
  |_=>
   grind [jE,jU]
theorem Og (hT:TOk P T) (z:T.allK=true) {t:TypeId} {v:Value} {d:DataW H} {D:List MemPlace} {r:Reach} {b0:Nat} {ty:Ty} (q:(T.at t).ty=a6 ty) (s:Value.okWide P w r b0 t v) (h:DataW.Trod enc P w 0 spare held t v d D):
  ∃x:ty.den,VD (jF w fun _=>False) ty x v/\wfD ty x:=by
 have hk:=TT.allK_at T t z (by rw[q];rfl);obtain⟨E,G⟩:=h;obtain⟨x,u,I⟩:=Ph hT z E t _ _ ty hk q G;have y:dM w (jF w fun _=>False).free ty x v.cells.toList:=dM.mono (fun b J=>⟨⟨J,(by rintro ⟨i,o,h,_⟩;simp[jF,cZ]at h),by simp[jF],fun h=>h⟩,rfl⟩) ty x _ u;refine⟨x, ?_,I⟩;obtain⟨N,K,L,-⟩:=hT t hk;obtain⟨A,hd,j⟩:=alB K;have g:jU T (T.at t).k=a6 ty:=by
  rcases L with u|u
  .rw[u]at q;cases q
  .rw[<-u,q]
 cases ha:ty.isAgg with
 |true=>
  cases A with
  |struct B=>
   obtain⟨cs,rfl,_⟩:=Go.WideShapes.okWide_struct hd s;exact(VD.agg ha).2 ⟨cs,rfl,y⟩
  |array a b=>simp[jE]at j
  |slice e=>
   simp only[jE,Option.some.injEq]at j;rw[<-j]at g;simp only[jU,Option.map_eq_some_iff]at g;obtain⟨O,_,rfl⟩:=g;cases ha
  |_=>
   simp only[jE,Option.some.injEq]at j;rw[<-j]at g;simp[jU]at g
   all_goals (subst g;cases ha)
 |false=>
  rw[VD.leaf ha];have M:v.cells= #[v]:=by
   cases A with
   |struct B=>
    simp only[jE,Option.some.injEq]at j;rw[<-j]at g;simp only[jU]at g;exfalso;cases hfs:(B.toList.map fun f=>(f.offset,f.type))with
    |nil=>rw[hfs]at g;simp only[iV,Option.some.injEq]at g;subst g;cases ha
    |cons p l=>
     rw[hfs]at g;simp only[iV]at g;split at g
     .split at g
      .split at g
       .split at g
        .simp only[Option.some.injEq]at g;subst g;cases ha
        .cases g
       .cases g
      .cases g
     .cases g
   |array a b=>simp[jE]at j
   |bool=>obtain⟨b,rfl⟩:=Go.WideShapes.okWide_bool hd s;rfl
   |int k=>obtain⟨b,rfl⟩:=Go.WideShapes.okWide_int hd s;rfl
   |string=>obtain⟨b,rfl⟩:=Go.WideShapes.okWide_string hd s;rfl
   |slice e=>obtain⟨a,b,c,rfl⟩:=Go.WideShapes.okWide_slice hd s;rfl
   |_=>
    simp only[jE,Option.some.injEq]at j;rw[<-j]at g;simp[jU]at g
  rw[M]at y;exact y
end
abbrev eG:Type:=Int×(List UInt8)×(Int×Int×Unit)
abbrev bW:Ty:=.int .i64
abbrev eX:Type:=Int×Int×Int×Int×Unit
abbrev bH:Type:=List UInt8
abbrev Px:Ty:=.pair bW (.pair bW .unit)
abbrev jY:Type:=Int×Int×Int×Int×Bool×Unit
abbrev taE:Type:=(List eG)×Int×(List eX)×Int×Int×Unit
abbrev RS:Ty:=.pair bW (.pair .str Px)
abbrev taF:Type:=(List eG)×bH×(List eX)×Int×Int×Int×Unit
abbrev Wj:Ty:=.pair bW (.pair bW (.pair bW (.pair .bool .unit)))
abbrev oV:Ty:=.pair bW (.pair bW Px)
abbrev mi:Type:=Int×Int×Unit
abbrev oU:Type:=bH×(bH×(Unit))
abbrev yc:Type:=Int×Int×Int×Bool×Unit
abbrev o8:Type:=Bool×Unit
abbrev Ht:Ty:=.pair .str (.pair .str .unit)
abbrev V8:Ty:=.pair .str (.pair .bool .unit)
abbrev V5:Type:=(List mi)×Bool×Int×Unit
abbrev mJ:Type:=Int×Int
abbrev jB:Type:=List (Int)
abbrev yf:Type:=taE×(Unit)
abbrev qE:Ty:=.list RS
abbrev EW:Type:=List (bH×o8)
abbrev EX:Type:=taF×(Unit)
abbrev Hr:Ty:=.pair bW Wj
abbrev EO:Type:=Int×Unit
abbrev tyJ:Ty:=.pair (.list V8) (.pair .bool .unit)
abbrev Dl:List (Ty×Bool):=[(.list RS,false),(.int .i64,false),(.list oV,true),(.int .i64,false),(.int .i64,false)]
abbrev tzB:List (Ty×Bool):=[(.list Px,true),(.bool,false),(.int .i64,false)]
abbrev Wl:List (Ty×Bool):=[(.bool,false)]
abbrev tzD:List (Ty×Bool):=[(.int .i64,false)]
abbrev tzE:List (Ty×Bool):=[(.int .i64,false),(.list Ht,true)]
abbrev tzF:List (Ty×Bool):=[(.pair bW (.pair bW (.pair bW (.pair .bool .unit))),false),(.pair bW tyJ,false)]
end
section
open Option renaming some → a6, none → a7
open Bool renaming and_eq_true → af, not_true → ax
open Nat renaming eq_of_beq_eq_true → ah
open Tryz
open Go.RowKit
def gQ:TI:=⟨true,.fn,1,8,a7,[.nilfn],false,false,true⟩
def ti2:TI:=⟨true,(.int .i64),1,8,a6 (.int .i64),[.val (.int .i64) 0],false,false,true⟩
def ti4:TI:=⟨true,.bool,1,1,a6 .bool,[.val .bool false],false,false,true⟩
def ti5:TI:=⟨true,(.int .u8),1,1,a6 (.int .u8),[.val (.int .u8) 0],false,false,true⟩
def ti7:TI:=⟨true,(.struct [(0,2),(1,3),(2,4),(3,6)]),4,24,a7,[.val (.int .i64) 0,.val (.int .i64) 0,.val .bool false,.val (.int .u8) 0],false,false,true⟩
def ti9:TI:=⟨true,.str,1,16,a6 .str,[.val .str []],false,false,true⟩
def an6:TI:=⟨true,(.int .u64),1,8,a6 (.int .u64),[.val (.int .u64) 0],false,false,true⟩
def atT:TI:=⟨true,(.struct [(0,9),(1,12)]),2,24,a6 (.pair .str (.pair (.int .u64) .unit)),[.val .str [],.val (.int .u64) 0],false,false,true⟩
def auU:TI:=⟨true,(.ptr 253),1,8,a7,[.nilp],false,false,true⟩
def auV:TI:=⟨true,(.ptr 256),1,8,a7,[.nilp],false,false,true⟩
def auW:TI:=⟨true,(.ptr 263),1,8,a7,[.nilp],false,false,true⟩
def aua:TI:=⟨true,(.struct [(0,17)]),1,8,a7,[.nilp],false,false,true⟩
def ar4:TI:=⟨true,(.int .i32),1,4,a6 (.int .i32),[.val (.int .i32) 0],false,false,true⟩
def auX:TI:=⟨true,(.slice 41),1,24,a6 (.list (.pair .str (.pair .str .unit))),[.nils],false,false,true⟩
def auY:TI:=⟨true,(.ptr 79),1,8,a7,[.nilp],false,false,true⟩
def auZ:TI:=⟨true,(.slice 32),1,24,a6 (.list (.pair (.int .i64) (.pair (.int .i64) (.pair (.int .i64) (.pair .bool .unit))))),[.nils],false,false,true⟩
def au0:TI:=⟨true,(.struct [(0,3),(1,3),(2,3),(3,4)]),4,32,a6 (.pair (.int .i64) (.pair (.int .i64) (.pair (.int .i64) (.pair .bool .unit)))),[.val (.int .i64) 0,.val (.int .i64) 0,.val (.int .i64) 0,.val .bool false],false,false,true⟩
def au1:TI:=⟨true,(.struct [(0,3),(1,3),(2,3),(3,4)]),4,32,a6 (.pair (.int .i64) (.pair (.int .i64) (.pair (.int .i64) (.pair .bool .unit)))),[.val (.int .i64) 0,.val (.int .i64) 0,.val (.int .i64) 0,.val .bool false],true,false,true⟩
def au2:TI:=⟨true,(.struct [(0,9),(1,9)]),2,32,a6 (.pair .str (.pair .str .unit)),[.val .str [],.val .str []],false,false,true⟩
def au3:TI:=⟨true,(.struct [(0,9),(1,9)]),2,32,a6 (.pair .str (.pair .str .unit)),[.val .str [],.val .str []],true,false,true⟩
def au4:TI:=⟨true,(.slice 149),1,24,a6 (.list (.pair .str (.pair .bool .unit))),[.nils],false,false,true⟩
def au5:TI:=⟨true,(.struct [(0,3),(1,48),(2,4)]),3,40,a6 (.pair (.int .i64) (.pair (.list (.pair .str (.pair .bool .unit))) (.pair .bool .unit))),[.val (.int .i64) 0,.nils,.val .bool false],false,false,true⟩
def au6:TI:=⟨true,(.struct [(0,3),(1,48),(2,4)]),3,40,a6 (.pair (.int .i64) (.pair (.list (.pair .str (.pair .bool .unit))) (.pair .bool .unit))),[.val (.int .i64) 0,.nils,.val .bool false],false,false,false⟩
def au7:TI:=⟨true,(.slice 66),1,24,a6 (.list (.pair (.int .i64) (.pair .str (.pair (.int .i64) (.pair (.int .i64) .unit))))),[.nils],false,false,true⟩
def au8:TI:=⟨true,(.map 3 3),1,8,a7,[.undef],false,false,true⟩
def au9:TI:=⟨true,(.slice 62),1,24,a6 (.list (.pair (.int .i64) (.pair (.int .i64) (.pair (.int .i64) (.pair (.int .i64) .unit))))),[.nils],false,false,true⟩
def ava:TI:=⟨true,(.struct [(0,3),(1,3),(2,3),(3,3)]),4,32,a6 (.pair (.int .i64) (.pair (.int .i64) (.pair (.int .i64) (.pair (.int .i64) .unit)))),[.val (.int .i64) 0,.val (.int .i64) 0,.val (.int .i64) 0,.val (.int .i64) 0],false,false,true⟩
def avb:TI:=⟨true,(.struct [(0,3),(1,3),(2,3),(3,3)]),4,32,a6 (.pair (.int .i64) (.pair (.int .i64) (.pair (.int .i64) (.pair (.int .i64) .unit)))),[.val (.int .i64) 0,.val (.int .i64) 0,.val (.int .i64) 0,.val (.int .i64) 0],true,false,true⟩
def avc:TI:=⟨true,(.struct [(0,3),(1,9),(2,3),(3,3)]),4,40,a6 (.pair (.int .i64) (.pair .str (.pair (.int .i64) (.pair (.int .i64) .unit)))),[.val (.int .i64) 0,.val .str [],.val (.int .i64) 0,.val (.int .i64) 0],false,false,true⟩
def avd:TI:=⟨true,(.struct [(0,3),(1,9),(2,3),(3,3)]),4,40,a6 (.pair (.int .i64) (.pair .str (.pair (.int .i64) (.pair (.int .i64) .unit)))),[.val (.int .i64) 0,.val .str [],.val (.int .i64) 0,.val (.int .i64) 0],true,false,true⟩
def ave:TI:=⟨true,(.slice 4),1,24,a6 (.list .bool),[.nils],false,false,true⟩
def avf:TI:=⟨true,(.slice 5),1,24,a6 (.list (.int .u8)),[.nils],false,false,true⟩
def avg:TI:=⟨true,(.slice 3),1,24,a6 (.list (.int .i64)),[.nils],false,false,true⟩
def aum:TI:=⟨true,(.struct [(0,3),(1,22)]),2,32,a6 (.pair (.int .i64) (.pair (.list (.pair .str (.pair .str .unit))) .unit)),[.val (.int .i64) 0,.nils],false,false,true⟩
def avh:TI:=⟨true,(.ptr 90),1,8,a7,[.nilp],false,false,true⟩
def aun:TI:=⟨true,(.struct [(0,53),(1,3),(2,59),(3,3),(4,3)]),5,72,a6 (.pair (.list (.pair (.int .i64) (.pair .str (.pair (.int .i64) (.pair (.int .i64) .unit))))) (.pair (.int .i64) (.pair (.list (.pair (.int .i64) (.pair (.int .i64) (.pair (.int .i64) (.pair (.int .i64) .unit))))) (.pair (.int .i64) (.pair (.int .i64) .unit))))),[.nils,.val (.int .i64) 0,.nils,.val (.int .i64) 0,.val (.int .i64) 0],false,false,true⟩
def avj:TI:=⟨true,(.ptr 100),1,8,a7,[.nilp],false,false,true⟩
def auo:TI:=⟨true,(.struct [(0,53),(1,9),(2,59),(3,3),(4,3),(5,3)]),6,88,a6 (.pair (.list (.pair (.int .i64) (.pair .str (.pair (.int .i64) (.pair (.int .i64) .unit))))) (.pair .str (.pair (.list (.pair (.int .i64) (.pair (.int .i64) (.pair (.int .i64) (.pair (.int .i64) .unit))))) (.pair (.int .i64) (.pair (.int .i64) (.pair (.int .i64) .unit)))))),[.nils,.val .str [],.nils,.val (.int .i64) 0,.val (.int .i64) 0,.val (.int .i64) 0],false,false,true⟩
def atO:TI:=⟨true,(.int .u32),1,4,a6 (.int .u32),[.val (.int .u32) 0],false,false,true⟩
def atP:TI:=⟨true,(.ptr 128),1,8,a7,[.nilp],false,false,true⟩
def atQ:TI:=⟨true,(.struct [(0,126),(1,74)]),2,32,a7,[.nilp,.nils],false,false,true⟩
def atS:TI:=⟨true,(.struct [(0,126),(1,74)]),2,32,a7,[.nilp,.nils],false,true,true⟩
def atU:TI:=⟨true,(.ptr 3),1,8,a7,[.nilp],false,false,true⟩
def atV:TI:=⟨true,(.struct [(0,9),(1,4)]),2,24,a6 (.pair .str (.pair .bool .unit)),[.val .str [],.val .bool false],false,false,true⟩
def atW:TI:=⟨true,(.struct [(0,9),(1,4)]),2,24,a6 (.pair .str (.pair .bool .unit)),[.val .str [],.val .bool false],true,false,true⟩
def atX:TI:=⟨true,(.ptr 5),1,8,a7,[.nilp],false,false,true⟩
def atY:TI:=⟨true,(.ptr 140),1,8,a7,[.nilp],false,false,true⟩
def aoZ:TI:=⟨true,(.struct [(0,9),(1,76),(2,4)]),3,48,a6 (.pair .str (.pair (.list (.int .i64)) (.pair .bool .unit))),[.val .str [],.nils,.val .bool false],false,false,true⟩
def atZ:TI:=⟨true,(.slice 171),1,24,a6 (.list (.pair .bool (.pair .bool (.pair .str .unit)))),[.nils],false,false,true⟩
def at1:TI:=⟨true,(.struct [(0,4),(1,4),(2,9)]),3,24,a6 (.pair .bool (.pair .bool (.pair .str .unit))),[.val .bool false,.val .bool false,.val .str []],false,false,true⟩
def at6:TI:=⟨true,(.struct [(0,4),(1,4),(2,9)]),3,24,a6 (.pair .bool (.pair .bool (.pair .str .unit))),[.val .bool false,.val .bool false,.val .str []],true,false,true⟩
def at7:TI:=⟨true,(.ptr 216),1,8,a7,[.nilp],false,false,true⟩
def aub:TI:=⟨true,(.slice 214),1,24,a6 (.list (.pair (.int .i64) (.pair (.int .i64) .unit))),[.nils],false,false,true⟩
def auc:TI:=⟨true,(.ptr 220),1,8,a7,[.nilp],false,false,true⟩
def aud:TI:=⟨true,(.slice 200),1,24,a6 (.list (.pair (.int .i64) (.pair (.int .i64) (.pair (.int .i64) (.pair (.int .i64) (.pair .bool .unit)))))),[.nils],false,false,true⟩
def aue:TI:=⟨true,(.struct [(0,3),(1,3),(2,3),(3,3),(4,4)]),5,40,a6 (.pair (.int .i64) (.pair (.int .i64) (.pair (.int .i64) (.pair (.int .i64) (.pair .bool .unit))))),[.val (.int .i64) 0,.val (.int .i64) 0,.val (.int .i64) 0,.val (.int .i64) 0,.val .bool false],false,false,true⟩
def auf:TI:=⟨true,(.struct [(0,3),(1,3),(2,3),(3,3),(4,4)]),5,40,a6 (.pair (.int .i64) (.pair (.int .i64) (.pair (.int .i64) (.pair (.int .i64) (.pair .bool .unit))))),[.val (.int .i64) 0,.val (.int .i64) 0,.val (.int .i64) 0,.val (.int .i64) 0,.val .bool false],true,false,true⟩
def aug:TI:=⟨true,(.ptr 208),1,8,a7,[.nilp],false,false,true⟩
def auh:TI:=⟨true,(.struct [(0,3),(1,3)]),2,16,a6 (.pair (.int .i64) (.pair (.int .i64) .unit)),[.val (.int .i64) 0,.val (.int .i64) 0],false,false,true⟩
def aui:TI:=⟨true,(.struct [(0,3),(1,3)]),2,16,a6 (.pair (.int .i64) (.pair (.int .i64) .unit)),[.val (.int .i64) 0,.val (.int .i64) 0],true,false,true⟩
def ao0:TI:=⟨true,(.struct [(0,181),(1,4),(2,3)]),3,40,a6 (.pair (.list (.pair (.int .i64) (.pair (.int .i64) .unit))) (.pair .bool (.pair (.int .i64) .unit))),[.nils,.val .bool false,.val (.int .i64) 0],false,false,true⟩
def ao1:TI:=⟨true,(.struct [(0,9),(1,197),(2,55)]),3,48,a7,[.val .str [],.nils,.undef],false,false,true⟩
def auj:TI:=⟨true,(.slice 165),1,24,a6 (.list (.pair .str (.pair (.list (.int .i64)) (.pair .bool .unit)))),[.nils],false,false,true⟩
def ao2:TI:=⟨true,(.struct [(0,5),(1,5)]),2,2,a6 (.pair (.int .u8) (.pair (.int .u8) .unit)),[.val (.int .u8) 0,.val (.int .u8) 0],false,false,true⟩
def auk:TI:=⟨true,(.ptr 241),1,8,a7,[.nilp],false,false,true⟩
def ao3:TI:=⟨true,(.struct [(0,197),(1,76)]),2,48,a6 (.pair (.list (.pair (.int .i64) (.pair (.int .i64) (.pair (.int .i64) (.pair (.int .i64) (.pair .bool .unit)))))) (.pair (.list (.int .i64)) .unit)),[.nils,.nils],false,false,true⟩
def aul:TI:=⟨true,(.ptr 200),1,8,a7,[.nilp],false,false,true⟩
def ao4:TI:=⟨true,(.struct [(0,17),(1,17),(2,17),(3,9)]),4,40,a7,[.nilp,.nilp,.nilp,.val .str []],false,false,true⟩
def ao5:TI:=⟨true,(.struct [(0,12),(1,12),(2,120),(3,257),(4,5),(5,5),(6,258),(7,259),(8,150),(9,260),(10,261)]),11,48,a7,[.val (.int .u64) 0,.val (.int .u64) 0,.val (.int .u32) 0,.val (.int .u8) 0,.val (.int .u8) 0,.val (.int .u8) 0,.val (.int .u8) 0,.nilfn,.nilp,.val (.int .i32) 0,.val (.int .i32) 0],false,false,true⟩
def tt:TT:=(.node 126 atP (.node 64 gQ (.node 31 au0 (.node 16 auV (.node 9 ti9 (.node 4 ti4 (.node 2 ti2 (.node 1 gQ .nil .nil) (.node 3 ti2 .nil .nil)) (.node 7 ti7 (.node 5 ti5 .nil .nil) (.node 8 ti7 .nil .nil))) (.node 13 atT (.node 11 ti9 (.node 10 ti9 .nil .nil) (.node 12 an6 .nil .nil)) (.node 15 auU (.node 14 atT .nil .nil) .nil))) (.node 24 gQ (.node 21 ar4 (.node 18 aua (.node 17 auW .nil .nil) (.node 19 aua .nil .nil)) (.node 23 gQ (.node 22 auX .nil .nil) .nil)) (.node 28 auZ (.node 26 gQ (.node 25 auY .nil .nil) (.node 27 gQ .nil .nil)) (.node 30 gQ (.node 29 gQ .nil .nil) .nil)))) (.node 48 au4 (.node 40 au2 (.node 36 gQ (.node 33 ti2 (.node 32 au1 .nil .nil) (.node 35 gQ .nil .nil)) (.node 38 gQ (.node 37 gQ .nil .nil) (.node 39 gQ .nil .nil))) (.node 44 gQ (.node 42 gQ (.node 41 au3 .nil .nil) (.node 43 gQ .nil .nil)) (.node 47 gQ (.node 45 gQ .nil .nil) .nil))) (.node 56 gQ (.node 53 au7 (.node 50 au6 (.node 49 au5 .nil .nil) (.node 52 gQ .nil .nil)) (.node 55 au8 (.node 54 gQ .nil .nil) .nil)) (.node 60 gQ (.node 58 gQ (.node 57 gQ .nil .nil) (.node 59 au9 .nil .nil)) (.node 62 avb (.node 61 ava .nil .nil) .nil))))) (.node 95 gQ (.node 81 gQ (.node 73 gQ (.node 68 gQ (.node 66 avd (.node 65 avc .nil .nil) (.node 67 gQ .nil .nil)) (.node 70 ave (.node 69 gQ .nil .nil) (.node 71 gQ .nil .nil))) (.node 77 gQ (.node 75 gQ (.node 74 avf .nil .nil) (.node 76 avg .nil .nil)) (.node 79 aum (.node 78 aum .nil .nil) .nil))) (.node 88 avh (.node 85 gQ (.node 83 gQ (.node 82 gQ .nil .nil) (.node 84 gQ .nil .nil)) (.node 87 gQ (.node 86 gQ .nil .nil) .nil)) (.node 92 gQ (.node 90 aun (.node 89 aun .nil .nil) (.node 91 gQ .nil .nil)) (.node 94 gQ (.node 93 gQ .nil .nil) .nil)))) (.node 111 gQ (.node 103 gQ (.node 99 auo (.node 97 gQ (.node 96 an6 .nil .nil) (.node 98 avj .nil .nil)) (.node 101 gQ (.node 100 auo .nil .nil) (.node 102 gQ .nil .nil))) (.node 107 gQ (.node 105 gQ (.node 104 gQ .nil .nil) (.node 106 gQ .nil .nil)) (.node 109 gQ (.node 108 gQ .nil .nil) .nil))) (.node 119 gQ (.node 116 gQ (.node 113 ti2 (.node 112 gQ .nil .nil) (.node 115 gQ .nil .nil)) (.node 118 gQ (.node 117 gQ .nil .nil) .nil)) (.node 123 gQ (.node 121 gQ (.node 120 atO .nil .nil) (.node 122 an6 .nil .nil)) (.node 125 gQ (.node 124 gQ .nil .nil) .nil)))))) (.node 191 gQ (.node 159 gQ (.node 144 atU (.node 137 gQ (.node 133 gQ (.node 128 atS (.node 127 atQ .nil .nil) (.node 132 gQ .nil .nil)) (.node 135 gQ (.node 134 gQ .nil .nil) (.node 136 gQ .nil .nil))) (.node 141 gQ (.node 139 gQ (.node 138 gQ .nil .nil) (.node 140 an6 .nil .nil)) (.node 143 gQ (.node 142 gQ .nil .nil) .nil))) (.node 152 gQ (.node 149 atW (.node 147 gQ (.node 145 gQ .nil .nil) (.node 148 atV .nil .nil)) (.node 151 gQ (.node 150 atX .nil .nil) .nil)) (.node 156 gQ (.node 154 gQ (.node 153 gQ .nil .nil) (.node 155 gQ .nil .nil)) (.node 158 gQ (.node 157 gQ .nil .nil) .nil)))) (.node 176 gQ (.node 167 gQ (.node 163 gQ (.node 161 gQ (.node 160 gQ .nil .nil) (.node 162 atY .nil .nil)) (.node 165 aoZ (.node 164 aoZ .nil .nil) (.node 166 gQ .nil .nil))) (.node 171 at6 (.node 169 gQ (.node 168 atZ .nil .nil) (.node 170 at1 .nil .nil)) (.node 174 gQ (.node 172 gQ .nil .nil) .nil))) (.node 184 gQ (.node 180 gQ (.node 178 at7 (.node 177 gQ .nil .nil) (.node 179 gQ .nil .nil)) (.node 183 gQ (.node 181 aub .nil .nil) .nil)) (.node 188 gQ (.node 186 gQ (.node 185 gQ .nil .nil) (.node 187 gQ .nil .nil)) (.node 190 gQ (.node 189 auc .nil .nil) .nil))))) (.node 226 gQ (.node 210 gQ (.node 199 aue (.node 195 gQ (.node 193 gQ (.node 192 gQ .nil .nil) (.node 194 gQ .nil .nil)) (.node 197 aud (.node 196 gQ .nil .nil) (.node 198 gQ .nil .nil))) (.node 204 gQ (.node 202 gQ (.node 200 auf .nil .nil) (.node 203 gQ .nil .nil)) (.node 206 gQ (.node 205 gQ .nil .nil) .nil))) (.node 217 gQ (.node 214 aui (.node 212 aug (.node 211 gQ .nil .nil) (.node 213 auh .nil .nil)) (.node 216 ao0 (.node 215 ao0 .nil .nil) .nil)) (.node 221 gQ (.node 219 ao1 (.node 218 gQ .nil .nil) (.node 220 ao1 .nil .nil)) (.node 224 gQ (.node 223 gQ .nil .nil) .nil)))) (.node 243 aul (.node 235 ao2 (.node 230 auj (.node 228 gQ (.node 227 gQ .nil .nil) (.node 229 gQ .nil .nil)) (.node 232 gQ (.node 231 gQ .nil .nil) (.node 234 ao2 .nil .nil))) (.node 240 ao3 (.node 238 gQ (.node 237 gQ .nil .nil) (.node 239 auk .nil .nil)) (.node 242 gQ (.node 241 ao3 .nil .nil) .nil))) (.node 252 ao4 (.node 248 gQ (.node 245 gQ (.node 244 gQ .nil .nil) (.node 247 gQ .nil .nil)) (.node 251 gQ (.node 250 gQ .nil .nil) .nil)) (.node 261 ar4 (.node 259 gQ (.node 253 ao4 .nil .nil) (.node 260 ar4 .nil .nil)) (.node 263 ao5 (.node 262 ao5 .nil .nil) .nil)))))))
theorem aoa {P:Program} {t:TypeId} {j:TypeInfo} {k:IntKind} (h:(P.info? t).map (·.zero)=a6 (a6 (.int k 0))) (d:P.info? t=a6 j):j.zero=a6 (.int k 0):=by rw[d]at h;simpa using h
theorem tkN {P:Program} {T:TT} {t:TypeId} {i:TI} (v:(P.info? t).map (fun f=>(f.size,f.bytes,f.zero.map fun z=>(z.cells.toList.map uk,z.cells.toList.all Value.oneCell')))=a6 (i.size,i.bytes,a6 (i.zero,true)):=by kernel_rfl)
  (h2:(P.underlying t).map jE=a6 (a6 i.k):=by kernel_rfl) (g:(match i.ty with|none=>a7|some _=>i.ty)=(match i.ty with|none=>a7|some _=>jU T i.k):=by kernel_rfl) (l:(match i.ty with|none=>true|some y=>Nat.beq y.size i.size)=true:=by kernel_rfl) (p:(i.isAgg||Nat.beq i.size 1)=true:=by kernel_rfl)
  (e:(!i.eq||(!P.eqGuardType P.depth t&&(!P.stoodInHeld t&&((P.underlying t).map (fun d=>match d with|.struct fs=>fs.toList.all fun f=>f.name != "_" |_=>false)).getD false)))=true:=by kernel_rfl)
  (x:(P.underlying t).map (fun d=>match d with|.struct fs=>fs.toList.all fun f=>(P.info? f.type).isSome|_=>true)=a6 true:=by kernel_rfl) (A:Nat.beq i.zero.length i.size=true:=by kernel_rfl)
  (q:(match i.ty with|some (.int .u8)=>Nat.beq t lu|_=>true)=true:=by kernel_rfl) (s:(!i.bld||Nat.beq t Qm)=true:=by kernel_rfl)
  (u:(match i.k with|.int _=>(P.info? t).map (fun j:TypeInfo=>j.zero)|_=>a7)=(match i.k with|.int k=>a6 (a6 (Value.int k 0))|_=>a7):=by kernel_rfl):apc P T t i:=fun _=>by
 refine⟨v,h2, ?_,fun y B=> ?_, ?_,fun D=> ?_,x,ah A,fun E=> ?_,fun G=> ?_,fun k hk j I=> ?_⟩
 .cases hi:i.ty with
  |none=>exact .inl rfl
  |some y=>rw[hi]at g;exact .inr g
 .rw[B]at l;exact ah l
 .rw[Bool.or_eq_true]at p;exact p.imp id ah
 .rw[D]at e;simp only[ax,Bool.false_or,af,Bool.not_eq_true']at e;refine⟨e.1,e.2.1, ?_⟩;have h:=e.2.2;generalize (P.underlying t).map _=o at h ⊢;cases o with
  |none=>cases h
  |some b=>exact congrArg a6 h
 .rw[E]at q;exact ah q
 .rw[G]at s;exact ah s
 .rw[hk]at u;exact aoa u I
theorem tok:TOk prog tt:=TOk.of_all (by repeat' first|exact trivial|refine⟨tkN, ?_, ?_⟩)
def aqI (P:Program):Bool:=P.funcs.toList.all fun fn=>fn.body.isNone|| !(fn.name== "runtime.NumGoroutine")
theorem ajD {P:Program} (h:aqI P=true):EZ P:=fun f fn c d e=>by
 have g:=List.all_eq_true.1 h fn (by have:=Array.mem_of_getElem? d;simpa using this);simpa [e] using g
theorem JS:EZ prog:=ajD (by kernel_rfl)
theorem mixed:prog.follows .mixedOrders=true:=by kernel_rfl
noncomputable def sg0 (g:FuncId):Option Sum:=cond (Nat.beq g 216) (a6 alp)<|cond (Nat.beq g 131) (a6 V3) a7
theorem ako: ∀g s,sg0 g=a6 s->dO prog g s:=fun g s h=>by
 unfold sg0 at h;rw[cond_eq_ite]at h;split at h
 .rename_i d
  obtain rfl:g=216:=ah d;cases h;exact(Zd func216 (by kernel_rfl) (by kernel_rfl) (by kernel_rfl) (by kernel_rfl))
 rw[cond_eq_ite]at h;split at h
 .rename_i d
  obtain rfl:g=131:=ah d;cases h;exact(RN func131 (by kernel_rfl) (by kernel_rfl) (by kernel_rfl) (by kernel_rfl))
 cases h
def ahd:Go.Shelf.Ren:=⟨fun|240=>123|276=>156|n=>n,fun|0=>0|4=>4|9=>9|20=>20|37=>74|70=>126|72=>128|164=>173|n=>n,fun n=>n⟩
theorem abv:Go.Proofs.Lays.n240 prog ahd:={
 mixed:=mixed,
 f240:=(func123).trans (by kernel_rfl),
 f276:=(func156).trans (by kernel_rfl),
 t0:=underlying0,a0:=isAgg0,z0:=sizeOf0,v0:=zeroValue0,
 t4:=underlying4,a4:=isAgg4,z4:=sizeOf4,v4:=zeroValue4,
 t9:=underlying9,a9:=isAgg9,z9:=sizeOf9,v9:=zeroValue9,
 t20:=underlying20,a20:=isAgg20,z20:=sizeOf20,v20:=zeroValue20,
 t70:=underlying126,a70:=isAgg126,z70:=sizeOf126,v70:=zeroValue126,
 t72:=underlying128,a72:=isAgg128,z72:=sizeOf128,v72:=zeroValue128,
 t164:=underlying173,a164:=isAgg173,z164:=sizeOf173,v164:=zeroValue173}
theorem asv:Go.Proofs.Builder.X72 prog ahd:={sizeBuilder:=by kernel_rfl,liesBuilder:=by kernel_rfl}
theorem alQ:LD prog Ap 123:=by
 intro w b t o n e d;simp[Ap,asz]at d
theorem alR (g:FuncId) (h:Dq g=true):uT prog Ap g:=by
 simp only[Dq,af]at h;obtain rfl:g=123:=ah h.1;exact⟨fun w b e f=>⟨yA JS func123 (show f123.body=a6 ((f123.body).getD .skip) by kernel_rfl) _ _,fun d=>Any.Builder_copyCheck_used abv asv b w d,fun d=>Any.Builder_copyCheck_fresh abv asv b w d e f⟩,alQ⟩
theorem apZ (g:FuncId) (h:Dt g=true):EY prog g:=by
 simp only[Dt,af]at h;obtain rfl:g=ae1:=ah h.1;exact ae3
noncomputable def asJ:Env:={P:=prog,T:=tt,cl:=true,kp:=fun _ _=>a7,sg:=fun _=>a7,lp:=fun _ _=>a7}
theorem al0:eP asJ:=⟨tok,mixed,JS,(fun _ _ h=>by cases h),(fun f fn c _ _=>ig (fun _=>rfl) (fun _=>rfl) c),(fun f k iK d hr=>ac4 (fun f fn c _ _=>ig (fun _=>rfl) (fun _=>rfl) c) f k iK d hr),(fun g=>⟨(fun h=>by cases h),(fun h=>by cases h),(fun h=>by cases h)⟩),(fun _ _ h=>by cases h)⟩
theorem aky:jK asJ 1000000 (.call VL [.nils,.fn zu []]) ⟨[],[],[],0⟩ (fun v st=>match v with|.tup []=>a6 ()|_=>a7)=a6 ():=by kernel_rfl
theorem an1 (w:World) (g:Sj w):Calls prog VL #[.slice a7 0 0,.func (.func zu) #[] #[]] w fun e w'=>e=.returned (.tuple #[])/\w.grownBy w' a7:=by
 refine(zY al0 1000000 _ w VL [.nils,.fn zu []] _ _ () aky 0 a7 (jF w fun _=>False) ⟨#[],[]⟩ [] #[.slice a7 0 0,.func (.func zu) #[] #[]] (xk g (fun b h=>h.elim)) (by simp[bg,bu]) (fun e w'=>e=.returned (.tuple #[])/\w.grownBy w' a7) fun l z u o k1 k2 k3 k4=> ?_).2;split at k1
 .simp only[bu]at k3;obtain⟨f,rfl,i⟩:=k3;have j:f= #[]:=by
   obtain⟨f⟩:=f;cases f with
   |nil=>rfl
   |cons _ _=>simp[bg]at i
  have d:=k2.ok.bel;exact⟨by rw[j],⟨d.os,d.tape,d.output,d.size,fun k hk _=>d.block k hk⟩⟩
 .cases k1
theorem arv (g:FuncId) (h:Du g=true):E5 prog g zu:=by
 simp only[Du,af]at h;obtain rfl:g=VL:=ah h.1;exact afK an1
theorem MJ (g:FuncId):(Dq g=true->uT prog Ap g)/\(Dt g=true->EY prog g)/\(Du g=true->E5 prog g zu):=⟨alR g,apZ g,arv g⟩
noncomputable def ahm:Env:={P:=prog,T:=tt,cl:=true,kp:=fun _ _=>a7,sg:=sg0,lp:=fun _ _=>a7,bf:=Dq,em:=Ap,il:=Dt,sl:=Du,sc:=zu}
theorem YO: ∀E,qf prog E->Zt E:=fun E h f k iK d hr=>ac4 h f k iK d hr
theorem abA:eP ahm:=⟨tok,mixed,JS,ako,fun f fn c _ _=>ig (fun _=>rfl) (fun _=>rfl) c,YO _ fun f fn c _ _=>ig (fun _=>rfl) (fun _=>rfl) c,MJ,fun _ _ h=>by cases h⟩
abbrev uP:Ty:=(.pair .str (.pair .bool .unit))
def tu (l:List uP.den):Option (List uP.den):=cond (dZ l 24) (a6 l) a7
theorem SI (xs:List uP.den):jK ahm 1000000 (.call 134 [.lst uP xs false]) ⟨[],[],[],0⟩ (fun v st=>jd true [(.list uP,true)] (Bl 1 v) st.hp)=(bif dZ xs 24 then a6 (xs,())else a7):=by kernel_rfl
theorem SL:jK ahm 1000000 (.call 134 [.lst uP [] true]) ⟨[],[],[],0⟩ (fun v st=>match v,st.hp with|.nils,[]=>a6 ()|_,_=>a7)=a6 ():=by kernel_rfl
def pq (l:List uP.den):Option (List uP.den×Unit):=match tu l with|some y=>a6 (y,())|none=>a7
def Ku:Sum:=⟨[.list uP],[(.list uP,true)],fun x=>pq x.1⟩
theorem uI:dO prog 134 Ku:=by
 have base:=zG abA (e:=uP) (e2:=uP) (g:=134) (f:=tu) (show 0<uP.size by decide) (show 0<uP.size by decide) (fun xs y h=>by
  unfold tu at h;rw[SI];cases hf:dZ xs 24 with
  |true=>rw[hf]at h;cases h;rfl
  |false=>rw[hf]at h;cases h) fun y h=>by
  have e:tu []=a6 []:=rfl;rw[e]at h;cases h;exact⟨rfl,SL⟩
 intro w i j x y l o hd d;refine base w i j x y l o hd ?_;have d:pq x.1=a6 y:=d;unfold pq at d;cases hc:tu x.1 with
 |none=>rw[hc]at d;cases d
 |some z=>rw[hc]at d;simp only[hc];exact d
abbrev uQ:Ty:=(.pair (.int .i64) (.pair (.int .i64) .unit))
def pg (l:List uQ.den):Option (List uQ.den):=cond (dZ l 16) (a6 l) a7
theorem SK (xs:List uQ.den):jK ahm 1000000 (.call 246 [.lst uQ xs false]) ⟨[],[],[],0⟩ (fun v st=>jd true [(.list uQ,true)] (Bl 1 v) st.hp)=(bif dZ xs 16 then a6 (xs,())else a7):=by kernel_rfl
theorem SN:jK ahm 1000000 (.call 246 [.lst uQ [] true]) ⟨[],[],[],0⟩ (fun v st=>match v,st.hp with|.nils,[]=>a6 ()|_,_=>a7)=a6 ():=by kernel_rfl
def lT (l:List uQ.den):Option (List uQ.den×Unit):=match pg l with|some y=>a6 (y,())|none=>a7
def vZ:Sum:=⟨[.list uQ],[(.list uQ,true)],fun x=>lT x.1⟩
theorem uJ:dO prog 246 vZ:=by
 have base:=zG abA (e:=uQ) (e2:=uQ) (g:=246) (f:=pg) (show 0<uQ.size by decide) (show 0<uQ.size by decide) (fun xs y h=>by
  unfold pg at h;rw[SK];cases hf:dZ xs 16 with
  |true=>rw[hf]at h;cases h;rfl
  |false=>rw[hf]at h;cases h) fun y h=>by
  have e:pg []=a6 []:=rfl;rw[e]at h;cases h;exact⟨rfl,SN⟩
 intro w i j x y l o hd d;refine base w i j x y l o hd ?_;have d:lT x.1=a6 y:=d;unfold lT at d;cases hc:pg x.1 with
 |none=>rw[hc]at d;cases d
 |some z=>rw[hc]at d;simp only[hc];exact d
noncomputable def sg1 (g:FuncId):Option Sum:=cond (Nat.beq g 134) (a6 Ku)<|cond (Nat.beq g 246) (a6 vZ)<|sg0 g
theorem aa8: ∀g s,sg1 g=a6 s->dO prog g s:=fun g s h=>by
 unfold sg1 at h;rw[cond_eq_ite]at h;split at h
 .rename_i d
  obtain rfl:g=134:=ah d;cases h;exact uI
 rw[cond_eq_ite]at h;split at h
 .rename_i d
  obtain rfl:g=246:=ah d;cases h;exact uJ
 exact ako g s h
noncomputable def auK:Env:={P:=prog,T:=tt,cl:=true,kp:=fun _ _=>a7,sg:=sg1,lp:=fun _ _=>a7,bf:=Dq,em:=Ap,il:=Dt,sl:=Du,sc:=zu}
theorem aus:eP auK:=⟨tok,mixed,JS,aa8,fun f fn c _ _=>ig (fun _=>rfl) (fun _=>rfl) c,YO _ fun f fn c _ _=>ig (fun _=>rfl) (fun _=>rfl) c,MJ,fun _ _ h=>by cases h⟩
end
section
open Go.ChangeShapes Go.WideShapes Go.RowKit
end
section
open Option renaming some → a6, none → a7
open Tryz
open Go.RowKit
theorem lpS {E:Env} {f:FuncId} {c:Code} {k:dW} {l i j:SP} {p q:Ex} {D:Nat} {lp:Nat->l.den->Option (i.den⊕j.den)}
  (st:{g:Type}->(l.den->Option g)->(i.den->Option g)->(j.den->Option g)->l.den->Option g)
  (hk:E.kp f (bM c)=a6 k:=by kernel_rfl) (s: ∀v,lp 0 v=a7:=by intro _;rfl) (u: ∀n v,lp (n+1) v=st (lp n) (fun e=>a6 (.inl e)) (fun r=>a6 (.inr r)) v:=by intro _ _;rfl)
  (A: ∀{R:Type} (d n:Nat) (K:Ex->St->Option R) (v:l.den),iter (a6 k) (Bo E (d+D) f c) (n+1) (jR l v) K=st (fun v=>iter (a6 k) (Bo E (d+D) f c) n (jR l v) K) (fun e=>K p (jR i e)) (fun r=>K q (jR j r)) v:=by intro _ d n K v;kernel_rfl)
  (h2: ∀{g B:Type} (x:l.den->Option g) (y:i.den->Option g) (z:j.den->Option g) (v:l.den) (K:g->Option B),aZ (st x y z v) K=st (fun v=>aZ (x v) K) (fun e=>aZ (y e) K) (fun r=>aZ (z r) K) v):
  dU E f c (jb k l i j p (fun v=>lp bD v) D q):=by
 refine afh hk fun R d K v o h=>⟨bD, ?_⟩;have G: ∀(n:Nat) (v:l.den),iter (a6 k) (Bo E (d+D) f c) n (jR l v) K=aZ (lp n v) fun o=>dB o (fun a=>K p (jR i a)) fun b=>K q (jR j b):=by
  intro n
  induction n with
  |zero=>intro v;rw[s];rfl
  |succ n I=>intro v;rw[A,u,h2,funext I];rfl
 exact(G bD v).trans (congrArg (fun o=>aZ o _) h)
theorem lN {E:Env} {f:FuncId} {c:Code} {k:dW} {l i j:SQ} {p q:Ex} {D:Nat} {lp:Nat->l.den->Option (i.den⊕j.den)}
  (st:{g:Type}->(l.den->Option g)->(i.den->Option g)->(j.den->Option g)->l.den->Option g)
  (hk:E.kp f (bM c)=a6 k:=by kernel_rfl) (s: ∀v,lp 0 v=a7:=by intro _;rfl) (u: ∀n v,lp (n+1) v=st (lp n) (fun e=>a6 (.inl e)) (fun r=>a6 (.inr r)) v:=by intro _ _;rfl)
  (A: ∀{R:Type} (d n:Nat) (K:Ex->St->Option R) (v:l.den),iter (a6 k) (Bo E (d+D) f c) (n+1) (uz l v) K=st (fun v=>iter (a6 k) (Bo E (d+D) f c) n (uz l v) K) (fun e=>K p (uz i e)) (fun r=>K q (uz j r)) v:=by intro _ d n K v;kernel_rfl)
  (h2: ∀{g B:Type} (x:l.den->Option g) (y:i.den->Option g) (z:j.den->Option g) (v:l.den) (K:g->Option B),aZ (st x y z v) K=st (fun v=>aZ (x v) K) (fun e=>aZ (y e) K) (fun r=>aZ (z r) K) v):
  dU E f c (eH k l i j p (fun v=>lp bD v) D q):=by
 refine aaE hk fun R d K v o h=>⟨bD, ?_⟩;have G: ∀(n:Nat) (v:l.den),iter (a6 k) (Bo E (d+D) f c) n (uz l v) K=aZ (lp n v) fun o=>dB o (fun a=>K p (uz i a)) fun b=>K q (uz j b):=by
  intro n
  induction n with
  |zero=>intro v;rw[s];rfl
  |succ n I=>intro v;rw[A,u,h2,funext I];rfl
 exact(G bD v).trans (congrArg (fun o=>aZ o _) h)
theorem ar2 {E:Env} (d:eP E) {g:FuncId} {s:Sum} (e:news s.rs<=1) (h: ∀x,OB E g s.ps s.rs x=s.f x):dO E.P g s:=
 O3 d e fun x y i=>(h x).trans i
theorem fL {E:Env} {f:FuncId} {c:Code} {L:dA} (e:E.lp f (bM c)=a6 L) (h2:dU E f c L): ∀d,E.lp f (bM c)=a6 d->dU E f c d:=fun d h=>by
 simp_all
theorem fC {E:Env} {f:FuncId} {c:Code} {L:dA} (e:E.lp f (800000+bM c)=a6 L) (h2:zO E f c L): ∀d,E.lp f (800000+bM c)=a6 d->zO E f c d:=fun d h=>by
 simp_all
theorem aC {d:Type} {p:d->Prop} {a:d} {l:List d} (h:p a/\ ∀x∈l,p x): ∀x∈a::l,p x:=List.forall_mem_cons.2 h
theorem aN {d:Type} {p:d->Prop}: ∀x∈([]:List d),p x:=fun _ h=>absurd h List.not_mem_nil
theorem aoX {E:Env} (d:eP E) {g:FuncId} {s:fF} (h: ∀x y,akf E g s.bt s.cs s.ps s.rs x y=s.f x y):dJ E.P g s:=Zc d fun x y _ e=>(h x y).trans e
theorem uH {P:Program} {g:FuncId} {s:fF} (h: ∀x y,s.f x y=a7):dJ P g s:=fun W0 c x y z _ _ _ _ e _ d=>nomatch (show(a7:Option _)=a6 z from(h x y).symm.trans d)
theorem aD {d:Type} {p:d->Prop} {a:d} {l:List d} (h:p a) (h2: ∀x∈l,p x): ∀x∈a::l,p x:=aC ⟨h,h2⟩
theorem fM {E:Env} {f:FuncId} {c:Code} {L:dA} (h2:dU E f c L) (e:E.lp f (bM c)=a6 L:=by kernel_rfl): ∀d,E.lp f (bM c)=a6 d->dU E f c d:=fL e h2
theorem sA {E:Env} (d:eP E) {g:FuncId} {s:Sum} (e:news s.rs<=1:=by decide) (h: ∀x,OB E g s.ps s.rs x=s.f x:=by intro x;kernel_rfl):dO E.P g s:=ar2 d e h
theorem sB {E:Env} (d:eP E) {g:FuncId} {s:fF} (h: ∀x y,akf E g s.bt s.cs s.ps s.rs x y=s.f x y:=by intro x y;kernel_rfl):dJ E.P g s:=aoX d h
theorem zL {E:Env} {f:FuncId} {c:Code} (l:List Code) (h: ∀d∈l,∀L,E.lp f (bM d)=a6 L->dU E f d L) (hl:iW c=l:=by kernel_rfl) (k:Um E f c=true:=by kernel_rfl) (e: ∀id,E.rf f id=false:=by intro _;rfl):dL E f c:=aaF c e (by rw[hl];exact h) k
theorem eA {f:FuncId} {sg:List (FuncId×Sum)} {kp:List (Nat×dW)} {lp:List (Nat×dA)} {sb:List (FuncId×fF)} (fn:Func) (d: ∀e∈sg,dO prog e.1 e.2) (hl:dL (oC prog tt f sg kp lp sb) f (fn.body.getD .skip):=by exact ig (fun _=>rfl) (fun _=>rfl) _) (hf:prog.funcs[f]? =a6 fn:=by kernel_rfl) (hb:fn.body=a6 (fn.body.getD .skip):=by kernel_rfl) (hx: ∀e∈sb,dJ prog e.1 e.2:=by simp):eP (oC prog tt f sg kp lp sb):=ahL tok mixed JS d hf hb hl YO MJ hx
theorem eB {sg:List (FuncId×Sum)} {kp:List (FuncId×Nat×dW)} {lp:List (FuncId×Nat×dA)} {rf:List FuncId} {sb:List (FuncId×fF)} (f: ∀e∈sg,dO prog e.1 e.2) (d:List FuncId) (hl: ∀g∈d,∃fn c,prog.funcs[g]? =a6 fn/\fn.body=a6 c/\dL (fK prog tt sg kp lp rf sb) g c) (hx: ∀e∈sb,dJ prog e.1 e.2:=by simp) (h:(lp.all fun e=>d.any fun g=>Nat.beq e.1 g)=true:=by kernel_rfl) (i:(rf.all fun e=>d.any fun g=>Nat.beq e g)=true:=by kernel_rfl):eP (fK prog tt sg kp lp rf sb):=aeJ tok mixed JS f d h i hl YO MJ hx
theorem sE {g:FuncId} {s:Sum} {l:List (FuncId×Sum)} (h:dO prog g s) (h2: ∀e∈l,dO prog e.1 e.2): ∀e∈(g,s)::l,dO prog e.1 e.2:=aD (p:=fun e:FuncId×Sum=>dO prog e.1 e.2) h h2
theorem sF {g:FuncId} {s:fF} {l:List (FuncId×fF)} (h:dJ prog g s) (h2: ∀e∈l,dJ prog e.1 e.2): ∀e∈(g,s)::l,dJ prog e.1 e.2:=aD (p:=fun e:FuncId×fF=>dJ prog e.1 e.2) h h2
theorem qA {g:FuncId} {s:Sum} {sg:List (FuncId×Sum)} {sb:List (FuncId×fF)} (fn:Func) (kp:List (Nat×dW)) (d: ∀e∈sg,dO prog e.1 e.2) (hx: ∀e∈sb,dJ prog e.1 e.2:=by exact aN) (hf:prog.funcs[g]? =a6 fn:=by kernel_rfl) (hb:fn.body=a6 (fn.body.getD .skip):=by kernel_rfl) (h: ∀x,OB (oC prog tt g sg kp [] sb) g s.ps s.rs x=s.f x:=by intro x;kernel_rfl) (i:news s.rs<=1:=by decide):dO prog g s:=ar2 (eA fn d (hl:=ig (fun _=>by show(bif Nat.beq g g then a7 else a7)=a7;cases Nat.beq g g<;>rfl) (fun _=>rfl) _) (hf:=hf) (hb:=hb) (hx:=hx)) i h
theorem qC {g:FuncId} {s:Sum} {sg:List (FuncId×Sum)} {sb:List (FuncId×fF)} (kp:List (FuncId×Nat×dW)) (d: ∀e∈sg,dO prog e.1 e.2) (hx: ∀e∈sb,dJ prog e.1 e.2:=by exact aN) (h: ∀x,OB (fK prog tt sg kp [] [] sb) g s.ps s.rs x=s.f x:=by intro x;kernel_rfl) (i:news s.rs<=1:=by decide):dO prog g s:=ar2 (eB d [] aN hx) i h
theorem qB {g:FuncId} {s:fF} {sg:List (FuncId×Sum)} {sb:List (FuncId×fF)} (kp:List (FuncId×Nat×dW)) (d: ∀e∈sg,dO prog e.1 e.2) (hx: ∀e∈sb,dJ prog e.1 e.2:=by exact aN) (h: ∀x y,akf (fK prog tt sg kp [] [] sb) g s.bt s.cs s.ps s.rs x y=s.f x y:=by intro x y;kernel_rfl):dJ prog g s:=aoX (eB d [] aN hx) h
end
section
open Option renaming some → a6, none → a7
open Tryz
open Go.RowKit
def rX (d:List mi) (e:Bool) (f g:Int):Option (V5×(Unit)):=cond (gm d (eY .i64 (bi d) 1)) (cond (mV (bP (eY .i64 (bi d) 1)) d) (a6 (((gp d (bP (eY .i64 (bi d) 1)) (g,((cO d (0,(0,())) (bP (eY .i64 (bi d) 1))).2.1,()))),(e,(f,()))),())) a7) a7
def akW:fF:=⟨216,tzB,[bW],[],fun x y=>rX x.1 x.2.1 x.2.2.1 y.1⟩
theorem I9:dJ prog 202 akW:=qB [] aN
def uo (d:List mi) (e:Bool) (f:Int):Option (V5×(Unit)):=cond (gY 1 (bi d)) (cond (gy (bi d) 0 (eY .i64 (bi d) 1)) (a6 (((takeN d (bP (eY .i64 (bi d) 1))),(e,(f,()))),())) a7)<|some ((d,(e,(f,()))),())
def akX:fF:=⟨216,tzB,[],[],fun x y=>uo x.1 x.2.1 x.2.2.1⟩
theorem uf:dJ prog 203 akX:=qB [] aN
def abZ (d:List mi) (e:Bool) (f:Int):Option (V5×EO):=cond (gm d (yV (eY .i64 (bi d) 2) 0)) (cond (mV (bP (yV (eY .i64 (bi d) 2) 0)) d) (a6 ((d,(e,(f,()))),((cO d (0,(0,())) (bP (yV (eY .i64 (bi d) 2) 0))).1,()))) a7) a7
def arT:fF:=⟨216,tzB,[],[bW],fun x y=>abZ x.1 x.2.1 x.2.2.1⟩
theorem agj:dJ prog 241 arT:=qB [] aN
def Jq (f:List mi) (g:Bool) (h i:Int):Option (V5×o8):=cond (bC i 40) (aZ (rX f g h 3) fun d=>a6 ((d.1.1,(true,(d.1.2.2.1,()))),(true,())))<|cond (bC i 123) (aZ (abZ f g h) fun d=>cond (bC d.2.1 5) (cond (bC d.2.1 5) (aZ (rX d.1.1 d.1.2.1 d.1.2.2.1 8) fun e=>a6 ((e.1.1,(e.1.2.1,(e.1.2.2.1,()))),(true,())))<|aZ (rX d.1.1 d.1.2.1 d.1.2.2.1 7) fun e=>a6 ((e.1.1,(e.1.2.1,(e.1.2.2.1,()))),(true,())))<|cond (bC d.2.1 8) (aZ (rX d.1.1 d.1.2.1 d.1.2.2.1 8) fun e=>a6 ((e.1.1,(e.1.2.1,(e.1.2.2.1,()))),(true,())))<|aZ (rX d.1.1 d.1.2.1 d.1.2.2.1 7) fun e=>a6 ((e.1.1,(e.1.2.1,(e.1.2.2.1,()))),(true,())))<|cond (bC i 36) (aZ (uo f g h) fun d=>a6 ((d.1.1,(d.1.2.1,(d.1.2.2.1,()))),(true,())))<|aZ (uo f g h) fun d=>a6 ((d.1.1,(d.1.2.1,(d.1.2.2.1,()))),(false,()))
def akV:fF:=⟨216,tzB,[.int .u8],[.bool],fun x y=>Jq x.1 x.2.1 x.2.2.1 y.1⟩
theorem af9:dJ prog 201 akV:=qB [] aN (sF I9 (sF uf (sF agj aN)))
noncomputable def b44:Code:=(f44.body).getD .skip
noncomputable def yl:Code:=cB (cB (cB (cB (cB (cB (cB (cA (cA (cB (b44))))))))))
noncomputable def yu:Code:=cB (cB (b44))
noncomputable def yw:Code:=cB (cA (cB (cA (cB (cB (b44))))))
noncomputable def yx:Code:=cB (cB (cB (cA (cB (cA (cB (cB (b44))))))))
def yK:dW:=⟨[0,18,900011],[],[0],[],[2],[]⟩
def yL:dW:=⟨[0,900012],[],[2],[],[2],[]⟩
def yM:dW:=⟨[33,34,900020],[],[],[],[2],[]⟩
def yN:dW:=⟨[42,900026],[],[],[],[2],[]⟩
def ar {a b c d e g h R:Type} (f:a->b->c->d->e->g->h->R) (v:((a×b×c×Unit)×((d×e×g×h×Unit)×Unit×Unit)×Unit)):R:=f v.1.1 v.1.2.1 v.1.2.2.1 v.2.1.1.1 v.2.1.1.2.1 v.2.1.1.2.2.1 v.2.1.1.2.2.2.1
def aE {a R:Type} (f:((a×Unit)×Unit)->R):a->R:=fun a=>f ((a,()),())
def aL {a b R:Type} (f:((a×b×Unit)×Unit)->R):a->b->R:=fun a b=>f ((a,b,()),())
def aM {a b c d e g R:Type} (f:(Unit×((a×Unit)×Unit×Unit×Unit)×((b×c×Unit)×d×Unit×(e×Unit)×g×Unit×Unit))->R):a->b->c->d->e->g->R:=fun a b c d e g=>f ((),((a,()),(),(),()),((b,c,()),d,(),(e,()),g,(),()))
def aR {a b c d e g h i j k l m n o p q r s t u R:Type} (f:a->b->c->d->e->g->h->i->j->k->l->m->n->o->p->q->r->s->t->u->R) (v:((a×b×c×Unit)×((d×e×g×h×Unit)×(i×Unit)×Unit×Unit×Unit)×(j×(k×l×m×n×o×Unit)×p×Unit×Unit×(q×r×Unit)×s×Unit×(t×Unit)×u×Unit×Unit))):R:=f v.1.1 v.1.2.1 v.1.2.2.1 v.2.1.1.1 v.2.1.1.2.1 v.2.1.1.2.2.1 v.2.1.1.2.2.2.1 v.2.1.2.1.1 v.2.2.1 v.2.2.2.1.1 v.2.2.2.1.2.1 v.2.2.2.1.2.2.1 v.2.2.2.1.2.2.2.1 v.2.2.2.1.2.2.2.2.1 v.2.2.2.2.1 v.2.2.2.2.2.2.2.1.1 v.2.2.2.2.2.2.2.1.2.1 v.2.2.2.2.2.2.2.2.1 v.2.2.2.2.2.2.2.2.2.2.1.1 v.2.2.2.2.2.2.2.2.2.2.2.1
def ba {a b c d e g h i j k l m n o p R:Type} (f:a->b->c->d->e->g->h->i->j->k->l->m->n->o->p->R) (v:((a×Unit)×(Unit×Unit×Unit×Unit)×((b×c×d×e×Unit)×(g×h×i×Unit)×(j×Unit)×Unit×k×(l×m×n×Unit)×Unit×(o×p×Unit)×Unit))):R:=f v.1.1 v.2.2.1.1 v.2.2.1.2.1 v.2.2.1.2.2.1 v.2.2.1.2.2.2.1 v.2.2.2.1.1 v.2.2.2.1.2.1 v.2.2.2.1.2.2.1 v.2.2.2.2.1.1 v.2.2.2.2.2.2.1 v.2.2.2.2.2.2.2.1.1 v.2.2.2.2.2.2.2.1.2.1 v.2.2.2.2.2.2.2.1.2.2.1 v.2.2.2.2.2.2.2.2.2.1.1 v.2.2.2.2.2.2.2.2.2.1.2.1
def bb {a b c d e g R:Type} (f:((a×Unit)×(Unit×Unit)×((b×c×d×e×Unit)×g×Unit))->R):a->b->c->d->e->g->R:=fun a b c d e g=>f ((a,()),((),()),((b,c,d,e,()),g,()))
def bc {a b c d e g R:Type} (f:a->b->c->d->e->g->R) (v:((a×Unit)×(Unit×Unit)×((b×c×d×e×Unit)×g×Unit))):R:=f v.1.1 v.2.2.1.1 v.2.2.1.2.1 v.2.2.1.2.2.1 v.2.2.1.2.2.2.1 v.2.2.2.1
def be {a b c d e R:Type} (f:(Unit×(Unit×Unit)×((a×b×c×d×Unit)×e×Unit))->R):a->b->c->d->e->R:=fun a b c d e=>f ((),((),()),((a,b,c,d,()),e,()))
def bh {a b c d e R:Type} (f:a->b->c->d->e->R) (v:(Unit×(Unit×Unit)×((a×b×c×d×Unit)×e×Unit))):R:=f v.2.2.1.1 v.2.2.1.2.1 v.2.2.1.2.2.1 v.2.2.1.2.2.2.1 v.2.2.2.1
def bj {a b c d e g h i j k l R:Type} (f:(Unit×((a×b×Unit)×(c×d×Unit)×(e×g×Unit)×Unit×Unit)×(Unit×Unit×h×(i×j×k×l×Unit)×Unit))->R):a->b->c->d->e->g->h->i->j->k->l->R:=fun a b c d e g h i j k l=>f ((),((a,b,()),(c,d,()),(e,g,()),(),()),((),(),h,(i,j,k,l,()),()))
def bk {a b c d e g R:Type} (f:(Unit×((a×b×Unit)×(c×d×Unit)×(e×g×Unit)×Unit×Unit)×Unit)->R):a->b->c->d->e->g->R:=fun a b c d e g=>f ((),((a,b,()),(c,d,()),(e,g,()),(),()),())
def bl {a b c d e g h i j k l R:Type} (f:a->b->c->d->e->g->h->i->j->k->l->R) (v:(Unit×((a×b×Unit)×(c×d×Unit)×(e×g×Unit)×Unit×Unit)×(Unit×Unit×h×(i×j×k×l×Unit)×Unit))):R:=f v.2.1.1.1 v.2.1.1.2.1 v.2.1.2.1.1 v.2.1.2.1.2.1 v.2.1.2.2.1.1 v.2.1.2.2.1.2.1 v.2.2.2.2.1 v.2.2.2.2.2.1.1 v.2.2.2.2.2.1.2.1 v.2.2.2.2.2.1.2.2.1 v.2.2.2.2.2.1.2.2.2.1
def bm {a b c d e g h i j k l m n R:Type} (f:a->b->c->d->e->g->h->i->j->k->l->m->n->R) (v:((a×b×c×Unit)×(Unit×Unit×Unit×Unit)×(Unit×(d×Unit)×Unit×e×(g×Unit)×h×(i×j×k×Unit)×Unit×l×Unit×(m×Unit)×n×Unit))):R:=f v.1.1 v.1.2.1 v.1.2.2.1 v.2.2.2.1.1 v.2.2.2.2.2.1 v.2.2.2.2.2.2.1.1 v.2.2.2.2.2.2.2.1 v.2.2.2.2.2.2.2.2.1.1 v.2.2.2.2.2.2.2.2.1.2.1 v.2.2.2.2.2.2.2.2.1.2.2.1 v.2.2.2.2.2.2.2.2.2.2.1 v.2.2.2.2.2.2.2.2.2.2.2.2.1.1 v.2.2.2.2.2.2.2.2.2.2.2.2.2.1
def bo {a b c d e g h i j k l m n o p q r s t u R:Type} (f:a->b->c->d->e->g->h->i->j->k->l->m->n->o->p->q->r->s->t->u->R) (v:((a×b×c×Unit)×(Unit×Unit×(d×e×g×Unit)×(h×i×j×k×Unit)×Unit×Unit)×(Unit×(l×Unit)×Unit×m×(n×Unit)×o×(p×q×r×Unit)×Unit×s×Unit×t×(u×Unit)×Unit))):R:=f v.1.1 v.1.2.1 v.1.2.2.1 v.2.1.2.2.1.1 v.2.1.2.2.1.2.1 v.2.1.2.2.1.2.2.1 v.2.1.2.2.2.1.1 v.2.1.2.2.2.1.2.1 v.2.1.2.2.2.1.2.2.1 v.2.1.2.2.2.1.2.2.2.1 v.2.2.2.1.1 v.2.2.2.2.2.1 v.2.2.2.2.2.2.1.1 v.2.2.2.2.2.2.2.1 v.2.2.2.2.2.2.2.2.1.1 v.2.2.2.2.2.2.2.2.1.2.1 v.2.2.2.2.2.2.2.2.1.2.2.1 v.2.2.2.2.2.2.2.2.2.2.1 v.2.2.2.2.2.2.2.2.2.2.2.2.1 v.2.2.2.2.2.2.2.2.2.2.2.2.2.1.1
def bp {a b c d e g h i j k l m n o p q r s t u w x y z A B C D E F G R:Type} (f:a->b->c->d->e->g->h->i->j->k->l->m->n->o->p->q->r->s->t->u->w->x->y->z->A->B->C->D->E->F->G->R) (v:((a×b×c×Unit)×(Unit×Unit×(d×e×g×h×i×j×k×l×m×n×o×p×q×r×s×t×u×w×Unit)×Unit×Unit)×(Unit×(x×Unit)×Unit×y×(z×Unit)×A×(B×C×D×Unit)×Unit×E×Unit×F×(G×Unit)×Unit))):R:=f v.1.1 v.1.2.1 v.1.2.2.1 v.2.1.2.2.1.1 v.2.1.2.2.1.2.1 v.2.1.2.2.1.2.2.1 v.2.1.2.2.1.2.2.2.1 v.2.1.2.2.1.2.2.2.2.1 v.2.1.2.2.1.2.2.2.2.2.1 v.2.1.2.2.1.2.2.2.2.2.2.1 v.2.1.2.2.1.2.2.2.2.2.2.2.1 v.2.1.2.2.1.2.2.2.2.2.2.2.2.1 v.2.1.2.2.1.2.2.2.2.2.2.2.2.2.1 v.2.1.2.2.1.2.2.2.2.2.2.2.2.2.2.1 v.2.1.2.2.1.2.2.2.2.2.2.2.2.2.2.2.1 v.2.1.2.2.1.2.2.2.2.2.2.2.2.2.2.2.2.1 v.2.1.2.2.1.2.2.2.2.2.2.2.2.2.2.2.2.2.1 v.2.1.2.2.1.2.2.2.2.2.2.2.2.2.2.2.2.2.2.1 v.2.1.2.2.1.2.2.2.2.2.2.2.2.2.2.2.2.2.2.2.1 v.2.1.2.2.1.2.2.2.2.2.2.2.2.2.2.2.2.2.2.2.2.1 v.2.1.2.2.1.2.2.2.2.2.2.2.2.2.2.2.2.2.2.2.2.2.1 v.2.2.2.1.1 v.2.2.2.2.2.1 v.2.2.2.2.2.2.1.1 v.2.2.2.2.2.2.2.1 v.2.2.2.2.2.2.2.2.1.1 v.2.2.2.2.2.2.2.2.1.2.1 v.2.2.2.2.2.2.2.2.1.2.2.1 v.2.2.2.2.2.2.2.2.2.2.1 v.2.2.2.2.2.2.2.2.2.2.2.2.1 v.2.2.2.2.2.2.2.2.2.2.2.2.2.1.1
def ct:FK:=.ptr 0 0
def cz:FK:=.fn 257 [(1000001,0),(2000003,0)]
def bX:FK:=.v bW
def d5:FK:=.ptr 1000001 0
def bs:List FK:=[ct]
def bq:List (List FK):=[us [ct,.u,cz,.u,.u,.u,bX,bX,.u,.u,.u,.u,.u,.u,.u,.u,.u,.u,.u,.u,.u,.u,.u,.u,.u,.u,.u,.u,.u,.u,.u,.u,.u,.u,.u,.u,.u,cz] 16,us [ct,bX,cz,.u,.u,.u,.u,.u,.u,.u,.u,.u,.u,ct,bX,cz] 8,[.u,d5,bX,.ptr 2000003 0,.u,.u,.u,.u,.u,.u,.u,.u,.u,.u,.u,.u,.u,.u,.u,.u,.u,.u,.u,.u,.u,.u,.u,.u,ct,bX,cz,.u],bs]
def br:HK:=.box 0 90 [.v qE,bX,.slc 1,bX,bX]
def c8:FK:=.ptr 2000004 0
def cL:List FK:=us [.u,.u,.ptr 2000002 0,.u,c8,.u,.u,.ptr 2000007 0,.ptr 2000008 0] 60
def bL:FK:=.v .str
def d6:FK:=.ptr 3000011 0
def ci:FK:=.v .bool
def bv:List (List FK):=[cL,[.yld 2700025],us [.u,bL,.u,.u,.u,d6,bL,bX,bL,bX,.u,.u,.u,.u,.u,.u,.u,.u,.u,.u,.u,.u,.u,.u,.u,.u,.u,.u,.u,.u,.u,.u,.u,bX,ci,ci,bX,ci,ci,ci,bL,bL,ci,ci,ci,bL] 14,[]]
def ck:HK:=.arr 1 oV
def bw:List HK:=[.box 0 100 [.v qE,bL,.slc 1,bX,bX,bX],ck]
def bx:List FK:=us [.u,bL,.u,.u,.u,d6,bL,bX,.u,.u,.u,.u,.u,.u,.u,.u,.u,.u,.u,.u,.u,.u,.u,.u,.u,.u,.u,.u,.u,bL] 30
def d7:FK:=.v (.list Hr)
def cm:HK:=.box 2000011 220 [bL,d7,.mpv 2000009]
def cN:HK:=.mp 2000009 .i64 .i64
def cR:FK:=.ptr 2000011 0
def dx:HK:=.box 2000001 189 [cR]
def dS:FK:=.ptr 1000003 0
def cf:List FK:=us [.u,.u,bL,dS] 9
def cK:HK:=.arr 1500003 (.int .u8)
def cr:HK:=.box 1000003 128 [.slf 1000003,.slc 1500003]
def bA:List HK:=[cm,cN,dx,.lp 1700008 143 (cf) [8] 4 0 a7,cK,cr]
def c9:FK:=.ptr 2000001 0
def cF:FK:=.fn 211 [(3000003,0),(3000002,0)]
def bB:List FK:=[.u,c9,.ptr 3000002 0,.ptr 3000003 0,cF,bX,.ptr 3000006 0,.u,.u,.u,.u,.u,.u,.u,.u,.u,.u,.u,.u,.u,.u,.u,.u,.u,.u,.u,.u,.u,.u,.u,.u,.u,.u,.u,.u,.u,.u,.u,.u,.u,.u,.u,.u,.u,.u,.u,.u,.u,.u,.u,.u,.u,.u,.u,.u,.u,.u,.u,.u,.u,.u,.u,.u,.u,.u,.u,.u,.u,.u,.u,.u,.u,.u,.u,.u,.u,.u,.u,.u,.u,.u,.u,.u,.u,.u,.u,.u,.u,.u,.u,.u,.u,.u,.u,.u,.u,.u,.u,.u,.u,.u,cF,ci,ci,cR,.v Hr,.yld 1700008,.u,.u,.u,.u,.u]
def dy:FK:=.fn 176 [(1000001,0)]
def bE:List (List FK):=[us [ct,.u,dy,.u,.u,.u,bX,bX,.u,.u,.u,.u,.u,.u,.u,.u,.u,.u,.u,.u,.u,.u,.u,.u,.u,.u,.u,.u,.u,.u,.u,.u,.u,.u,.u,.u,.u,dy] 16,[.u,d5,.u,.u,.u,.u,.u,ct,dy,.u],bs]
def cM:List FK:=us [.u,.u,.ptr 3000002 0,.u,.ptr 3000004 0,.u,.u,.ptr 3000007 0,.ptr 3000008 0] 60
def cQ:FK:=.v (.list oV)
def cI:List FK:=[bX,.v (.list V8),ci]
def cP:HK:=.arr 3502011 Ht
def co:HK:=.box 3000011 79 [bX,.slc 3502011]
def bN:List HK:=[.lp 3700025 10 (cM) [25,26] 7 0 a7,.box 4000001 59 [cQ],.box 3000008 55 [.mpv 3000021],.mp 3000021 .i64 .i64,.box 3000007 53 [.v qE],.arr 3500007 RS,.box 3000006 50 cI,.box 3000004 28 [.slc 3500004],.arr 3500004 Wj,.box 3000002 25 [.nilp],cP,co]
def bO:List HK:=[.lp 2700025 10 (cL) [25,26] 7 0 a7,.box 3000001 59 [cQ],.box 2000008 55 [.mpv 2000021],.mp 2000021 .i64 .i64,.box 2000007 53 [.v qE],.arr 2500007 RS,.box 2000006 50 cI,.box 2000004 28 [.slc 2500004],.arr 2500004 Wj,.box 2000002 25 [.nilp],cP,co]
def cJ:List FK:=[.yld 1700008]
def bR:List HK:=[.arr 4800009 (.int .u8),.box 3000006 200 [bX,bX,bX,bX,ci],.arr 3500003 (.int .u8),.box 3000003 74 [.nils],.box 3000002 221 cJ,cm,cN,dx,.lp 1700008 143 (cf) [8] 4 0 a7,cK,cr]
def cg:List FK:=us [.u,.u,.ptr 1000002 0,.u,.ptr 1000004 0,.u,.u,.ptr 1000007 0,.ptr 1000008 0] 60
def cX:HK:=.box 1000004 28 [.slc 1500004]
def cH:HK:=.box 0 79 [bX,.slc 1]
def d8:HK:=.arr 1 Ht
def bS:List HK:=[.lp 1700025 10 (cg) [25,26] 7 0 a7,.box 2000001 59 [cQ],.box 1000008 55 [.mpv 1000021],.mp 1000021 .i64 .i64,.box 1000007 53 [.v qE],.arr 1500007 RS,.box 1000006 50 cI,cX,.arr 1500004 Wj,.box 1000002 25 bs,cH,d8]
def b9:List HK:=[.arr 3500003 (.int .u8),.box 3000003 74 [.slc 3500003],.box 3000002 221 cJ,cm,cN,dx,.lp 1700008 143 (cf) [8] 4 0 a7,cK,cr]
def ca:List (List FK):=[cM,[.yld 3700025],us [.nilp,bL,.u,.u,.u,.u,.nils,bX,.u,.u,.u,.u,.nilp,bL] 42,bx,[]]
def ce:List FK:=us [.u,.u,.nils,dS,.ptr 1000004 0,.ptr 1000005 0] 13
def cj:HK:=.box 1000001 88 bs
def d9:FK:=.v (.list Ht)
def cq:List (List FK):=[us [d9,bL,.u,.u,.u,.u,.u,.u,.u,.u,.u,.u,.u,.u,.u,.u,.u,.u,.u,.u,d9] 39,[]]
def cD:List FK:=us [.u,.u,bL,.u,.u,.ptr 1000005 0] 15
def db:FK:=.v (.list Px)
def cw:List HK:=[.lp 1700014 141 (cD) [14] 5 0 a7,.box 2000001 181 [db],.box 1000005 74 [.slc 1500005],.arr 1500005 (.int .u8)]
def da:HK:=.box 1000009 241 [.slc 1500009,.slc 1502009]
def cx:List HK:=[.arr 1502009 bW,.arr 1500009 Hr,da]
def cy:List HK:=[.box 0 241 [.slc 1,.slc 2],.arr 1 Hr,.arr 2 bW]
def cC:HK:=.box 2000004 216 [.slc 2000002,ci,bX]
def cE:List FK:=[ct,bL,.u,.u,.u,.u,ct,ct,.ptr 0 1,.slc 1,bL,.u,.u,.u]
def cG:List FK:=us [d5] 12
def cS:List FK:=[bL,bX,.u,.u,.u,.u,.u,.u,.u,bL,bX,.u]
def cT:List FK:=[bL,bX,.u,.u,.u,bL,bX,.u,.u,.u,.u,.u]
def cU:List HK:=[br,ck]
def cV:FK:=.v (.int .u8)
def cW:HK:=.arr 2000002 Px
def cY:List (List FK):=[bs]
def c6:List FK:=us [.u,.u,.u,.u,.u,.u,.u,bX] 25
def c7:List FK:=us [] 13
def de:List FK:=[bL,bX,.u,.u,.u,bL,bX,.u]
def dg:List HK:=[cW,.box 0 216 [.slc 2000002,ci,bX],.arr 1 Px]
def dj:List FK:=[.u,.u,bX]
def dk:List HK:=[.box 2000003 1 [.mfn 252 [(0,0)]],cj,ck,br]
def dq:List HK:=[.box 2000003 1 [.mfn 253 [(0,0)]],cj,ck,br]
def dr:List HK:=[.box 2000003 1 [.mfn 254 [(0,0)]],cj,ck,br]
def dt:List HK:=[.box 2000003 1 [.mfn 255 [(0,0)]],cj,ck,br]
def du:List HK:=[.box 2000003 1 [.mfn 256 [(0,0)]],cj,ck,br]
def dv:List HK:=[.box 2000003 1 [.mfn 251 [(0,0)]],cj,ck,br]
def dz:FK:=.ptr 1000009 0
def eb:List HK:=[.box 0 216 [.slc 1,ci,bX],.arr 1 Px]
def Es:SP:=⟨us [cV,.u,.u,.u,.u,.u,.u,.u,.u,.u,.u,.u,.u,.u,.u,.u,.u,.u,ci] 29,[]⟩
def rq:SP:=⟨us [cV] 47,[]⟩
def ru:SP:=⟨us dj 45,[]⟩
def Bv {d:Type} (e f:Int->Option d) (g:Int) (h:Bool):Option d:=cond h (f 5)<|e g
def kL (d:Int) (e:Bool):Option (rq.den⊕ru.den):=Bv (fun f=>a6 (.inl ((f,()),()))) (fun g=>a6 (.inr ((g,()),()))) d e
noncomputable def JL:dA:=jb yK Es rq ru (.exit 999999) (fun v=>kL v.1.1 v.1.2.1) 6
def Ew:SP:=⟨[.u,.u,.u,.u,.u,.u,.u,.u,.u,.u,.u,.u,.u,.u,.u,.u,.u,.u,.u,.u,.u,.u,.u,.u,.u,.u,.u,.u,.u,.u,.u,.u,.u,.u,.u,.u,.u,.u,.u,.u,.u,.u,ci,.u,.u,.u,.u,.u],[]⟩
def vJ:SP:=⟨us [] 48,[]⟩
def vO:SP:=⟨us dj 45,[]⟩
def BB {d:Type} (e:Option d) (f:Int->Option d) (g:Bool):Option d:=cond g (f 4) e
def kM (d:Bool):Option (vJ.den⊕vO.den):=BB (a6 (.inl ((),()))) (fun e=>a6 (.inr ((e,()),()))) d
noncomputable def JP:dA:=jb yN Ew vJ vO (.exit 999999) (fun v=>kM v.1.1) 12
def Eu:SP:=⟨us [.u,.u,.u,.u,.u,.u,.u,.u,.u,.u,.u,.u,.u,.u,.u,.u,.u,.u,.u,.u,.u,.u,.u,.u,.u,.u,.u,.u,.u,.u,.u,.u,.u,cV,ci] 13,[]⟩
def vI:SP:=⟨us [] 48,[]⟩
def vN:SP:=⟨us dj 45,[]⟩
def BA {j:Type} (h:Option j) (g:Int->Option j) (d:Int) (l:Bool):Option j:=cond l (g 3)<|cond (bC d 92) (aZ (kM (bC d 92)) fun e=>dB e (fun i=>h) (fun f=>g f.1.1))<|cond (bC d 39) (aZ (kM (bC d 39)) fun e=>dB e (fun i=>h) (fun f=>g f.1.1))<|cond (bC d 34) (aZ (kM (bC d 34)) fun e=>dB e (fun i=>h) (fun f=>g f.1.1))<|cond (bC d 96) (aZ (kM (bC d 96)) fun e=>dB e (fun i=>h) (fun f=>g f.1.1))<|aZ (kM (bC d 36)) fun e=>dB e (fun i=>h) (fun f=>g f.1.1)
def jh (d:Int) (e:Bool):Option (vI.den⊕vN.den):=BA (a6 (.inl ((),()))) (fun f=>a6 (.inr ((f,()),()))) d e
noncomputable def JO:dA:=jb yM Eu vI vN (.exit 999999) (fun v=>jh v.1.1 v.1.2.1) 18
def Et:SP:=⟨us [cV] 47,[]⟩
def vH:SP:=⟨[],[]⟩
def vM:SP:=⟨us dj 45,[]⟩
def Bz {i:Type} (j:Option i) (e:Int->Option i) (d:Int):Option i:=cond (bC d 124) (aZ (jh d (bC d 124)) fun f=>dB f (fun h=>e 0) (fun g=>e g.1.1))<|cond (bC d 38) (aZ (jh d (bC d 38)) fun f=>dB f (fun h=>e 0) (fun g=>e g.1.1))<|cond (bC d 59) (aZ (jh d (bC d 59)) fun f=>dB f (fun h=>e 0) (fun g=>e g.1.1))<|cond (bC d 60) (aZ (jh d (bC d 60)) fun f=>dB f (fun h=>e 0) (fun g=>e g.1.1))<|cond (bC d 62) (aZ (jh d (bC d 62)) fun f=>dB f (fun h=>e 0) (fun g=>e g.1.1))<|cond (bC d 40) (aZ (jh d (bC d 40)) fun f=>dB f (fun h=>e 0) (fun g=>e g.1.1))<|aZ (jh d (bC d 41)) fun f=>dB f (fun h=>e 0) (fun g=>e g.1.1)
def vg (d:Int):Option (vH.den⊕vM.den):=Bz (a6 (.inl ((),()))) (fun e=>a6 (.inr ((e,()),()))) d
noncomputable def JM:dA:=jb yL Et vH vM (.exit 0) (fun v=>vg v.1.1) 24
def Nj (d:rq.den⊕ru.den):Option EO:=dB d (fun e=>aZ (vg e.1.1) fun f=>dB f (fun i=>a7) (fun g=>a6 (g.1.1,()))) (fun h=>a6 (h.1.1,()))
def TD (d:Int):Option EO:=cond (leI 65 d) (cond (leI d 90) (aZ (kL d (leI d 90)) fun e=>Nj e)<|aZ (kL d (bC d 95)) fun e=>Nj e)<|aZ (kL d (bC d 95)) fun e=>Nj e
def aik (d:Int):Option EO:=cond (bC d 10) (a6 (2,()))<|cond (leI 48 d) (cond (leI d 57) (a6 (6,()))<|cond (leI 97 d) (cond (leI d 122) (aZ (kL d (leI d 122)) fun e=>Nj e)<|TD d)<|TD d)<|cond (leI 97 d) (cond (leI d 122) (aZ (kL d (leI d 122)) fun e=>Nj e)<|TD d)<|TD d
def Nh (d:Int):Option EO:=cond (bC d 32) (cond (bC d 32) (a6 (1,()))<|aik d)<|cond (bC d 9) (a6 (1,()))<|aik d
def adV:Sum:=⟨[.int .u8],tzD,fun x=>Nh x.1⟩
noncomputable def ul:Env:=oC prog tt 44 [] [(800011,yK),(800012,yL),(800020,yM),(800026,yN)] [(800011,JL),(800026,JP),(800020,JO),(800012,JM)]
theorem P8 {R:Type} (d:Nat) (K:Ex->St->Option R) (e:Int) (f:Bool):
  iter (a6 yK) (Fp (Bo ul (d+6) 44 yl)) 1 (jR Es ((e,f,()),())) K=
   Bv (fun g=>K (.exit 999999) (jR rq ((g,()),()))) (fun h=>K .ret (jR ru ((h,()),()))) e f:=by kernel_rfl
theorem XE {R:Type} (d:Nat) (K:Ex->St->Option R) (e:Int) (f:Bool):
  iter (a6 yK) (Fp (Bo ul (d+6) 44 yl)) 1 (jR Es ((e,f,()),())) K=aZ (kL e f) fun o=>dB o (fun a=>K (.exit 999999) (jR rq a)) fun b=>K .ret (jR ru b):=by
  rw[P8];simp only[kL,Bv,di,dm,aY,bZ,dn]
  try simp only[dB]
theorem Yr:zO ul 44 yl JL:=Fj (by kernel_rfl) fun R d K v o h=>⟨1,(XE d K (v.1.1) (v.1.2.1)).trans (congrArg (fun o=>aZ o _) h)⟩
theorem Qb {R:Type} (d:Nat) (K:Ex->St->Option R) (e:Bool):
  iter (a6 yN) (Fp (Bo ul (d+12) 44 yx)) 1 (jR Ew ((e,()),())) K=
   BB (K (.exit 999999) (jR vJ ((),()))) (fun f=>K .ret (jR vO ((f,()),()))) e:=by kernel_rfl
theorem XH {R:Type} (d:Nat) (K:Ex->St->Option R) (e:Bool):
  iter (a6 yN) (Fp (Bo ul (d+12) 44 yx)) 1 (jR Ew ((e,()),())) K=aZ (kM e) fun o=>dB o (fun a=>K (.exit 999999) (jR vJ a)) fun b=>K .ret (jR vO b):=by
  rw[Qb];simp only[kM,BB,di,dm,aY,bZ,dn]
  try simp only[dB]
theorem Yv:zO ul 44 yx JP:=Fj (by kernel_rfl) fun R d K v o h=>⟨1,(XH d K (v.1.1)).trans (congrArg (fun o=>aZ o _) h)⟩
theorem Qa {R:Type} (d:Nat) (K:Ex->St->Option R) (e:Int) (f:Bool):
  iter (a6 yM) (Fp (Bo ul (d+18) 44 yw)) 1 (jR Eu ((e,f,()),())) K=
   BA (K (.exit 999999) (jR vI ((),()))) (fun g=>K .ret (jR vN ((g,()),()))) e f:=by kernel_rfl
theorem XG {R:Type} (d:Nat) (K:Ex->St->Option R) (e:Int) (f:Bool):
  iter (a6 yM) (Fp (Bo ul (d+18) 44 yw)) 1 (jR Eu ((e,f,()),())) K=aZ (jh e f) fun o=>dB o (fun a=>K (.exit 999999) (jR vI a)) fun b=>K .ret (jR vN b):=by
  rw[Qa];simp only[jh,BA,di,dm,aY,bZ,dn]
  try simp only[dB]
theorem Yu:zO ul 44 yw JO:=Fj (by kernel_rfl) fun R d K v o h=>⟨1,(XG d K (v.1.1) (v.1.2.1)).trans (congrArg (fun o=>aZ o _) h)⟩
theorem P9 {R:Type} (d:Nat) (K:Ex->St->Option R) (e:Int):
  iter (a6 yL) (Fp (Bo ul (d+24) 44 yu)) 1 (jR Et ((e,()),())) K=
   Bz (K (.exit 0) (jR vH ((),()))) (fun f=>K .ret (jR vM ((f,()),()))) e:=by kernel_rfl
theorem XF {R:Type} (d:Nat) (K:Ex->St->Option R) (e:Int):
  iter (a6 yL) (Fp (Bo ul (d+24) 44 yu)) 1 (jR Et ((e,()),())) K=aZ (vg e) fun o=>dB o (fun a=>K (.exit 0) (jR vH a)) fun b=>K .ret (jR vM b):=by
  rw[P9];simp only[vg,Bz,di,dm,aY,bZ,dn]
  try simp only[dB]
theorem Yt:zO ul 44 yu JM:=Fj (by kernel_rfl) fun R d K v o h=>⟨1,(XF d K (v.1.1)).trans (congrArg (fun o=>aZ o _) h)⟩
theorem ata:iW b44=[]:=by kernel_rfl
theorem ast:QH ul 44 b44=[yl,yu,yw,yx]:=by kernel_rfl
theorem ati:dL ul 44 b44:=JD b44 (fun x _ d=>absurd (show false=true from d) (by decide)) (by rw[ata];exact aN) (TY (by rw[ast];exact(aD (fC (by kernel_rfl) (Yr)) (aD (fC (by kernel_rfl) (Yt)) (aD (fC (by kernel_rfl) (Yu)) (aD (fC (by kernel_rfl) (Yv)) aN))))))
theorem ahD:eP ul:=eA f44 aN (ati)
theorem rH:dO prog 44 adV:=sA ahD
def Dn (e:Int):Option o8:=aZ (Nh e) fun d=>cond (bC d.1 1) (cond (bC d.1 1) (a6 (true,()))<|some (false,()))<|cond (bC d.1 2) (cond (bC d.1 2) (a6 (true,()))<|some (false,()))<|cond (bC d.1 3) (a6 (true,()))<|some (false,())
def arQ:Sum:=⟨[.int .u8],Wl,fun x=>Dn x.1⟩
theorem RH:dO prog 200 arQ:=qA f200 [] (sE rH aN)
def uq (f:List mi) (g:Bool) (d e:Int):Option (V5×(Unit)):=cond (bC e e) (cond (bC d d) (cond (dZ (bI f [(e,(d,()))]) 16) (cond (bC e e) (cond (bC d d) (cond ((bC e e)&&((bC d d)&&true)) (a6 (((bI f [(e,(d,()))]),(g,(d,()))),())) a7) a7) a7) a7) a7) a7
def arV:fF:=⟨216,tzB,[bW],[],fun x y=>uq x.1 x.2.1 x.2.2.1 y.1⟩
theorem xZ:dJ prog 243 arV:=qB [] aN
def Nc (e:List mi) (f:Bool) (g h:Int):Option (V5×o8):=cond (bC h 92) (aZ (uq e f g 13) fun d=>a6 ((d.1.1,(d.1.2.1,(d.1.2.2.1,()))),(true,())))<|cond (bC h 36) (aZ (uq e f g 12) fun d=>a6 ((d.1.1,(d.1.2.1,(d.1.2.2.1,()))),(true,())))<|cond (bC h 96) (aZ (uq e f g 6) fun d=>a6 ((d.1.1,(d.1.2.1,(d.1.2.2.1,()))),(true,())))<|some ((e,(f,(g,()))),(false,()))
def arY:fF:=⟨216,tzB,[.int .u8],[.bool],fun x y=>Nc x.1 x.2.1 x.2.2.1 y.1⟩
theorem Ja:dJ prog 266 arY:=qB [] aN (sF xZ aN)
def FV (d:Int) (e:List mi) (f:Int):Option (V5×(Unit)):=aZ (Dn d) fun g=>a6 ((e,(g.1,(f,()))),())
def Qz (f:List mi) (h:Bool) (g j e:Int):Option (V5×(Unit)):=cond (bC e 92) (aZ (uq f h g 13) fun d=>a6 ((d.1.1,(d.1.2.1,(d.1.2.2.1,()))),()))<|cond (bC e 35) (cond h (aZ (uq f h g 14) fun d=>a6 ((d.1.1,(d.1.2.1,(d.1.2.2.1,()))),()))<|FV e f g)<|cond (bC e 40) (cond (!(bC j 0)) (aZ (uq f h g 2) fun d=>aZ (Dn e) fun i=>a6 ((d.1.1,(i.1,(d.1.2.2.1,()))),()))<|FV e f g)<|cond (bC e 41) (cond (!(bC j 0)) (aZ (uo f h g) fun d=>a6 ((d.1.1,((!(bC j 1)),(d.1.2.2.1,()))),()))<|some ((f,((!(bC j 1)),(g,()))),()))<|cond (bC e 39) (aZ (uq f h g 4) fun d=>aZ (Dn e) fun i=>a6 ((d.1.1,(i.1,(d.1.2.2.1,()))),()))<|cond (bC e 34) (aZ (uq f h g 5) fun d=>aZ (Dn e) fun i=>a6 ((d.1.1,(i.1,(d.1.2.2.1,()))),()))<|cond (bC e 36) (cond (bC e 36) (aZ (Nc f h g e) fun d=>aZ (Dn e) fun i=>a6 ((d.1.1,(i.1,(d.1.2.2.1,()))),()))<|FV e f g)<|cond (bC e 96) (aZ (Nc f h g e) fun d=>aZ (Dn e) fun i=>a6 ((d.1.1,(i.1,(d.1.2.2.1,()))),()))<|FV e f g
def arU:fF:=⟨216,tzB,[bW,.int .u8],[],fun x y=>Qz x.1 x.2.1 x.2.2.1 y.1 y.2.1⟩
theorem agk:dJ prog 242 arU:=qB [] (sE RH aN) (sF uf (sF xZ (sF Ja aN)))
def ab1 (g:List mi) (h:Bool) (i j f:Int):Option (V5×(Unit)):=aZ (Nc g h i f) fun d=>cond d.2.1 (a6 ((d.1.1,(d.1.2.1,(d.1.2.2.1,()))),()))<|cond (bC f 40) (aZ (uq d.1.1 d.1.2.1 d.1.2.2.1 10) fun e=>a6 ((e.1.1,(e.1.2.1,(e.1.2.2.1,()))),()))<|cond (bC f 41) (cond (bC j 10) (aZ (uo d.1.1 d.1.2.1 d.1.2.2.1) fun e=>a6 ((e.1.1,(e.1.2.1,(e.1.2.2.1,()))),()))<|cond (bC f 41) (aZ (rX d.1.1 d.1.2.1 d.1.2.2.1 11) fun e=>a6 ((e.1.1,(e.1.2.1,(e.1.2.2.1,()))),()))<|some ((d.1.1,(d.1.2.1,(d.1.2.2.1,()))),()))<|cond (bC f 41) (aZ (rX d.1.1 d.1.2.1 d.1.2.2.1 11) fun e=>a6 ((e.1.1,(e.1.2.1,(e.1.2.2.1,()))),()))<|some ((d.1.1,(d.1.2.1,(d.1.2.2.1,()))),())
def arW:fF:=⟨216,tzB,[bW,.int .u8],[],fun x y=>ab1 x.1 x.2.1 x.2.2.1 y.1 y.2.1⟩
theorem agl:dJ prog 244 arW:=qB [] aN (sF I9 (sF uf (sF xZ (sF Ja aN))))
def Tz (f g:Int) (d:(V5×o8)):Option (V5×(Unit)):=cond (bC f 39) (cond (bC g 7) (aZ (uq d.1.1 d.1.2.1 d.1.2.2.1 4) fun e=>a6 ((e.1.1,(e.1.2.1,(e.1.2.2.1,()))),()))<|some ((d.1.1,(d.1.2.1,(d.1.2.2.1,()))),()))<|some ((d.1.1,(d.1.2.1,(d.1.2.2.1,()))),())
def TA (f:Int) (d:(V5×o8)) (g:Int):Option (V5×(Unit)):=cond (bC f 34) (aZ (uq d.1.1 d.1.2.1 d.1.2.2.1 5) fun e=>a6 ((e.1.1,(e.1.2.1,(e.1.2.2.1,()))),()))<|cond (bC f 125) (cond (!(bC g 5)) (aZ (uo d.1.1 d.1.2.1 d.1.2.2.1) fun e=>a6 ((e.1.1,(e.1.2.1,(e.1.2.2.1,()))),()))<|Tz f g d)<|Tz f g d
def ab2 (h:List mi) (i:Bool) (j f e:Int):Option (V5×(Unit)):=aZ (Nc h i j e) fun d=>cond d.2.1 (a6 ((d.1.1,(d.1.2.1,(d.1.2.2.1,()))),()))<|cond (bC e 34) (cond (bC f 5) (aZ (uo d.1.1 d.1.2.1 d.1.2.2.1) fun g=>a6 ((g.1.1,(g.1.2.1,(g.1.2.2.1,()))),()))<|TA e d f)<|TA e d f
def arX:fF:=⟨216,tzB,[bW,.int .u8],[],fun x y=>ab2 x.1 x.2.1 x.2.2.1 y.1 y.2.1⟩
theorem agm:dJ prog 245 arX:=qB [] aN (sF uf (sF xZ (sF Ja aN)))
def yG (h:Int) (e:List mi) (f:Bool) (g i:Int):Option (V5×(Unit)):=cond (bC h 13) (aZ (uo e f g) fun d=>cond d.1.2.1 (a6 ((d.1.1,((bC i 10),(d.1.2.2.1,()))),()))<|some ((d.1.1,(false,(d.1.2.2.1,()))),()))<|cond (bC h 4) (cond (bC i 39) (aZ (uo e f g) fun d=>a6 ((d.1.1,(d.1.2.1,(d.1.2.2.1,()))),()))<|some ((e,(f,(g,()))),()))<|cond (bC h 14) (cond (bC i 10) (aZ (uo e f g) fun d=>a6 ((d.1.1,(true,(d.1.2.2.1,()))),()))<|some ((e,(f,(g,()))),()))<|cond (bC h 6) (cond (bC i 96) (aZ (uo e f g) fun d=>a6 ((d.1.1,(d.1.2.1,(d.1.2.2.1,()))),()))<|cond (bC i 92) (aZ (uq e f g 13) fun d=>a6 ((d.1.1,(d.1.2.1,(d.1.2.2.1,()))),()))<|some ((e,(f,(g,()))),()))<|cond (bC h 9) (cond (bC h 9) (aZ (ab1 e f g h i) fun d=>a6 ((d.1.1,(d.1.2.1,(d.1.2.2.1,()))),()))<|aZ (ab2 e f g h i) fun d=>a6 ((d.1.1,(d.1.2.1,(d.1.2.2.1,()))),()))<|cond (bC h 10) (aZ (ab1 e f g h i) fun d=>a6 ((d.1.1,(d.1.2.1,(d.1.2.2.1,()))),()))<|aZ (ab2 e f g h i) fun d=>a6 ((d.1.1,(d.1.2.1,(d.1.2.2.1,()))),())
def Jr (f:List mi) (g:Bool) (h d i:Int):Option (V5×(Unit)):=cond (bC d 0) (cond (bC d 0) (aZ (Qz f g h d i) fun e=>a6 ((e.1.1,(e.1.2.1,(e.1.2.2.1,()))),()))<|yG d f g h i)<|cond (bC d 1) (cond (bC d 1) (aZ (Qz f g h d i) fun e=>a6 ((e.1.1,(e.1.2.1,(e.1.2.2.1,()))),()))<|yG d f g h i)<|cond (bC d 2) (aZ (Qz f g h d i) fun e=>a6 ((e.1.1,(e.1.2.1,(e.1.2.2.1,()))),()))<|yG d f g h i
def akY:fF:=⟨216,tzB,[bW,.int .u8],[],fun x y=>Jr x.1 x.2.1 x.2.2.1 y.1 y.2.1⟩
theorem aga:dJ prog 204 akY:=qB [] aN (sF uf (sF agk (sF xZ (sF agl (sF agm aN)))))
noncomputable def apk:Code:=(Tryz.f165.body).getD .skip
noncomputable def SE:Code:=cA (cA (cA (cB (cB (cA (apk))))))
def aas:dW:=⟨[0,1,100002],[],[0],[],[],[]⟩
def yP:dW:=⟨[0,1],[],[],[],[],[]⟩
def UC:SQ:=⟨us [ct,cV] 63,cY,dg⟩
def UX:SQ:=⟨us bs 64,cY,dg⟩
def Vh:SQ:=⟨us [] 65,cY,[]⟩
def VN {j:Type} (o:Int->(List mi)->Bool->Int->(List mi)->Option j) (l:(List mi)->Bool->Int->(List mi)->Option j) (p:Option j) (f:Int) (e:List mi) (h:Bool) (i:Int) (g:List mi):Option j:=cond (gm e (eY .i64 (bi e) 1)) (cond (mV (bP (eY .i64 (bi e) 1)) e) (cond (bC (cO e (0,(0,())) (bP (eY .i64 (bi e) 1))).1 12) (aZ (Jq e h i f) fun d=>cond d.2.1 (l d.1.1 d.1.2.1 d.1.2.2.1 g)<|o f d.1.1 d.1.2.1 d.1.2.2.1 g)<|cond (bC (cO e (0,(0,())) (bP (eY .i64 (bi e) 1))).1 3) (cond (bC f 40) (aZ (rX e h i 9) fun d=>l d.1.1 false d.1.2.2.1 g)<|aZ (rX e h i 1) fun d=>o f d.1.1 d.1.2.1 d.1.2.2.1 g)<|cond (bC (cO e (0,(0,())) (bP (eY .i64 (bi e) 1))).1 11) (cond (bC f 41) (aZ (uo e h i) fun d=>l d.1.1 d.1.2.1 d.1.2.2.1 g)<|aZ (rX e h i 9) fun d=>o f d.1.1 d.1.2.1 d.1.2.2.1 g)<|aZ (Jr e h i (cO e (0,(0,())) (bP (eY .i64 (bi e) 1))).1 f) fun d=>l d.1.1 d.1.2.1 d.1.2.2.1 g) a7) a7
def Ud:Nat->Int->(List mi)->Bool->Int->(List mi)->Option (UX.den⊕Vh.den)
 |0,_,_,_,_,_=>a7
 |n+1,d,e,f,g,h=>VN (Ud n) (fun i j l o=>a6 (.inl ((),((),()),(i,(j,l,()),o,())))) (a6 (.inr ((),((),()),()))) d e f g h
def am1 (n:Nat) (v:UC.den):=Ud n v.1.1 v.2.2.1 v.2.2.2.1.1 v.2.2.2.1.2.1 v.2.2.2.2.1
noncomputable def Uj:dA:=eH aas UC UX Vh (.exit 0) (am1 bD) 6
def GI:SQ:=⟨us [ct,cV] 63,cY,eb⟩
def IE:SQ:=⟨us bs 64,cY,eb⟩
def IK:SQ:=⟨us [] 65,cY,[]⟩
def xX {i:Type} (l:Int->Bool->Int->(List mi)->Option i) (j:Bool->Int->(List mi)->Option i) (o:Option i) (f:Int) (g:Bool) (h:Int) (e:List mi):Option i:=cond (gm e (eY .i64 (bi e) 1)) (cond (mV (bP (eY .i64 (bi e) 1)) e) (cond (bC (cO e (0,(0,())) (bP (eY .i64 (bi e) 1))).1 12) (aZ (Jq e g h f) fun d=>cond d.2.1 (j d.1.2.1 d.1.2.2.1 d.1.1)<|l f d.1.2.1 d.1.2.2.1 d.1.1)<|cond (bC (cO e (0,(0,())) (bP (eY .i64 (bi e) 1))).1 3) (cond (bC f 40) (aZ (rX e g h 9) fun d=>j false d.1.2.2.1 d.1.1)<|aZ (rX e g h 1) fun d=>l f d.1.2.1 d.1.2.2.1 d.1.1)<|cond (bC (cO e (0,(0,())) (bP (eY .i64 (bi e) 1))).1 11) (cond (bC f 41) (aZ (uo e g h) fun d=>j d.1.2.1 d.1.2.2.1 d.1.1)<|aZ (rX e g h 9) fun d=>l f d.1.2.1 d.1.2.2.1 d.1.1)<|aZ (Jr e g h (cO e (0,(0,())) (bP (eY .i64 (bi e) 1))).1 f) fun d=>j d.1.2.1 d.1.2.2.1 d.1.1) a7) a7
def tJ:Nat->Int->Bool->Int->(List mi)->Option (IE.den⊕IK.den)
 |0,_,_,_,_=>a7
 |n+1,d,e,f,g=>xX (tJ n) (fun h i j=>a6 (.inl ((),((),()),((h,i,()),j,())))) (a6 (.inr ((),((),()),()))) d e f g
def afl (n:Nat) (v:GI.den):=tJ n v.1.1 v.2.2.1.1 v.2.2.1.2.1 v.2.2.2.1
noncomputable def Iq:dA:=eH aas GI IE IK (.exit 0) (afl bD) 12
def Qy (e:List mi) (h:Bool) (i g:Int):Option (V5×(Unit)):=cond (bC (bi e) 0) (aZ (Ud bD g [(0,(0,()))] true 0 e) fun f=>dB f (fun d=>a6 ((d.2.2.1,(d.2.2.2.1.1,((bV .i64 d.2.2.2.1.2.1 1),()))),())) (fun j=>a7))<|aZ (tJ bD g h i e) fun f=>dB f (fun d=>a6 ((d.2.2.2.1,(d.2.2.1.1,((bV .i64 d.2.2.1.2.1 1),()))),())) (fun j=>a7)
def VV:fF:=⟨216,tzB,[.int .u8],[],fun x y=>Qy x.1 x.2.1 x.2.2.1 y.1⟩
noncomputable def MN:Env:=fK prog tt [] [(165,2,aas),(165,600001,yP)] [(165,2,ku Uj Iq)] [] [(201,akV),(202,akW),(203,akX),(204,akY)]
def adh {d:Type} (a:UC.den->Option d) (b:UX.den->Option d) (c:Vh.den->Option d) (v:UC.den):Option d:=VN (fun e f g h i=>a ((e,()),((),()),(f,(g,h,()),i,()))) (fun j l o p=>b ((),((),()),(j,(l,o,()),p,()))) (c ((),((),()),())) v.1.1 v.2.2.1 v.2.2.2.1.1 v.2.2.2.1.2.1 v.2.2.2.2.1
theorem ant:dU MN 165 SE Uj:=lN (adh) (h2:=by intros;simp only[adh,VN,di,dm,aY,bZ,dn])
def Rl {d:Type} (a:GI.den->Option d) (b:IE.den->Option d) (c:IK.den->Option d) (v:GI.den):Option d:=xX (fun e f g h=>a ((e,()),((),()),((f,g,()),h,()))) (fun i j l=>b ((),((),()),((i,j,()),l,()))) (c ((),((),()),())) v.1.1 v.2.2.1.1 v.2.2.1.2.1 v.2.2.2.1
theorem afu:dU MN 165 SE Iq:=lN (Rl) (h2:=by intros;simp only[Rl,xX,di,dm,aY,bZ,dn])
theorem aqm:dL MN 165 apk:=zL [SE] (aD (fun L h=>by rw[show(MN).lp 165 (bM SE)=a6 (ku Uj Iq) by kernel_rfl]at h;cases h;exact nV ant afu) aN)
theorem aer:eP MN:=eB aN [165] (aD ⟨Tryz.f165,apk,by kernel_rfl,by kernel_rfl,aqm⟩ aN) (hx:=(aD af9 (aD I9 (aD uf (aD aga aN)))))
theorem I7:dJ prog 165 VV:=sB aer
def QB (d:Int):Option EO:=cond (bC d 3) (a6 (1,()))<|cond (bC d 11) (a6 (9,()))<|some (d,())
def ak9:Sum:=⟨[bW],tzD,fun x=>QB x.1⟩
theorem ags:dO prog 267 ak9:=qA Tryz.f267 [] aN
noncomputable def alM:Code:=(f247.body).getD .skip
noncomputable def ag5:Code:=cA (cA (cB (cA (cB (alM)))))
noncomputable def ag6:Code:=cA (cA (cB (cB (cB (alM)))))
def aiV:dW:=⟨[0,1,2,6,100002],[],[0,1],[],[],[]⟩
def aiW:dW:=⟨[0,77,78,79,100009],[],[],[],[],[]⟩
def UH:SQ:=⟨us [ct,db,bX,.u,.u,.u,bX] 141,cY,cy⟩
def U2:SQ:=⟨us [ct,db] 146,cY,cy⟩
def Vo:SQ:=⟨us [] 148,cY,[]⟩
def iH (d:jB) (e:Int):=cO d 0 (bP (eY .i64 e 1))
def tY (d:List jY) (e:jB) (f g:Int):=gp d (bP (iH e f)) ((cO d (0,(0,(0,(0,(false,()))))) (bP (iH e f))).1,((cO d (0,(0,(0,(0,(false,()))))) (bP (iH e f))).2.1,((bV .i64 g 1),((cO d (0,(0,(0,(0,(false,()))))) (bP (iH e f))).2.2.2.1,((cO d (0,(0,(0,(0,(false,()))))) (bP (iH e f))).2.2.2.2.1,())))))
def tZ (f:List jY) (d:jB) (e g:Int):=cO (tY f d e g) (0,(0,(0,(0,(false,()))))) (bP (iH d e))
def CW {h:Type} (f:List jY) (e:jB) (d g:Int) (i:(List mi)->Int->Int->(List jY)->jB->Option h) (j:List mi):Option h:=cond (gm f (iH e d)) (cond (mV (bP (iH e d)) f) (cond (gm (tY f e d g) (iH e d)) (cond (mV (bP (iH e d)) (tY f e d g)) (cond (gy (bi e) 0 (eY .i64 d 1)) (i j g (eY .i64 d 1) (gp (tY f e d g) (bP (iH e d)) ((tZ f e d g).1,((tZ f e d g).2.1,((tZ f e d g).2.2.1,((tZ f e d g).2.2.2.1,(false,())))))) (takeN e (bP (eY .i64 d 1)))) a7) a7) a7) a7) a7
def Lm {h:Type} (i:(List mi)->Int->Int->(List jY)->jB->Option h) (j:(List mi)->(List jY)->jB->Option h) (o:Option h) (f:List mi) (l d:Int) (g:List jY) (e:jB):Option h:=cond (gY 0 d) (cond (gm e (eY .i64 d 1)) (cond (mV (bP (eY .i64 d 1)) e) (cond (leI d (bi f)) (cond (gm f (eY .i64 d 1)) (cond (gm g (iH e d)) (cond (mV (bP (iH e d)) g) (cond (bC (bT f (0,(0,())) (eY .i64 d 1)).2.1 (cO g (0,(0,(0,(0,(false,()))))) (bP (iH e d))).2.1) (j f g e)<|CW g e d l i f) a7) a7) a7)<|CW g e d l i f) a7) a7)<|j f g e
def Gu:Nat->(List mi)->Int->Int->(List jY)->jB->Option (U2.den⊕Vo.den)
 |0,_,_,_,_,_=>a7
 |n+1,d,e,f,g,h=>Lm (Gu n) (fun i j l=>a6 (.inl ((i,()),((),()),((),j,l,())))) (a6 (.inr ((),((),()),()))) d e f g h
def am6 (n:Nat) (v:UH.den):=Gu n v.1.1 v.1.2.1 v.1.2.2.1 v.2.2.2.1 v.2.2.2.2.1
noncomputable def acC:dA:=eH aiV UH U2 Vo (.exit 0) (am6 bD) 6
def UI:SQ:=⟨us [ct,.u,.u,.u,.u,.u,.u,.u,.u,.u,.u,.u,.u,.u,.u,.u,.u,.u,.u,.u,.u,.u,.u,.u,.u,.u,.u,.u,.u,.u,.u,.u,.u,.u,.u,.u,.u,.u,.u,.u,.u,.u,.u,.u,.u,.u,.u,.u,.u,.u,.u,.u,.u,.u,.u,.u,.u,.u,.u,.u,.u,.u,.u,.u,.u,.u,.u,.u,.u,.u,.u,.u,.u,.u,.u,.u,.u,db,bX,bX] 68,cY,cy⟩
def U3:SQ:=⟨us [] 148,cY,cy⟩
def Vp:SQ:=⟨us [] 148,cY,[]⟩
def jr (d:List jY) (e:jB) (f:Int):=cO d (0,(0,(0,(0,(false,()))))) (bP (cO e 0 (bP f)))
def kD (d:List mi) (e:Int):=bC (bT d (0,(0,())) e).2.1 (bT d (0,(0,())) e).2.1
def kF (d:List mi) (e:Int):=bC (bT d (0,(0,())) e).1 (bT d (0,(0,())) e).1
def zx {i:Type} (l:(List mi)->Int->Int->(List jY)->jB->Option i) (o:(List jY)->jB->Option i) (p:Option i) (g:List mi) (j d:Int) (f:List jY) (e:jB):Option i:=cond (gY d j) (cond (gm g d) (cond (gY d (bi e)) (cond (gm e d) (cond (mV (bP d) e) (aZ (QB (bT g (0,(0,())) d).1) fun h=>cond (gm f (cO e 0 (bP d))) (cond (mV (bP (cO e 0 (bP d))) f) (cond (gm (gp f (bP (cO e 0 (bP d))) (h.1,((jr f e d).2.1,((jr f e d).2.2.1,((jr f e d).2.2.2.1,((jr f e d).2.2.2.2.1,())))))) (cO e 0 (bP d))) (cond ((eqN (bP (cO e 0 (bP d))) (bP (cO e 0 (bP d))))&&true) (l g j (bV .i64 d 1) (gp f (bP (cO e 0 (bP d))) (h.1,((jr f e d).2.1,((jr f e d).2.2.1,((jr f e d).2.2.2.1,((jr f e d).2.2.2.2.1,())))))) e) a7) a7) a7) a7) a7) a7)<|cond (gY 0 d) (cond (gm e (eY .i64 d 1)) (cond (mV (bP (eY .i64 d 1)) e) (cond (dZ (bI e [(bi f)]) 8) (cond (bC (bi f) (bi f)) (aZ (QB (bT g (0,(0,())) d).1) fun h=>cond (kF g d) (cond (kD g d) (cond (bC (cO e 0 (bP (eY .i64 d 1))) (cO e 0 (bP (eY .i64 d 1)))) (cond (((kF g d)&&true)&&((bC h.1 h.1)&&true)) (cond (dZ (bI f [(h.1,((bT g (0,(0,())) d).2.1,(0,((cO e 0 (bP (eY .i64 d 1))),(true,())))))]) 40) (cond (kF g d) (cond (kD g d) (cond (bC (cO e 0 (bP (eY .i64 d 1))) (cO e 0 (bP (eY .i64 d 1)))) (cond ((bC h.1 h.1)&&((kD g d)&&((bC 0 0)&&((bC (cO e 0 (bP (eY .i64 d 1))) (cO e 0 (bP (eY .i64 d 1))))&&((Pz true true)&&true))))) (l g j (bV .i64 d 1) (bI f [(h.1,((bT g (0,(0,())) d).2.1,(0,((cO e 0 (bP (eY .i64 d 1))),(true,())))))]) (bI e [(bi f)])) a7) a7) a7) a7) a7) a7) a7) a7) a7) a7) a7) a7) a7)<|cond (dZ (bI e [(bi f)]) 8) (cond (bC (bi f) (bi f)) (aZ (QB (bT g (0,(0,())) d).1) fun h=>cond (kF g d) (cond (kD g d) (cond (bC (-1) (-1)) (cond (((kF g d)&&true)&&((bC h.1 h.1)&&true)) (cond (dZ (bI f [(h.1,((bT g (0,(0,())) d).2.1,(0,((-1),(true,())))))]) 40) (cond (kF g d) (cond (kD g d) (cond (bC (-1) (-1)) (cond ((bC h.1 h.1)&&((kD g d)&&((bC 0 0)&&((bC (-1) (-1))&&((Pz true true)&&true))))) (l g j (bV .i64 d 1) (bI f [(h.1,((bT g (0,(0,())) d).2.1,(0,((-1),(true,())))))]) (bI e [(bi f)])) a7) a7) a7) a7) a7) a7) a7) a7) a7) a7) a7) a7)<|o f e
def qi:Nat->(List mi)->Int->Int->(List jY)->jB->Option (U3.den⊕Vp.den)
 |0,_,_,_,_,_=>a7
 |n+1,d,e,f,g,h=>zx (qi n) (fun i j=>a6 (.inl ((),((),()),((),i,j,())))) (a6 (.inr ((),((),()),()))) d e f g h
def am7 (n:Nat) (v:UI.den):=qi n v.1.1 v.1.2.1 v.1.2.2.1 v.2.2.2.1 v.2.2.2.2.1
noncomputable def acD:dA:=eH aiW UI U3 Vp (.exit 2) (am7 bD) 12
def Xm (h:List jY) (f:jB) (d:List mi) (i:Int):Option (((List jY)×jB×Unit)×(Unit)):=cond (gy (bi d) 1 (bi d)) (aZ (Gu bD (sub d 1 (bi d)) i (bi f) h f) fun j=>dB j (fun e=>aZ (qi bD e.1.1 (bi e.1.1) 0 e.2.2.2.1 e.2.2.2.2.1) fun l=>dB l (fun g=>a6 ((g.2.2.2.1,(g.2.2.2.2.1,())),())) (fun o=>a7)) (fun p=>a7)) a7
def ak4:fF:=⟨241,[(.list Hr,true),(.list bW,true)],[.list Px,bW],[],fun x y=>Xm x.1 x.2.1 y.1 y.2.1⟩
noncomputable def Td:Env:=fK prog tt [(267,ak9)] [(247,2,aiV),(247,9,aiW)] [(247,2,acC),(247,9,acD)] []
def adn {d:Type} (a:UH.den->Option d) (b:U2.den->Option d) (c:Vo.den->Option d) (v:UH.den):Option d:=Lm (fun e f g h i=>a ((e,f,g,()),((),()),((),h,i,()))) (fun j l o=>b ((j,()),((),()),((),l,o,()))) (c ((),((),()),())) v.1.1 v.1.2.1 v.1.2.2.1 v.2.2.2.1 v.2.2.2.2.1
theorem anz:dU Td 247 ag5 acC:=lN (adn) (h2:=by intros;simp only[adn,Lm,di,dm,aY,bZ,dn,iH,tY,tZ,CW])
def ado {d:Type} (a:UI.den->Option d) (b:U3.den->Option d) (c:Vp.den->Option d) (v:UI.den):Option d:=zx (fun e f g h i=>a ((e,f,g,()),((),()),((),h,i,()))) (fun j l=>b ((),((),()),((),j,l,()))) (c ((),((),()),())) v.1.1 v.1.2.1 v.1.2.2.1 v.2.2.2.1 v.2.2.2.2.1
theorem anA:dU Td 247 ag6 acD:=lN (ado) (h2:=by intros;simp only[ado,zx,di,dm,aY,bZ,dn,jr,kD,kF])
theorem aqs:dL Td 247 alM:=zL [ag5,ag6] (aD (fM (anz)) (aD (fM (anA)) aN))
theorem aez:eP Td:=eB (aD ags aN) [247] (aD ⟨f247,alM,by kernel_rfl,by kernel_rfl,aqs⟩ aN)
theorem agn:dJ prog 247 ak4:=sB aez
def W9 (d:Int):Option o8:=aZ (Nh d) fun e=>a6 ((bC e.1 5),())
def akL:Sum:=⟨[.int .u8],Wl,fun x=>W9 x.1⟩
theorem afP:dO prog 128 akL:=qA f128 [] (sE rH aN)
def Xa (d:Int):Option o8:=aZ (Nh d) fun e=>a6 ((bC e.1 6),())
def abf:Sum:=⟨[.int .u8],Wl,fun x=>Xa x.1⟩
theorem Ry:dO prog 130 abf:=qA f130 [] (sE rH aN)
noncomputable def Sz:Code:=(f127.body).getD .skip
noncomputable def BN:Code:=cA (cA (cA (cB (cB (cB (cA (cB (Sz))))))))
def xG:dW:=⟨[0,1,2,7,128000004],[],[7],[],[6],[]⟩
def NK:dW:=⟨[0,1,2,7],[],[],[],[],[]⟩
def CJ:SQ:=⟨us [bL,bX,.fn 129 [],.u,.u,.u,.u,bX] 25,[cS,[]],[]⟩
def Ez:SQ:=⟨c6,[cS,[]],[]⟩
def EE:SQ:=⟨us [] 33,[cS,[]],[]⟩
def zA {g:Type} (o:bH->Int->Int->bH->Int->bH->Int->Option g) (p:Int->bH->Int->bH->Int->Option g) (u:bH->Int->bH->Int->Option g) (e:bH) (f d:Int) (h:bH) (i:Int) (j:bH) (l:Int):Option g:=cond (gY (bV .i64 f d) (bi e)) (cond (gm e (bV .i64 f d)) (aZ (W9 (bU e (bV .i64 f d))) fun q=>cond q.1 (o e f (bV .i64 d 1) h i j l)<|aZ (Xa (bU e (bV .i64 f d))) fun s=>cond (!s.1) (p d h i j l)<|o e f (bV .i64 d 1) h i j l) a7)<|p d h i j l
def nR:Nat->bH->Int->Int->bH->Int->bH->Int->Option (Ez.den⊕EE.den)
 |0,_,_,_,_,_,_,_=>a7
 |n+1,d,e,f,g,h,i,j=>zA (nR n) (fun l o p q s=>a6 (.inl ((l,()),((o,p,q,s,()),(),()),()))) (fun u v x y=>a6 (.inr ((),((u,v,x,y,()),(),()),()))) d e f g h i j
def aaJ (n:Nat) (v:CJ.den):=ar (nR n) v
noncomputable def Ei:dA:=eH xG CJ Ez EE (.exit 0) (aaJ bD) 6
def vF:SQ:=⟨us [bL,bX,.fn 128 [],.u,.u,.u,.u,bX] 25,[cT,[]],[]⟩
def zk:SQ:=⟨c6,[cT,[]],[]⟩
def zl:SQ:=⟨us [] 33,[cT,[]],[]⟩
def sZ {e:Type} (p:bH->Int->Int->bH->Int->bH->Int->Option e) (o:Int->bH->Int->bH->Int->Option e) (s:bH->Int->bH->Int->Option e) (f:bH) (g d:Int) (h:bH) (i:Int) (j:bH) (l:Int):Option e:=cond (gY (bV .i64 g d) (bi f)) (cond (gm f (bV .i64 g d)) (aZ (W9 (bU f (bV .i64 g d))) fun q=>cond (!q.1) (o d h i j l)<|p f g (bV .i64 d 1) h i j l) a7)<|o d h i j l
def lX:Nat->bH->Int->Int->bH->Int->bH->Int->Option (zk.den⊕zl.den)
 |0,_,_,_,_,_,_,_=>a7
 |n+1,d,e,f,g,h,i,j=>sZ (lX n) (fun l o p q s=>a6 (.inl ((l,()),((o,p,q,s,()),(),()),()))) (fun u v x y=>a6 (.inr ((),((u,v,x,y,()),(),()),()))) d e f g h i j
def Ui (n:Nat) (v:vF.den):=ar (lX n) v
noncomputable def yU:dA:=eH xG vF zk zl (.exit 0) (Ui bD) 12
def aah (d:Int) (e:bH):Option EO:=cond (bC 0 0) (a6 (0,()))<|cond (gY d 0) (a6 (0,()))<|cond (leI (bi e) d) (a6 (0,()))<|aZ (nR bD e d 0 e d e d) fun f=>dB f (fun g=>a6 (g.1.1,())) (fun h=>a7)
def aag (f:bH) (e:Int):Option EO:=cond (gY e 0) (aah e f)<|cond (leI (bi f) e) (aah e f)<|aZ (lX bD f e 0 f e f e) fun g=>dB g (fun d=>cond (bC d.1.1 0) (a6 (0,()))<|cond (gY d.2.1.1.2.1 0) (a6 (0,()))<|cond (leI (bi d.2.1.1.1) d.2.1.1.2.1) (a6 (0,()))<|aZ (nR bD d.2.1.1.1 d.2.1.1.2.1 0 d.2.1.1.1 d.2.1.1.2.1 d.2.1.1.1 d.2.1.1.2.1) fun h=>dB h (fun i=>a6 (i.1.1,())) (fun j=>a7)) (fun l=>a7)
def atJ:Sum:=⟨[.str,bW],tzD,fun x=>aag x.1 x.2.1⟩
noncomputable def WP:Env:=fK prog tt [(128,akL),(130,abf)] [(127,4,xG),(96,600001,yP),(96,600003,yP),(127,600006,NK)] [(127,4,ku Ei yU)] []
def OH {d:Type} (a:CJ.den->Option d) (b:Ez.den->Option d) (c:EE.den->Option d) (v:CJ.den):Option d:=ar (zA (fun e f g h i j l=>a ((e,f,g,()),((h,i,j,l,()),(),()),())) (fun o p q s u=>b ((o,()),((p,q,s,u,()),(),()),())) (fun x y z A=>c ((),((x,y,z,A,()),(),()),()))) v
theorem aaP:dU WP 127 BN Ei:=lN (OH) (h2:=by intros;simp only[OH,ar,zA,di,dm,aY,bZ,dn])
def GZ {d:Type} (a:vF.den->Option d) (b:zk.den->Option d) (c:zl.den->Option d) (v:vF.den):Option d:=ar (sZ (fun e f g h i j l=>a ((e,f,g,()),((h,i,j,l,()),(),()),())) (fun o p q s u=>b ((o,()),((p,q,s,u,()),(),()),())) (fun x y z A=>c ((),((x,y,z,A,()),(),()),()))) v
theorem Uo:dU WP 127 BN yU:=lN (GZ) (h2:=by intros;simp only[GZ,ar,sZ,di,dm,aY,bZ,dn])
theorem afg:dL WP 127 Sz:=zL [BN] (aD (fun L h=>by rw[show(WP).lp 127 (bM BN)=a6 (ku Ei yU) by kernel_rfl]at h;cases h;exact nV aaP Uo) aN)
theorem ahJ:eP WP:=eB (aD afP (aD Ry aN)) [127] (aD ⟨f127,Sz,by kernel_rfl,by kernel_rfl,afg⟩ aN)
theorem O0:dO prog 96 atJ:=sA ahJ
noncomputable def LQ:Code:=(f127.body).getD .skip
noncomputable def Md:Code:=cA (cA (cA (cB (cB (cB (cA (cB (LQ))))))))
def yX:SQ:=⟨us [bL,bX,.fn 130 [],.u,.u,.u,.u,bX] 25,[de,[]],[]⟩
def AV:SQ:=⟨c6,[de,[]],[]⟩
def Bc:SQ:=⟨us [] 33,[de,[]],[]⟩
def vU {e:Type} (p:bH->Int->Int->bH->Int->bH->Int->Option e) (o:Int->bH->Int->bH->Int->Option e) (s:bH->Int->bH->Int->Option e) (f:bH) (g d:Int) (h:bH) (i:Int) (j:bH) (l:Int):Option e:=cond (gY (bV .i64 g d) (bi f)) (cond (gm f (bV .i64 g d)) (aZ (Xa (bU f (bV .i64 g d))) fun q=>cond (!q.1) (o d h i j l)<|p f g (bV .i64 d 1) h i j l) a7)<|o d h i j l
def nY:Nat->bH->Int->Int->bH->Int->bH->Int->Option (AV.den⊕Bc.den)
 |0,_,_,_,_,_,_,_=>a7
 |n+1,d,e,f,g,h,i,j=>vU (nY n) (fun l o p q s=>a6 (.inl ((l,()),((o,p,q,s,()),(),()),()))) (fun u v x y=>a6 (.inr ((),((u,v,x,y,()),(),()),()))) d e f g h i j
def X3 (n:Nat) (v:yX.den):=ar (nY n) v
noncomputable def JF:dA:=eH xG yX AV Bc (.exit 0) (X3 bD) 6
def Af (e:bH) (d:Int):Option EO:=cond (gY d 0) (a6 (0,()))<|cond (leI (bi e) d) (a6 (0,()))<|aZ (nY bD e d 0 e d e d) fun f=>dB f (fun g=>a6 (g.1.1,())) (fun h=>a7)
def arA:Sum:=⟨[.str,bW],tzD,fun x=>Af x.1 x.2.1⟩
noncomputable def ZK:Env:=fK prog tt [(130,abf)] [(127,4,xG),(125,600001,yP),(127,600006,NK)] [(127,4,JF)] []
def J5 {d:Type} (a:yX.den->Option d) (b:AV.den->Option d) (c:Bc.den->Option d) (v:yX.den):Option d:=ar (vU (fun e f g h i j l=>a ((e,f,g,()),((h,i,j,l,()),(),()),())) (fun o p q s u=>b ((o,()),((p,q,s,u,()),(),()),())) (fun x y z A=>c ((),((x,y,z,A,()),(),()),()))) v
theorem Yk:dU ZK 127 Md JF:=lN (J5) (h2:=by intros;simp only[J5,ar,vU,di,dm,aY,bZ,dn])
theorem aax:dL ZK 127 LQ:=zL [Md] (aD (fM (Yk)) aN)
theorem aei:eP ZK:=eB (aD Ry aN) [127] (aD ⟨f127,LQ,by kernel_rfl,by kernel_rfl,aax⟩ aN)
theorem Rx:dO prog 125 arA:=sA aei
def QA (e:bH) (d:Int):Option EO:=aZ (aag e d) fun g=>cond (gY 0 g.1) (a6 (g.1,()))<|cond (gY d 0) (a6 (0,()))<|cond (leI (bi e) d) (a6 (0,()))<|cond (gm e d) (cond (bC (bU e d) 64) (cond (bC (bU e d) 64) (a6 (1,()))<|aZ (Af e d) fun f=>a6 ((Ej f.1 1),()))<|cond (bC (bU e d) 42) (cond (bC (bU e d) 42) (a6 (1,()))<|aZ (Af e d) fun f=>a6 ((Ej f.1 1),()))<|cond (bC (bU e d) 35) (cond (bC (bU e d) 35) (a6 (1,()))<|aZ (Af e d) fun f=>a6 ((Ej f.1 1),()))<|cond (bC (bU e d) 63) (cond (bC (bU e d) 63) (a6 (1,()))<|aZ (Af e d) fun f=>a6 ((Ej f.1 1),()))<|cond (bC (bU e d) 45) (cond (bC (bU e d) 45) (a6 (1,()))<|aZ (Af e d) fun f=>a6 ((Ej f.1 1),()))<|cond (bC (bU e d) 36) (cond (bC (bU e d) 36) (a6 (1,()))<|aZ (Af e d) fun f=>a6 ((Ej f.1 1),()))<|cond (bC (bU e d) 33) (a6 (1,()))<|aZ (Af e d) fun f=>a6 ((Ej f.1 1),())) a7
def ak5:Sum:=⟨[.str,bW],tzD,fun x=>QA x.1 x.2.1⟩
theorem agp:dO prog 248 ak5:=qA f248 [] (sE Rx (sE O0 aN))
noncomputable def alL:Code:=(f209.body).getD .skip
noncomputable def ag3:Code:=cA (cA (cB (cA (cB (cB (cB (alL)))))))
noncomputable def abt:Code:=cA (cA (cB (cA (cB (cB (cB (cB (alL))))))))
def aiT:dW:=⟨[0,3,4,12,13,100004],[(100000900,.pair (.list .unit) Hr),(100000901,.pair (.list .unit) bW)],[0,3],[],[2],[(2,Hr)]⟩
def aci:dW:=⟨[0,3,31,32,100010],[],[3],[],[2],[(2,Hr)]⟩
def amC:dW:=⟨[0,3],[],[],[],[],[]⟩
def amD:dW:=⟨[0,3,4,5,12,13],[],[],[],[],[]⟩
def UF:SP:=⟨us [bL,.u,.u,dz,c8,.u,.u,.u,.u,.u,.u,.u,bX,bX] 65,[cC,cW,.arr 1502009 bW,.arr 1500009 Hr,da]⟩
def U0:SP:=⟨us [bL,.u,.u,dz] 75,cx⟩
def Vl:SP:=⟨us [.u,.u,d7] 76,[]⟩
def Lh {g:Type} (o:bH->Int->Int->Bool->Int->(List mi)->jB->(List jY)->Option g) (q:bH->jB->(List jY)->Option g) (x:(List jY)->Option g) (f:bH) (i e:Int) (s:Bool) (u:Int) (v:List mi) (j:jB) (l:List jY):Option g:=cond (gY e i) (cond (gm f e) (aZ (Qy v s u (bU f e)) fun d=>cond (bC (bi d.1.1) 0) (aZ (Xm l j [(0,(0,()))] e) fun h=>o f i (bV .i64 e 1) d.1.2.1 d.1.2.2.1 d.1.1 h.1.2.1 h.1.1)<|aZ (lT d.1.1) fun h=>aZ (Xm l j h.1 e) fun p=>o f i (bV .i64 e 1) d.1.2.1 d.1.2.2.1 d.1.1 p.1.2.1 p.1.1) a7)<|q f j l
def Gs:Nat->bH->Int->Int->Bool->Int->(List mi)->jB->(List jY)->Option (U0.den⊕Vl.den)
 |0,_,_,_,_,_,_,_,_=>a7
 |n+1,d,e,f,g,h,i,j,l=>Lh (Gs n) (fun o p q=>a6 (.inl ((o,()),(p,q,(),())))) (fun s=>a6 (.inr ((s,()),()))) d e f g h i j l
def am4 (n:Nat) (v:UF.den):=Gs n v.1.1 v.1.2.1 v.1.2.2.1 v.2.1.1 v.2.1.2.1 v.2.2.1 v.2.2.2.1 v.2.2.2.2.1
noncomputable def acA:dA:=jb aiT UF U0 Vl (.exit 0) (am4 bD) 6
def KI:SP:=⟨us [bL,.u,.u,dz,.u,.u,.u,.u,.u,.u,.u,.u,.u,.u,.u,.u,.u,.u,.u,.u,.u,.u,.u,.u,.u,.u,.u,.u,.u,.u,.u,bX,bX] 46,cx⟩
def Oj:SP:=⟨us [.u,.u,.u,dz] 75,cx⟩
def Ot:SP:=⟨us [.u,.u,d7] 76,[]⟩
def dI (d:List jY) (e:Int):=cO d (0,(0,(0,(0,(false,()))))) (bP e)
def iF (d:List jY) (e:Int) (f:bH):=gp d (bP e) ((dI d e).1,((dI d e).2.1,((bi f),((dI d e).2.2.2.1,((dI d e).2.2.2.2.1,())))))
def dN (e:List jY) (d:Int) (f:bH):=cO (iF e d f) (0,(0,(0,(0,(false,()))))) (bP d)
def G8 {j:Type} (l:bH->Int->Int->jB->(List jY)->Option j) (o:jB->(List jY)->Option j) (p:(List jY)->Option j) (f:bH) (h d:Int) (i:jB) (e:List jY):Option j:=cond (gY d h) (cond (gm e d) (cond (mV (bP d) e) (cond ((dI e d).2.2.2.2.1) (cond (mV (bP d) e) (cond (mV (bP d) (iF e d f)) (cond (bC (dN e d f).1 12) (cond (mV (bP d) (iF e d f)) (cond (mV (bP d) (iF e d f)) (aZ (QA f (bV .i64 (dN e d f).2.1 1)) fun g=>cond (mV (bP d) (iF e d f)) (cond ((eqN (bP d) (bP d))&&true) (cond ((eqN (bP d) (bP d))&&true) (cond (mV (bP d) (gp (iF e d f) (bP d) ((dN e d f).1,((dN e d f).2.1,((bV .i64 (bV .i64 (dN e d f).2.1 1) g.1),((dN e d f).2.2.2.1,((dN e d f).2.2.2.2.1,()))))))) (cond ((eqN (bP d) (bP d))&&true) (l f h (bV .i64 d 1) i (gp (gp (iF e d f) (bP d) ((dN e d f).1,((dN e d f).2.1,((bV .i64 (bV .i64 (dN e d f).2.1 1) g.1),((dN e d f).2.2.2.1,((dN e d f).2.2.2.2.1,())))))) (bP d) ((cO (gp (iF e d f) (bP d) ((dN e d f).1,((dN e d f).2.1,((bV .i64 (bV .i64 (dN e d f).2.1 1) g.1),((dN e d f).2.2.2.1,((dN e d f).2.2.2.2.1,())))))) (0,(0,(0,(0,(false,()))))) (bP d)).1,((cO (gp (iF e d f) (bP d) ((dN e d f).1,((dN e d f).2.1,((bV .i64 (bV .i64 (dN e d f).2.1 1) g.1),((dN e d f).2.2.2.1,((dN e d f).2.2.2.2.1,())))))) (0,(0,(0,(0,(false,()))))) (bP d)).2.1,((cO (gp (iF e d f) (bP d) ((dN e d f).1,((dN e d f).2.1,((bV .i64 (bV .i64 (dN e d f).2.1 1) g.1),((dN e d f).2.2.2.1,((dN e d f).2.2.2.2.1,())))))) (0,(0,(0,(0,(false,()))))) (bP d)).2.2.1,((cO (gp (iF e d f) (bP d) ((dN e d f).1,((dN e d f).2.1,((bV .i64 (bV .i64 (dN e d f).2.1 1) g.1),((dN e d f).2.2.2.1,((dN e d f).2.2.2.2.1,())))))) (0,(0,(0,(0,(false,()))))) (bP d)).2.2.2.1,(false,()))))))) a7) a7) a7) a7) a7) a7) a7)<|l f h (bV .i64 d 1) i (iF e d f)) a7) a7)<|cond (mV (bP d) e) (cond (bC (dI e d).1 12) (cond (mV (bP d) e) (cond (mV (bP d) e) (aZ (QA f (bV .i64 (dI e d).2.1 1)) fun g=>cond (mV (bP d) e) (cond ((eqN (bP d) (bP d))&&true) (cond ((eqN (bP d) (bP d))&&true) (cond (mV (bP d) (gp e (bP d) ((dI e d).1,((dI e d).2.1,((bV .i64 (bV .i64 (dI e d).2.1 1) g.1),((dI e d).2.2.2.1,((dI e d).2.2.2.2.1,()))))))) (cond ((eqN (bP d) (bP d))&&true) (l f h (bV .i64 d 1) i (gp (gp e (bP d) ((dI e d).1,((dI e d).2.1,((bV .i64 (bV .i64 (dI e d).2.1 1) g.1),((dI e d).2.2.2.1,((dI e d).2.2.2.2.1,())))))) (bP d) ((cO (gp e (bP d) ((dI e d).1,((dI e d).2.1,((bV .i64 (bV .i64 (dI e d).2.1 1) g.1),((dI e d).2.2.2.1,((dI e d).2.2.2.2.1,())))))) (0,(0,(0,(0,(false,()))))) (bP d)).1,((cO (gp e (bP d) ((dI e d).1,((dI e d).2.1,((bV .i64 (bV .i64 (dI e d).2.1 1) g.1),((dI e d).2.2.2.1,((dI e d).2.2.2.2.1,())))))) (0,(0,(0,(0,(false,()))))) (bP d)).2.1,((cO (gp e (bP d) ((dI e d).1,((dI e d).2.1,((bV .i64 (bV .i64 (dI e d).2.1 1) g.1),((dI e d).2.2.2.1,((dI e d).2.2.2.2.1,())))))) (0,(0,(0,(0,(false,()))))) (bP d)).2.2.1,((cO (gp e (bP d) ((dI e d).1,((dI e d).2.1,((bV .i64 (bV .i64 (dI e d).2.1 1) g.1),((dI e d).2.2.2.1,((dI e d).2.2.2.2.1,())))))) (0,(0,(0,(0,(false,()))))) (bP d)).2.2.2.1,(false,()))))))) a7) a7) a7) a7) a7) a7) a7)<|l f h (bV .i64 d 1) i e) a7) a7) a7)<|o i e
def xJ:Nat->bH->Int->Int->jB->(List jY)->Option (Oj.den⊕Ot.den)
 |0,_,_,_,_,_=>a7
 |n+1,d,e,f,g,h=>G8 (xJ n) (fun i j=>a6 (.inl ((),(i,j,(),())))) (fun l=>a6 (.inr ((l,()),()))) d e f g h
def ajq (n:Nat) (v:KI.den):=xJ n v.1.1 v.1.2.1 v.1.2.2.1 v.2.1 v.2.2.1
noncomputable def Ya:dA:=jb aci KI Oj Ot (.exit 2) (ajq bD) 12
def abW (e:bH):Option ((List jY)×Unit):=aZ (Gs bD e (bi e) 0 true 0 [(0,(0,()))] [] []) fun f=>dB f (fun d=>aZ (xJ bD d.1.1 (bi d.2.2.1) 0 d.2.1 d.2.2.1) fun g=>dB g (fun h=>a6 (h.2.2.1,())) (fun i=>a6 (i.1.1,()))) (fun j=>a6 (j.1.1,()))
def ak0:Sum:=⟨[.str],[(.list Hr,false)],fun x=>abW x.1⟩
noncomputable def Tc:Env:=fK prog tt [(246,vZ),(248,ak5)] [(209,4,aiT),(209,10,aci),(209,600002,amC),(209,600007,amD)] [(209,4,acA),(209,10,Ya)] [] [(165,VV),(247,ak4)]
def adl {d:Type} (a:UF.den->Option d) (b:U0.den->Option d) (c:Vl.den->Option d) (v:UF.den):Option d:=Lh (fun e f g h i j l o=>a ((e,f,g,()),((h,i,()),j,l,o,(),()))) (fun p q s=>b ((p,()),(q,s,(),()))) (aE c) v.1.1 v.1.2.1 v.1.2.2.1 v.2.1.1 v.2.1.2.1 v.2.2.1 v.2.2.2.1 v.2.2.2.2.1
theorem anw:dU Tc 209 ag3 acA:=lpS (adl) (h2:=by intros;simp only[adl,aE,Lh,di,dm,aY,bZ,dn])
def YQ {d:Type} (a:KI.den->Option d) (b:Oj.den->Option d) (c:Ot.den->Option d) (v:KI.den):Option d:=G8 (fun e f g h i=>a ((e,f,g,()),(h,i,(),()))) (fun j l=>b ((),(j,l,(),()))) (aE c) v.1.1 v.1.2.1 v.1.2.2.1 v.2.1 v.2.2.1
theorem ajJ:dU Tc 209 abt Ya:=lpS (YQ) (h2:=by intros;simp only[YQ,aE,G8,di,dm,aY,bZ,dn,dI,iF,dN])
theorem aqp:dL Tc 209 alL:=zL [ag3,abt] (aD (fM (anw)) (aD (fM (ajJ)) aN))
theorem aev:eP Tc:=eB (aD uJ (aD agp aN)) [209] (aD ⟨f209,alL,by kernel_rfl,by kernel_rfl,aqp⟩ aN) (hx:=(aD I7 (aD agn aN)))
theorem agd:dO prog 209 ak0:=sA aev
def Xj (d:List mi) (e:Bool) (f:Int):Option (V5×o8):=cond e (a6 ((d,(e,(f,()))),(true,())))<|some ((d,(e,(f,()))),((bC (bi d) 0),()))
def akZ:fF:=⟨216,tzB,[],[.bool],fun x y=>Xj x.1 x.2.1 x.2.2.1⟩
theorem agb:dJ prog 206 akZ:=qB [] aN
noncomputable def apl:Code:=(Tryz.f166.body).getD .skip
noncomputable def ag1:Code:=cA (cA (cB (cA (cB (cB (apl))))))
def aiR:dW:=⟨[0,4,8,9,100003],[],[4],[],[2,3],[(2,Px)]⟩
def sG:dW:=⟨[0],[],[],[],[],[]⟩
def acl:dW:=⟨[4],[],[],[],[],[]⟩
def UD:SP:=⟨us [bL,.u,.u,.u,c8,.u,.u,.u,bX,bX] 12,[cC,cW]⟩
def UY:SP:=⟨us [.u,.u,.u,.u,c8] 17,[cC,cW]⟩
def Vj:SP:=⟨us [.u,.u,db,ci] 18,[]⟩
def Lc {d:Type} (o:bH->Int->Int->Bool->Int->(List mi)->Option d) (p:Bool->Int->(List mi)->Option d) (q:(List mi)->Bool->Option d) (f:bH) (h e:Int) (i:Bool) (j:Int) (l:List mi):Option d:=cond (gY e h) (cond (gm f e) (aZ (Qy l i j (bU f e)) fun g=>o f h (bV .i64 e 1) g.1.2.1 g.1.2.2.1 g.1.1) a7)<|p i j l
def Gn:Nat->bH->Int->Int->Bool->Int->(List mi)->Option (UY.den⊕Vj.den)
 |0,_,_,_,_,_,_=>a7
 |n+1,d,e,f,g,h,i=>Lc (Gn n) (fun j l o=>a6 (.inl ((),((j,l,()),o,())))) (fun p q=>a6 (.inr ((p,q,()),()))) d e f g h i
def am2 (n:Nat) (v:UD.den):=Gn n v.1.1 v.1.2.1 v.1.2.2.1 v.2.1.1 v.2.1.2.1 v.2.2.1
noncomputable def acy:dA:=jb aiR UD UY Vj (.exit 0) (am2 bD) 6
def abN (f:bH):Option ((List mi)×Bool×Unit):=aZ (Gn bD f (bi f) 0 true 0 [(0,(0,()))]) fun h=>dB h (fun d=>cond (bC (bi d.2.2.1) 0) (aZ (Xj d.2.2.1 d.2.1.1 d.2.1.2.1) fun e=>a6 ([(0,(0,()))],(e.2.1,())))<|aZ (lT d.2.2.1) fun e=>aZ (Xj d.2.2.1 d.2.1.1 d.2.1.2.1) fun i=>a6 (e.1,(i.2.1,()))) (fun g=>a6 (g.1.1,(g.1.2.1,())))
def akQ:Sum:=⟨[.str],[(.list Px,false),(.bool,false)],fun x=>abN x.1⟩
noncomputable def ZR:Env:=fK prog tt [(246,vZ)] [(166,3,aiR),(166,600001,sG),(166,600007,acl)] [(166,3,acy)] [] [(165,VV),(206,akZ)]
def adi {d:Type} (a:UD.den->Option d) (b:UY.den->Option d) (c:Vj.den->Option d) (v:UD.den):Option d:=Lc (fun e f g h i j=>a ((e,f,g,()),((h,i,()),j,()))) (fun l o p=>b ((),((l,o,()),p,()))) (aL c) v.1.1 v.1.2.1 v.1.2.2.1 v.2.1.1 v.2.1.2.1 v.2.2.1
theorem anu:dU ZR 166 ag1 acy:=lpS (adi) (h2:=by intros;simp only[adi,aL,Lc,di,dm,aY,bZ,dn])
theorem aqn:dL ZR 166 apl:=zL [ag1] (aD (fM (anu)) aN)
theorem aes:eP ZR:=eB (aD uJ aN) [166] (aD ⟨Tryz.f166,apl,by kernel_rfl,by kernel_rfl,aqn⟩ aN) (hx:=(aD I7 (aD agb aN)))
theorem af0:dO prog 166 akQ:=sA aes
def abM (d:List mi) (e:Bool) (f g:Int):Option (V5×o8):=aZ (Dn g) fun h=>cond (!h.1) (a6 ((d,(e,(f,()))),(false,())))<|cond (bC (bi d) 1) (a6 ((d,(e,(f,()))),(true,())))<|cond (bC (bi d) 2) (cond (gm d 1) (cond (mV (bP 1) d) (cond (bC (cO d (0,(0,())) (bP 1)).1 12) (a6 ((d,(e,(f,()))),((!(bC g 40)),())))<|some ((d,(e,(f,()))),(false,()))) a7) a7)<|some ((d,(e,(f,()))),(false,()))
def akP:fF:=⟨216,tzB,[.int .u8],[.bool],fun x y=>abM x.1 x.2.1 x.2.2.1 y.1⟩
theorem afZ:dJ prog 164 akP:=qB [] (sE RH aN)
noncomputable def apj:Code:=(f140.body).getD .skip
noncomputable def agZ:Code:=cA (cA (cA (cB (cB (cB (apj))))))
def aiP:dW:=⟨[0,1,5,100004],[],[1],[],[4],[]⟩
def UA:SP:=⟨us [bL,bX,.u,.u,.u,c8] 27,[cC,cW]⟩
def UU:SP:=⟨us [.u,bX] 31,[]⟩
def Ve:SP:=⟨us [.u,.u,.u,.u,bX] 28,[]⟩
def La {g:Type} (i:bH->Int->Bool->Int->(List mi)->Option g) (j l:Int->Option g) (e:bH) (d:Int) (o:Bool) (p:Int) (q:List mi):Option g:=cond (gY d (bi e)) (cond (gm e d) (aZ (abM q o p (bU e d)) fun f=>cond f.2.1 (l d)<|cond (gm e d) (aZ (Qy f.1.1 f.1.2.1 f.1.2.2.1 (bU e d)) fun h=>i e (bV .i64 d 1) h.1.2.1 h.1.2.2.1 h.1.1) a7) a7)<|j d
def Gm:Nat->bH->Int->Bool->Int->(List mi)->Option (UU.den⊕Ve.den)
 |0,_,_,_,_,_=>a7
 |n+1,d,e,f,g,h=>La (Gm n) (fun i=>a6 (.inl ((i,()),()))) (fun j=>a6 (.inr ((j,()),()))) d e f g h
def amZ (n:Nat) (v:UA.den):=Gm n v.1.1 v.1.2.1 v.2.1.1 v.2.1.2.1 v.2.2.1
noncomputable def acw:dA:=jb aiP UA UU Ve (.exit 0) (amZ bD) 6
def Xf (e:bH) (d:Int):Option EO:=cond (gY d 0) (a6 ((-1),()))<|cond (gY (bi e) d) (a6 ((-1),()))<|aZ (Gm bD e d true 0 [(0,(0,()))]) fun f=>dB f (fun g=>a6 (g.1.1,())) (fun h=>a6 (h.1.1,()))
def arF:Sum:=⟨[.str,bW],tzD,fun x=>Xf x.1 x.2.1⟩
noncomputable def ZO:Env:=fK prog tt [] [(140,4,aiP),(140,600003,yP)] [(140,4,acw)] [] [(164,akP),(165,VV)]
def adf {d:Type} (a:UA.den->Option d) (b:UU.den->Option d) (c:Ve.den->Option d) (v:UA.den):Option d:=La (fun e f g h i=>a ((e,f,()),((g,h,()),i,()))) (aE b) (aE c) v.1.1 v.1.2.1 v.2.1.1 v.2.1.2.1 v.2.2.1
theorem anq:dU ZO 140 agZ acw:=lpS (adf) (h2:=by intros;simp only[adf,aE,La,di,dm,aY,bZ,dn])
theorem aqi:dL ZO 140 apj:=zL [agZ] (aD (fM (anq)) aN)
theorem aem:eP ZO:=eB aN [140] (aD ⟨f140,apj,by kernel_rfl,by kernel_rfl,aqi⟩ aN) (hx:=(aD afZ (aD I7 aN)))
theorem afU:dO prog 140 arF:=sA aem
def FU (d:Int):Option (bH×Unit):=cond (bC d 9) (a6 ([41,41],()))<|cond (bC d 13) (cond (bC d 13) (a6 ([10],()))<|some ([],()))<|cond (bC d 14) (a6 ([10],()))<|some ([],())
def abP (d:Int):Option (bH×Unit):=cond (bC d 1) (cond (bC d 1) (a6 ([41],()))<|FU d)<|cond (bC d 3) (cond (bC d 3) (a6 ([41],()))<|FU d)<|cond (bC d 2) (cond (bC d 2) (a6 ([41],()))<|FU d)<|cond (bC d 10) (cond (bC d 10) (a6 ([41],()))<|FU d)<|cond (bC d 11) (a6 ([41],()))<|FU d
def abO (d:Int):Option (bH×Unit):=cond (bC d 4) (a6 ([39],()))<|cond (bC d 5) (a6 ([34],()))<|cond (bC d 6) (a6 ([96],()))<|cond (bC d 7) (cond (bC d 7) (a6 ([125],()))<|abP d)<|cond (bC d 8) (a6 ([125],()))<|abP d
def akR:Sum:=⟨[bW],[(.str,false)],fun x=>abO x.1⟩
theorem af1:dO prog 168 akR:=qA f168 [] aN
noncomputable def Su:Code:=(f141.body).getD .skip
noncomputable def LU:Code:=(f207.body).getD .skip
noncomputable def Me:Code:=cA (cA (cB (LU)))
def NF:dW:=⟨[0,1,3,173000001],[],[],[],[],[]⟩
def amK:dW:=⟨[2,5],[],[],[],[],[]⟩
def amz:dW:=⟨[2,3,5],[],[],[],[],[]⟩
def XL:dW:=⟨[0,1,3],[],[],[],[],[]⟩
def yY:SQ:=⟨us [.yld 1700014,c9,.u,bX] 15,[cD,[.yld 1700014],[]],cw⟩
def AX:SQ:=⟨us [] 19,[cD,[.yld 1700014],[]],cw⟩
def Bd:SQ:=⟨us [] 19,[cD,[.yld 1700014],[]],[]⟩
def rE {f:Type} (l:Int->bH->bH->(List mi)->jB->Option f) (o:bH->bH->(List mi)->jB->Option f) (p:bH->Option f) (d:Int) (h i:bH) (e:List mi) (g:jB):Option f:=cond (leI 0 d) (cond (gm e d) (aZ (abO (bT e (0,(0,())) d).1) fun j=>cond (dZ (bI g (bF j.1)) 1) (cond (bC (bT e (0,(0,())) d).1 (bT e (0,(0,())) d).1) (l (eY .i64 d 1) h i e (bI g (bF j.1))) a7) a7) a7)<|o h i e g
def nZ:Nat->Int->bH->bH->(List mi)->jB->Option (AX.den⊕Bd.den)
 |0,_,_,_,_,_=>a7
 |n+1,d,e,f,g,h=>rE (nZ n) (fun i j l o=>a6 (.inl ((),((i,()),(),(),()),((j,()),(l,()),(),o,())))) (fun p=>a6 (.inr ((),((p,()),(),(),()),()))) d e f g h
def X4 (n:Nat) (v:yY.den):=nZ n v.1.1 v.2.1.1.1 v.2.2.1.1 v.2.2.2.1.1 v.2.2.2.2.2.1
noncomputable def JG:dA:=eH NF yY AX Bd (.exit 0) (X4 bD) 6
def abJ (e:bH):Option (bH×Unit):=aZ (abN e) fun d=>aZ (nZ bD (eY .i64 (bi d.1) 1) [] [] d.1 []) fun f=>dB f (fun g=>a6 ((ofBytes g.2.2.2.2.2.1),())) (fun h=>a7)
def arG:Sum:=⟨[.str],[(.str,false)],fun x=>abJ x.1⟩
noncomputable def S9:Env:=fK prog tt [(166,akQ),(168,akR)] [(207,1,NF),(141,500005,amK),(141,600003,amz),(207,600003,XL)] [(207,1,JG)] [141]
def J6 {d:Type} (a:yY.den->Option d) (b:AX.den->Option d) (c:Bd.den->Option d) (v:yY.den):Option d:=rE (fun e f g h i=>a ((e,()),((f,()),(),(),()),((g,()),(h,()),(),i,()))) (fun j l o p=>b ((),((j,()),(),(),()),((l,()),(o,()),(),p,()))) (fun q=>c ((),((q,()),(),(),()),())) v.1.1 v.2.1.1.1 v.2.2.1.1 v.2.2.2.1.1 v.2.2.2.2.2.1
theorem Yl:dU S9 207 Me JG:=lN (J6) (h2:=by intros;simp only[J6,rE,di,dm,aY,bZ,dn])
theorem ap9:iW Su=[]:=by kernel_rfl
theorem ari:iU Su=[(cA (cA (cB (cA (cB (cB (cB (Su))))))),cB (cA (cB (cA (cB (cB (cB (Su))))))))]:=by kernel_rfl
theorem aqj:dL S9 141 Su:=nX Su (by rw[ari];exact(aD (fun _=>(show oO 141 5=a6 (cA (cA (cB (cA (cB (cB (cB (Su))))))),cB (cA (cB (cA (cB (cB (cB (Su)))))))) by kernel_rfl)) aN)) (by rw[ap9];exact aN)
theorem aay:dL S9 207 LU:=zL [Me] (aD (fM (Yl)) aN)
theorem aen:eP S9:=eB (aD af0 (aD af1 aN)) [141,207] (aD ⟨f141,Su,by kernel_rfl,by kernel_rfl,aqj⟩ (aD ⟨f207,LU,by kernel_rfl,by kernel_rfl,aay⟩ aN))
theorem afV:dO prog 141 arG:=sA aen
def aop (d:Int):Option (bH×Unit):=cond (bC d 10) (a6 ([62,124],()))<|cond (bC d 11) (a6 ([60],()))<|cond (bC d 12) (a6 ([62],()))<|cond (bC d 13) (a6 ([38],()))<|cond (bC d 14) (a6 ([59],()))<|cond (bC d 15) (a6 ([124],()))<|cond (bC d 16) (a6 ([40],()))<|cond (bC d 17) (a6 ([41],()))<|some ([],())
def arR:Sum:=⟨[bW],[(.str,false)],fun x=>aop x.1⟩
theorem agc:dO prog 208 arR:=qA f208 [] aN
def abQ (d:Int):Option (bH×Unit):=cond (bC d 1) (a6 ([38,38],()))<|cond (bC d 2) (a6 ([124,124],()))<|cond (bC d 3) (a6 ([59,59],()))<|cond (bC d 4) (a6 ([60,60],()))<|cond (bC d 5) (a6 ([60,60,45],()))<|cond (bC d 6) (a6 ([62,62],()))<|cond (bC d 7) (a6 ([60,38],()))<|cond (bC d 8) (a6 ([62,38],()))<|cond (bC d 9) (a6 ([60,62],()))<|aZ (aop d) fun e=>a6 (e.1,())
def akS:Sum:=⟨[bW],[(.str,false)],fun x=>abQ x.1⟩
theorem af2:dO prog 169 akS:=qA Tryz.f169 [] (sE agc aN)
noncomputable def asq:Code:=(f142.body).getD .skip
noncomputable def ag0:Code:=cA (cA (cB (cA (cB (cB (asq))))))
def aiQ:dW:=⟨[0,3,100004],[],[],[],[2],[]⟩
def UB:SP:=⟨us [bL,.u,.u,bX] 11,[]⟩
def UV:SP:=⟨us [] 15,[]⟩
def Vf:SP:=⟨us dj 12,[]⟩
def G6 {d:Type} (g:bH->Int->Option d) (h:Option d) (i:Int->Option d) (f:bH) (e:Int):Option d:=cond (leI e 17) (aZ (abQ e) fun j=>cond (iG j.1 f) (i e)<|g f (bV .i64 e 1)) h
def yR:Nat->bH->Int->Option (UV.den⊕Vf.den)
 |0,_,_=>a7
 |n+1,d,e=>G6 (yR n) (a6 (.inl ((),()))) (fun f=>a6 (.inr ((f,()),()))) d e
def am0 (n:Nat) (v:UB.den):=yR n v.1.1 v.1.2.1
noncomputable def acx:dA:=jb aiQ UB UV Vf (.exit 0) (am0 bD) 6
def Jp (d:bH):Option EO:=cond (iG d []) (a6 (0,()))<|aZ (yR bD d 1) fun e=>dB e (fun g=>a6 (0,())) (fun f=>a6 (f.1.1,()))
def akO:Sum:=⟨[.str],tzD,fun x=>Jp x.1⟩
noncomputable def ZP:Env:=oC prog tt 142 [(169,akS)] [(4,aiQ)] [(4,acx)]
def adg {d:Type} (a:UB.den->Option d) (b:UV.den->Option d) (c:Vf.den->Option d) (v:UB.den):Option d:=G6 (aL a) (b ((),())) (aE c) v.1.1 v.1.2.1
theorem anr:dU ZP 142 ag0 acx:=lpS (adg) (h2:=by intros;simp only[adg,aL,aE,G6,di,dm,aY,bZ,dn])
theorem aqk:dL ZP 142 asq:=zL [ag0] (aD (fM (anr)) aN)
theorem aeo:eP ZP:=eA f142 (aD af2 aN) (aqk)
theorem I4:dO prog 142 akO:=sA aeo
noncomputable def asn:Code:=(f135.body).getD .skip
noncomputable def agX:Code:=cA (cA (cA (cB (cB (cB (cA (cB (asn))))))))
def aiN:dW:=⟨[0,1,4,5,100004],[],[4,5],[],[4,5],[]⟩
def Uy:SP:=⟨us [bL,bX,.u,.u,bX,bX] 35,[]⟩
def UR:SP:=⟨us [.u,.u,.u,.u,bX,bX] 35,[]⟩
def Vb:SP:=⟨us [.u,.u,.u,.u,bX,bX] 35,[]⟩
def KY {f:Type} (j:bH->Int->Int->Int->Option f) (i o:Int->Int->Option f) (g:bH) (e l d:Int):Option f:=cond (gY 0 d) (cond (gy (bi g) e (bV .i64 e d)) (aZ (Jp (sub g e (bV .i64 e d))) fun h=>cond (!(bC h.1 0)) (i h.1 d)<|j g e h.1 (eY .i64 d 1)) a7)<|i l d
def Gj:Nat->bH->Int->Int->Int->Option (UR.den⊕Vb.den)
 |0,_,_,_,_=>a7
 |n+1,d,e,f,g=>KY (Gj n) (fun h i=>a6 (.inl ((h,i,()),()))) (fun j l=>a6 (.inr ((j,l,()),()))) d e f g
def amX (n:Nat) (v:Uy.den):=Gj n v.1.1 v.1.2.1 v.1.2.2.1 v.1.2.2.2.1
noncomputable def acu:dA:=jb aiN Uy UR Vb (.exit 0) (amX bD) 6
def abI (e:bH) (d:Int):Option mi:=cond (gY d 0) (a6 (0,(0,())))<|cond (leI (bi e) d) (a6 (0,(0,())))<|cond (gm e d) (aZ (Nh (bU e d)) fun h=>cond (!(bC h.1 3)) (a6 (0,(0,())))<|aZ (Gj bD e d 0 (Ej 3 (eY .i64 (bi e) d))) fun i=>dB i (fun f=>a6 (f.1.1,(f.1.2.1,()))) (fun g=>a6 (g.1.1,(g.1.2.1,())))) a7
def arC:Sum:=⟨[.str,bW],[(.int .i64,false),(.int .i64,false)],fun x=>abI x.1 x.2.1⟩
noncomputable def ZM:Env:=oC prog tt 135 [(44,adV),(142,akO)] [(4,aiN)] [(4,acu)]
def adc {d:Type} (a:Uy.den->Option d) (b:UR.den->Option d) (c:Vb.den->Option d) (v:Uy.den):Option d:=KY (fun e f g h=>a ((e,f,g,h,()),())) (aL b) (aL c) v.1.1 v.1.2.1 v.1.2.2.1 v.1.2.2.2.1
theorem ano:dU ZM 135 agX acu:=lpS (adc) (h2:=by intros;simp only[adc,aL,KY,di,dm,aY,bZ,dn])
theorem aqg:dL ZM 135 asn:=zL [agX] (aD (fM (ano)) aN)
theorem aek:eP ZM:=eA f135 (aD rH (aD I4 aN)) (aqg)
theorem afR:dO prog 135 arC:=sA aek
def aig (e d:bH):Option o8:=cond (leI (bi d) (bi e)) (cond (gy (bi e) 0 (bi d)) (a6 ((iG (sub e 0 (bi d)) d),())) a7)<|some (false,())
def arP:Sum:=⟨[.str,.str],Wl,fun x=>aig x.1 x.2.1⟩
theorem af8:dO prog 199 arP:=qA f199 [] aN
def abL (d e:bH):Option o8:=aZ (aig d e) fun f=>a6 (f.1,())
def arL:Sum:=⟨[.str,.str],Wl,fun x=>abL x.1 x.2.1⟩
theorem afY:dO prog 162 arL:=qA f162 [] (sE af8 aN)
def Xb (d:bH) (e:Int):Option o8:=cond (gy (bi d) e (bi d)) (aZ (abL (sub d e (bi d)) [92,10]) fun f=>a6 (f.1,())) a7
def akM:Sum:=⟨[.str,bW],Wl,fun x=>Xb x.1 x.2.1⟩
theorem Rz:dO prog 136 akM:=qA f136 [] (sE afY aN)
noncomputable def aso:Code:=(f137.body).getD .skip
noncomputable def agY:Code:=cA (cA (cA (cB (aso))))
def aiO:dW:=⟨[0,1,100001],[],[1],[],[4],[]⟩
def Uz:SP:=⟨us [bL,bX] 23,[]⟩
def UT:SP:=⟨us [.u,bX] 23,[]⟩
def Vd:SP:=⟨us [.u,.u,.u,.u,bX] 20,[]⟩
def KZ {f:Type} (g:bH->Int->Option f) (h i:Int->Option f) (e:bH) (d:Int):Option f:=cond (gY d (bi e)) (cond (gm e d) (aZ (Nh (bU e d)) fun j=>cond (bC j.1 1) (g e (bV .i64 d 1))<|aZ (Xb e d) fun l=>cond l.1 (g e (bV .i64 d 2))<|i d) a7)<|h d
def Gl:Nat->bH->Int->Option (UT.den⊕Vd.den)
 |0,_,_=>a7
 |n+1,d,e=>KZ (Gl n) (fun f=>a6 (.inl ((f,()),()))) (fun g=>a6 (.inr ((g,()),()))) d e
def amY (n:Nat) (v:Uz.den):=Gl n v.1.1 v.1.2.1
noncomputable def acv:dA:=jb aiO Uz UT Vd (.exit 0) (amY bD) 6
def Xc (d:bH) (e:Int):Option EO:=aZ (Gl bD d e) fun f=>dB f (fun g=>a6 (g.1.1,())) (fun h=>a6 (h.1.1,()))
def arD:Sum:=⟨[.str,bW],tzD,fun x=>Xc x.1 x.2.1⟩
noncomputable def ZN:Env:=oC prog tt 137 [(44,adV),(136,akM)] [(1,aiO)] [(1,acv)]
def ade {d:Type} (a:Uz.den->Option d) (b:UT.den->Option d) (c:Vd.den->Option d) (v:Uz.den):Option d:=KZ (aL a) (aE b) (aE c) v.1.1 v.1.2.1
theorem anp:dU ZN 137 agY acv:=lpS (ade) (h2:=by intros;simp only[ade,aL,aE,KZ,di,dm,aY,bZ,dn])
theorem aqh:dL ZN 137 aso:=zL [agY] (aD (fM (anp)) aN)
theorem ael:eP ZN:=eA f137 (aD rH (aD Rz aN)) (aqh)
theorem afS:dO prog 137 arD:=sA ael
def abR (d:bH) (e:Int):Option EO:=a6 ((ibW d e),())
def arM:Sum:=⟨[.str,.int .u8],tzD,fun x=>abR x.1 x.2.1⟩
theorem af4:dO prog 172 arM:=qA f172 [] (sE (Zd func216 (by kernel_rfl) (by kernel_rfl) (by kernel_rfl) (by kernel_rfl)) aN)
def Xg (d:bH) (e:Int):Option EO:=aZ (abR d e) fun f=>a6 (f.1,())
def arI:Sum:=⟨[.str,.int .u8],tzD,fun x=>Xg x.1 x.2.1⟩
theorem RF:dO prog 144 arI:=qA f144 [] (sE af4 aN)
def Xd (d:bH) (e:Int):Option (Int×Bool×Unit):=cond (gy (bi d) e (bi d)) (aZ (Xg (sub d e (bi d)) 10) fun f=>cond (leI 0 f.1) (a6 ((bV .i64 e f.1),(true,())))<|some ((bi d),(false,()))) a7
def akN:Sum:=⟨[.str,bW],[(.int .i64,false),(.bool,false)],fun x=>Xd x.1 x.2.1⟩
theorem RD:dO prog 138 akN:=qA Tryz.f138 [] (sE RF aN)
def Xe (f:bH) (d:Int):Option EO:=aZ (Af f d) fun e=>cond (gY d (bV .i64 d e.1)) (cond (gY (bV .i64 d e.1) (bi f)) (cond (gm f (bV .i64 d e.1)) (cond (bC (bU f (bV .i64 d e.1)) 60) (a6 ((bV .i64 d e.1),()))<|cond (gm f (bV .i64 d e.1)) (cond (bC (bU f (bV .i64 d e.1)) 62) (a6 ((bV .i64 d e.1),()))<|some (d,())) a7) a7)<|some (d,()))<|some (d,())
def arE:Sum:=⟨[.str,bW],tzD,fun x=>Xe x.1 x.2.1⟩
theorem afT:dO prog 139 arE:=qA f139 [] (sE Rx aN)
def Tt (e:bH) (d:Int) (h:mi):Option (yc×Unit):=cond (gm e d) (cond (bC (bU e d) 10) (a6 ((2,(d,((bV .i64 d 1),(false,())))),()))<|cond (gm e d) (cond (bC (bU e d) 35) (aZ (Xd e d) fun g=>a6 ((3,(d,(g.1,(false,())))),()))<|cond (gY 0 h.2.1) (a6 ((4,(d,((bV .i64 d h.2.1),(false,())))),()))<|aZ (Xe e d) fun g=>cond (gY d g.1) (aZ (Xe e d) fun f=>a6 ((5,(d,(f.1,(false,())))),()))<|aZ (Xf e d) fun f=>cond (gy (bi e) d f.1) (aZ (abJ (sub e d f.1)) fun i=>a6 ((6,(d,(f.1,((!(iG i.1 [])),())))),())) a7) a7) a7
def abE (e:bH) (d:Int):Option (yc×Unit):=aZ (abI e d) fun g=>cond (gm e d) (aZ (Nh (bU e d)) fun h=>cond (bC h.1 1) (cond (bC h.1 1) (aZ (Xc e d) fun f=>a6 ((1,(d,(f.1,(false,())))),()))<|Tt e d g)<|aZ (Xb e d) fun f=>cond f.1 (aZ (Xc e d) fun i=>a6 ((1,(d,(i.1,(false,())))),()))<|Tt e d g) a7
def ary:Sum:=⟨[.str,bW],[(.pair bW (.pair bW (.pair bW (.pair .bool .unit))),false)],fun x=>abE x.1 x.2.1⟩
theorem afN:dO prog 100 ary:=qA f100 [] (sE afR (sE rH (sE Rz (sE afS (sE RD (sE afT (sE afU (sE afV aN))))))))
noncomputable def asr:Code:=(Tryz.f195.body).getD .skip
noncomputable def ag2:Code:=cA (cA (cA (cB (asr))))
def aiS:dW:=⟨[0,1,100001],[],[0],[],[4],[]⟩
def UE:SP:=⟨us [bL,cV] 15,[]⟩
def UZ:SP:=⟨us [bL] 16,[]⟩
def Vk:SP:=⟨us [.u,.u,.u,.u,bL] 12,[]⟩
def Ld {e:Type} (h:bH->Int->Option e) (f i:bH->Option e) (d:bH) (g:Int):Option e:=cond (gY 0 (bi d)) (cond (gm d 0) (cond (bC (bU d 0) g) (cond (gy (bi d) 1 (bi d)) (h (sub d 1 (bi d)) g) a7)<|f d) a7)<|f d
def Gq:Nat->bH->Int->Option (UZ.den⊕Vk.den)
 |0,_,_=>a7
 |n+1,d,e=>Ld (Gq n) (fun f=>a6 (.inl ((f,()),()))) (fun g=>a6 (.inr ((g,()),()))) d e
def am3 (n:Nat) (v:UE.den):=Gq n v.1.1 v.1.2.1
noncomputable def acz:dA:=jb aiS UE UZ Vk (.exit 0) (am3 bD) 6
def abV (d:bH) (e:Int):Option (bH×Unit):=aZ (Gq bD d e) fun f=>dB f (fun g=>a6 (g.1.1,())) (fun h=>a6 (h.1.1,()))
def akU:Sum:=⟨[.str,.int .u8],[(.str,false)],fun x=>abV x.1 x.2.1⟩
noncomputable def ZT:Env:=oC prog tt 195 [] [(1,aiS)] [(1,acz)]
def adk {d:Type} (a:UE.den->Option d) (b:UZ.den->Option d) (c:Vk.den->Option d) (v:UE.den):Option d:=Ld (aL a) (aE b) (aE c) v.1.1 v.1.2.1
theorem anv:dU ZT 195 ag2 acz:=lpS (adk) (h2:=by intros;simp only[adk,aL,aE,Ld,di,dm,aY,bZ,dn])
theorem aqo:dL ZT 195 asr:=zL [ag2] (aD (fM (anv)) aN)
theorem aeu:eP ZT:=eA Tryz.f195 aN (aqo)
theorem af7:dO prog 195 akU:=sA aeu
noncomputable def aph:Code:=(f133.body).getD .skip
noncomputable def agW:Code:=cA (cA (cA (cB (cA (cB (aph))))))
def aiM:dW:=⟨[0,1,5,100001],[],[1],[],[6,7],[]⟩
def amy:dW:=⟨[0,5,8,9,10],[],[],[],[],[]⟩
def Ux:SP:=⟨us [bL,bX,.u,.u,.u,.ptr 1000005 0] 33,[.box 1000005 149 [bL,ci]]⟩
def KN:SP:=⟨us [.u,bX] 37,[]⟩
def KO:SP:=⟨us [.u,.u,.u,.u,.u,.u,bX,ci] 31,[]⟩
def xW {g:Type} (d:(Int×Bool×Unit)) (e:bH) (h:Int) (f:bH) (i:Int->Bool->Option g) (j:bH->Int->bH->Bool->Option g) (l:Bool):Option g:=cond d.2.1 (cond (iG (sub e h d.1) f) (i (bV .i64 d.1 1) true)<|j e (bV .i64 d.1 1) f l)<|cond (iG (sub e h d.1) f) (i d.1 true)<|j e d.1 f l
def KX {l:Type} (i:bH->Int->bH->Bool->Option l) (p:Int->Option l) (j:Int->Bool->Option l) (e:bH) (f:Int) (g:bH) (h:Bool):Option l:=cond (gY f (bi e)) (aZ (Xd e f) fun d=>cond (gy (bi e) f d.1) (cond h (cond (iG (sub e f d.1) []) (xW d e f g j i h)<|cond (iG [9] []) (xW d e f g j i h)<|cond (bC (bi [9]) 1) (cond (gm [9] 0) (cond (gY (bU [9] 0) 128) (cond (gm [9] 0) (aZ (abV (sub e f d.1) (bU [9] 0)) fun o=>cond d.2.1 (cond (iG o.1 g) (j (bV .i64 d.1 1) true)<|i e (bV .i64 d.1 1) g h)<|cond (iG o.1 g) (j d.1 true)<|i e d.1 g h) a7) a7) a7) a7)<|xW d e f g j i h) a7)<|p f
def yQ:Nat->bH->Int->bH->Bool->Option (KN.den⊕KO.den)
 |0,_,_,_,_=>a7
 |n+1,d,e,f,g=>KX (yQ n) (fun h=>a6 (.inl ((h,()),()))) (fun i j=>a6 (.inr ((i,j,()),()))) d e f g
def amW (n:Nat) (v:Ux.den):=yQ n v.1.1 v.1.2.1 v.2.1.1 v.2.1.2.1
noncomputable def acs:dA:=jb aiM Ux KN KO (.exit 0) (amW bD) 6
def abH (f:bH) (g:Int) (d:bH×o8):Option (Int×Bool×Unit):=aZ (yQ bD f g d.1 d.2.1) fun h=>dB h (fun i=>a6 (i.1.1,(false,()))) (fun e=>a6 (e.1.1,(e.1.2.1,())))
def arB:Sum:=⟨[.str,bW,V8],[(.int .i64,false),(.bool,false)],fun x=>abH x.1 x.2.1 x.2.2.1⟩
noncomputable def ZL:Env:=fK prog tt [(138,akN),(195,akU)] [(133,1,aiM),(133,600005,amy)] [(133,1,acs)] []
def adb {d:Type} (a:Ux.den->Option d) (b:KN.den->Option d) (c:KO.den->Option d) (v:Ux.den):Option d:=KX (fun e f g h=>a ((e,f,()),((g,h,()),()))) (aE b) (aL c) v.1.1 v.1.2.1 v.2.1.1 v.2.1.2.1
theorem ann:dU ZL 133 agW acs:=lpS (adb) (h2:=by intros;simp only[adb,aE,aL,KX,di,dm,aY,bZ,dn,xW])
theorem aqf:dL ZL 133 aph:=zL [agW] (aD (fM (ann)) aN)
theorem aej:eP ZL:=eB (aD RD (aD af7 aN)) [133] (aD ⟨f133,aph,by kernel_rfl,by kernel_rfl,aqf⟩ aN)
theorem afQ:dO prog 133 arB:=sA aej
def aqU:SP:=⟨us [] 17,[]⟩
def aq6:SP:=⟨us [.u,.u,.u,.u,ci] 12,[]⟩
def abb {d:Type} (h:Int->bH->Int->Option d) (i:Option d) (j:Bool->Option d) (g:Int) (e:bH) (f:Int):Option d:=cond (gY f (bi e)) (cond (gm e f) (cond (bC (bU e f) g) (j true)<|h g e (bV .i64 f 1)) a7) i
def AA:Nat->Int->bH->Int->Option (aqU.den⊕aq6.den)
 |0,_,_,_=>a7
 |n+1,d,e,f=>abb (AA n) (a6 (.inl ((),()))) (fun g=>a6 (.inr ((g,()),()))) d e f
def Nl (d:Int) (e:bH):Option o8:=aZ (AA bD d e 0) fun f=>dB f (fun h=>a6 (false,())) (fun g=>a6 (g.1.1,()))
def ail (d:Int):Option EO:=cond (bC d 32) (a6 (1,()))<|cond (bC d 9) (a6 (1,()))<|cond (bC d 10) (a6 (2,()))<|aZ (Nl d [124,38,59,60,62,40,41]) fun e=>cond e.1 (a6 (3,()))<|aZ (Nl d [92,39,34,96,36]) fun f=>cond f.1 (a6 (4,()))<|aZ (Nl d [65,66,67,68,69,70,71,72,73,74,75,76,77,78,79,80,81,82,83,84,85,86,87,88,89,90,97,98,99,100,101,102,103,104,105,106,107,108,109,110,111,112,113,114,115,116,117,118,119,120,121,122,95]) fun g=>cond g.1 (a6 (5,()))<|aZ (Nl d [48,49,50,51,52,53,54,55,56,57]) fun h=>cond h.1 (a6 (6,()))<|some (0,())
def aqS:SP:=⟨us [] 31,[]⟩
def aq4:SP:=⟨us [.u,.u,ci] 28,[]⟩
def akB {f:Type} (g:bH->Int->Option f) (h:Option f) (i:Bool->Option f) (d:bH) (e:Int):Option f:=cond (gY e (bi d)) (cond (gm d e) (aZ (ail (bU d e)) fun j=>cond (!(bC j.1 5)) (cond (gm d e) (aZ (ail (bU d e)) fun l=>cond (!(bC l.1 6)) (i false)<|g d (bV .i64 e 1)) a7)<|g d (bV .i64 e 1)) a7) h
def NT:Nat->bH->Int->Option (aqS.den⊕aq4.den)
 |0,_,_=>a7
 |n+1,d,e=>akB (NT n) (a6 (.inl ((),()))) (fun f=>a6 (.inr ((f,()),()))) d e
def aii (d:bH):Option o8:=cond (bC (bi d) 0) (a6 (false,()))<|cond (gm d 0) (aZ (ail (bU d 0)) fun e=>cond (!(bC e.1 5)) (a6 (false,()))<|aZ (NT bD d 1) fun f=>dB f (fun h=>a6 (true,())) (fun g=>a6 (g.1.1,()))) a7
end
section
open Go.RowKit
def aqV:SP:=⟨us [.u,.u,.u,bL] 29,[]⟩
def aq7:SP:=⟨us [.u,.u,bL] 30,[]⟩
def arw {e:Type} (g f h:bH->Option e) (d:bH):Option e:=cond (gY 0 (bi d)) (cond (gm d (eY .i64 (bi d) 1)) (cond (bC (bU d (eY .i64 (bi d) 1)) 32) (cond (gy (bi d) 0 (eY .i64 (bi d) 1)) (g (sub d 0 (eY .i64 (bi d) 1))) none)<|f d) none)<|f d
def ajo:Nat->bH->Option (aqV.den⊕aq7.den)
 |0,_=>none
 |n+1,d=>arw (ajo n) (fun e=>some (.inl ((e,()),()))) (fun f=>some (.inr ((f,()),()))) d
def asN (d:Int):Option (bH×Unit):=cond (gY d 1) (some ([],()))<|cond (gY 17 d) (some ([],()))<|cond (gy (bi [38,38,32,124,124,32,59,59,32,60,60,32,60,60,45,62,62,32,60,38,32,62,38,32,60,62,32,62,124,32,60,32,32,62,32,32,38,32,32,59,32,32,124,32,32,40,32,32,41,32,32]) (afq .i64 3 (eY .i64 d 1)) (afq .i64 3 d)) (aZ (ajo bD (sub [38,38,32,124,124,32,59,59,32,60,60,32,60,60,45,62,62,32,60,38,32,62,38,32,60,62,32,62,124,32,60,32,32,62,32,32,38,32,32,59,32,32,124,32,32,40,32,32,41,32,32] (afq .i64 3 (eY .i64 d 1)) (afq .i64 3 d))) fun e=>dB e (fun f=>some (f.1.1,())) (fun g=>some (g.1.1,()))) none
end
section
open Option renaming some → a6, none → a7
open Bool renaming and_eq_true → af
open Nat renaming le_refl → ae, eq_of_beq_eq_true → ah, le_trans → az, le_mul_of_pos_right → aX
open Tryz
open Go.RowKit Go.Shelf Go.Lib
def NP:Go.Shelf.Ren:=⟨fun|155=>95|154=>126|138=>157|165=>158|143=>159|166=>90|197=>160|169=>94|195=>190|218=>191|240=>123|241=>192|219=>193|260=>194|276=>156|277=>235|217=>172|225=>236|224=>237|267=>238|266=>216|314=>264|n=>n,fun|9=>9|3=>3|4=>4|72=>128|0=>0|76=>131|105=>175|21=>21|5=>5|70=>126|20=>20|37=>74|75=>130|127=>150|164=>173|46=>96|119=>233|139=>236|138=>235|146=>246|51=>120|80=>134|n=>n,fun|1=>0|3=>1|4=>2|n=>n⟩
theorem NM:Go.Proofs.Lays.n155 prog NP:={
 mixed:=by kernel_rfl
 f138:=func157.trans (congrArg a6 (by kernel_rfl))
 f143:=func159.trans (congrArg a6 (by kernel_rfl))
 f154:=func126.trans (congrArg a6 (by kernel_rfl))
 f155:=func95.trans (congrArg a6 (by kernel_rfl))
 f165:=func158.trans (congrArg a6 (by kernel_rfl))
 f166:=func90.trans (congrArg a6 (by kernel_rfl))
 f169:=func94.trans (congrArg a6 (by kernel_rfl))
 f195:=func190.trans (congrArg a6 (by kernel_rfl))
 f197:=func160.trans (congrArg a6 (by kernel_rfl))
 f217:=func172.trans (congrArg a6 (by kernel_rfl))
 f218:=func191.trans (congrArg a6 (by kernel_rfl))
 f219:=func193.trans (congrArg a6 (by kernel_rfl))
 f224:=func237.trans (congrArg a6 (by kernel_rfl))
 f225:=func236.trans (congrArg a6 (by kernel_rfl))
 f240:=func123.trans (congrArg a6 (by kernel_rfl))
 f241:=func192.trans (congrArg a6 (by kernel_rfl))
 f260:=func194.trans (congrArg a6 (by kernel_rfl))
 f266:=func216.trans (congrArg a6 (by kernel_rfl))
 f267:=func238.trans (congrArg a6 (by kernel_rfl))
 f276:=func156.trans (congrArg a6 (by kernel_rfl))
 f277:=func235.trans (congrArg a6 (by kernel_rfl))
 f314:=func264.trans (congrArg a6 (by kernel_rfl))
 t0:=underlying0
 a0:=isAgg0
 z0:=sizeOf0
 v0:=zeroValue0
 t3:=underlying3
 a3:=isAgg3
 z3:=sizeOf3
 v3:=zeroValue3
 t4:=underlying4
 a4:=isAgg4
 z4:=sizeOf4
 v4:=zeroValue4
 t5:=underlying5
 a5:=isAgg5
 z5:=sizeOf5
 v5:=zeroValue5
 t9:=underlying9
 a9:=isAgg9
 z9:=sizeOf9
 v9:=zeroValue9
 t20:=underlying20
 a20:=isAgg20
 z20:=sizeOf20
 v20:=zeroValue20
 t21:=underlying21
 a21:=isAgg21
 z21:=sizeOf21
 v21:=zeroValue21
 t37:=underlying74
 a37:=isAgg74
 z37:=sizeOf74
 v37:=zeroValue74
 t46:=underlying96
 a46:=isAgg96
 z46:=sizeOf96
 v46:=zeroValue96
 t51:=underlying120
 a51:=isAgg120
 z51:=sizeOf120
 v51:=zeroValue120
 t70:=underlying126
 a70:=isAgg126
 z70:=sizeOf126
 v70:=zeroValue126
 t72:=underlying128
 a72:=isAgg128
 z72:=sizeOf128
 v72:=zeroValue128
 t75:=underlying130
 a75:=isAgg130
 z75:=sizeOf130
 v75:=zeroValue130
 t76:=underlying131
 a76:=isAgg131
 z76:=sizeOf131
 v76:=zeroValue131
 t105:=underlying175
 a105:=isAgg175
 z105:=sizeOf175
 v105:=zeroValue175
 t119:=underlying233
 a119:=isAgg233
 z119:=sizeOf233
 t127:=underlying150
 a127:=isAgg150
 z127:=sizeOf150
 v127:=zeroValue150
 t138:=underlying235
 a138:=isAgg235
 z138:=sizeOf235
 v138:=zeroValue235
 t139:=underlying236
 a139:=isAgg236
 z139:=sizeOf236
 v139:=zeroValue236
 t146:=underlying246
 a146:=isAgg246
 z146:=sizeOf246
 v146:=zeroValue246
 t164:=underlying173
 a164:=isAgg173
 z164:=sizeOf173
 v164:=zeroValue173
 g1:=by kernel_rfl
 g3:=by kernel_rfl
 g4:=by kernel_rfl}
theorem al8:Builder.Extra prog NP where
 sizeBuilder:=by kernel_rfl
 liesBuilder:=by kernel_rfl
 t5:=NM.t5
 a5:=NM.a5
 z5:=NM.z5
 v5:=NM.v5
 infoByte:=by kernel_rfl
 cellsByte:=by kernel_rfl
 sizeByte:=by kernel_rfl
 neB5:=by decide
def aka (s d new:List UInt8):Option (List UInt8×Unit):=cond (decide (s.length<4294967281)&&decide (1<=d.length)&&decide (s.length+s.length*new.length<=140737488355328)) (a6 (Lib.replaceAll s d new,())) a7
def alq:Sum:=⟨[.str,.str,.str],[(.str,false)],fun x=>aka x.1 x.2.1 x.2.2.1⟩
theorem alr:dO prog 95 alq:=by
 intro w i j x y h o p f;obtain⟨u,X,q,s,v,Y,z,A,B,D,E,G,I⟩:=p;obtain rfl:D=[]:=I;subst E z;have J:j= #[u,v,B]:=by
  apply Array.ext';simpa using q
 subst J;have K:=s.str_inv;have L:=A.str_inv;have M:=G.str_inv;subst K L M;have f:aka x.1 x.2.1 x.2.2.1=a6 y:=f;unfold aka at f;obtain⟨g,f⟩:=bK f;simp only[af,decide_eq_true_eq]at g;cases f;obtain⟨m,N⟩:=h.2;have d: ∀l:List UInt8,(⟨l.toArray⟩:ByteArray).size=l.length:=fun l=>by simp[ByteArray.size]
 have O:Lib.countB ⟨x.1.toArray⟩ ⟨x.2.1.toArray⟩<=x.1.length:=by
  have:=Lib.countB_mul_le (⟨x.2.1.toArray⟩:ByteArray) (by rw[d];exact g.1.2) (⟨x.1.toArray⟩:ByteArray).size ⟨x.1.toArray⟩ (ae _);rw[d,d]at this;exact az (aX _ (by omega)) this
 have S:=Any.strings_ReplaceAll NM al8 ⟨x.1.toArray⟩ ⟨x.2.1.toArray⟩ ⟨x.2.2.1.toArray⟩ m w (by rw[d];exact g.1.1) N (by rw[d];exact g.1.2)
  (by rw[d,d];have:=Nat.mul_le_mul_right x.2.2.1.length O;omega)
 refine .inl ⟨yA JS func95 (show f95.body=a6 ((f95.body).getD .skip) by kernel_rfl) _ _,S.mono fun e U ⟨V,W⟩=> ?_⟩;refine⟨(jF w i).at_ U,[.string ⟨(Lib.replaceAll x.1 x.2.1 x.2.2.1).toArray⟩],V,rfl,(L8 h o).ext W,rfl,rfl,rfl, ?_⟩;simp only[alq,mr,bg,bu,and_true];exact VD.str_mk
noncomputable def sg2 (g:FuncId):Option Sum:=cond (Nat.beq g 95) (a6 alq)<|sg1 g
theorem auT: ∀g s,sg2 g=a6 s->dO prog g s:=fun g s h=>by
 unfold sg2 at h;rw[cond_eq_ite]at h;split at h
 .rename_i d
  obtain rfl:g=95:=ah d;cases h;exact alr
 exact aa8 g s h
end
section
open Go.RowKit
theorem bQ {a b:Int} (d: -9223372036854775808<=a+b:=by omega) (h2:a+b<=9223372036854775807:=by omega):bV .i64 a b=a+b:=by
 unfold bV;rw[IntKind.wrap_i64];omega
theorem iq {a b:Int} (d: -9223372036854775808<=a-b:=by omega) (h2:a-b<=9223372036854775807:=by omega):eY .i64 a b=a-b:=by
 unfold eY;rw[IntKind.wrap_i64];omega
theorem amQ {a b:Int}:leI a b=true↔a<=b:=by simp[leI]
theorem ane {a b:Int}:gY a b=true↔a<b:=by simp[gY]
theorem al3 {a b:Int}:bC a b=true↔a=b:=by simp[bC]
theorem amr {d:Type} {l:List d} {i:Int}:gm l i=true↔0<=i/\i<l.length:=by simp[gm]
theorem anf {d:Type} {l:List d} {i:Nat}:mV i l=true↔i<l.length:=by simp[mV,Ky]
theorem afA {n lo hi:Int}:gy n lo hi=true↔0<=lo/\lo<=hi/\hi<=n:=by simp[gy]
theorem bJ {d:Type} {b:Bool} {x y:d} (h:b=true):(bif b then x else y)=x:=by rw[h];rfl
theorem dE {d:Type} {b:Bool} {x y:d} (h:b=false):(bif b then x else y)=y:=by rw[h];rfl
theorem qX {a b:Int} (h:a<=b:=by omega):leI a b=true:=amQ.2 h
theorem XW {a b:Int} (h:b<a):leI a b=false:=by simp[leI];omega
theorem eU {a b:Int} (h:a<b:=by omega):gY a b=true:=ane.2 h
theorem jc {a b:Int} (h:b<=a:=by omega):gY a b=false:=by simp[gY];omega
theorem Dw {a b:Int} (h: ¬a<=b:=by omega):leI a b=false:=XW (by omega)
theorem iy {a b:Int} (h: ¬a<b:=by omega):gY a b=false:=jc
theorem gB {a b:Int} (h:a=b):bC a b=true:=al3.2 h
theorem dV {a b:Int} (h:a≠b:=by omega):bC a b=false:=by simp[bC];exact h
theorem dQ {d:Type} {l:List d} {i:Int} (h:0<=i:=by omega) (h2:i<l.length:=by omega):gm l i=true:=amr.2 ⟨h,h2⟩
theorem oJ {d:Type} {l:List d} {i:Nat} (h:i<l.length):mV i l=true:=anf.2 h
theorem gZ {n lo hi:Int} (h:0<=lo) (d:lo<=hi) (h2:hi<=n):gy n lo hi=true:=afA.2 ⟨h,d,h2⟩
theorem bz {d:Type} {l:List d}:bi l=(l.length:Int):=rfl
theorem dC {n:Nat} (h:n<1000000000000000000000000:=by omega):n<bD:=by unfold bD;omega
end
section
open List renaming length_append → aj
open Go.RowKit
abbrev fZ:=List mJ
def lo (s:fZ):List mi:=(s.map fun f=>(f.1,f.2,())).reverse
def letter (m:Int):UInt8:=([84,67,80,79,83,68,66,86,73,65,82,69,76,88,35]:bH).getD m.toNat 0
def so (s:fZ):bH:=(s.map fun f=>letter f.1).reverse
theorem qh (f:mJ) (s:fZ):lo (f::s)=lo s++[(f.1,f.2,())]:=by simp[lo]
theorem mG (s:fZ):(lo s).length=s.length:=by simp[lo]
def Jm (b:Int):Bool:=decide (b=32)||decide (b=9)||decide (b=10)||decide (b=124)||decide (b=38)||decide (b=59)||decide (b=60)||decide (b=62)||decide (b=40)||decide (b=41)
def isByte (b:Int):Prop:=0<=b/\b<256
theorem WA {b:Int} (h:isByte b): ∃n:Fin 256,b=((n.val:Nat):Int):=⟨⟨b.toNat,by have:=h.2;have:=h.1;omega⟩,by have:=h.1;simp;omega⟩
theorem pJ (s:bH) (i:Int):isByte (bU s i):=by
 grind [bU,isByte,UInt8.toNat_lt]
theorem asA: ∀n:Fin 256,Dn ((n.val:Nat):Int)=some (Jm ((n.val:Nat):Int),()):=by decide+kernel
theorem ahl {b:Int} (h:isByte b):Dn b=some (Jm b,()):=by
 obtain⟨n,rfl⟩:=WA h;exact asA n
theorem QR {d:Type} {l:List d} (x:d) (h:l.length<1000000):bP (eY .i64 (bi (l++[x])) 1)=l.length:=by
 grind [bz,iq,bP]
theorem IX {d:Type} {l:List d} (x:d) (h:l.length<1000000):eY .i64 (bi (l++[x])) 1=l.length:=by
 grind [bz,iq]
theorem acX {s:fZ} (hb:s.length<1000000) (fr:Bool) (at_ m:Int):uq (lo s) fr at_ m=some ((lo ((m,at_)::s),(fr,(at_,()))),()):=by
 have h:dZ (bI (lo s) [(m,(at_,()))]) 16=true:=by
  simp only[dZ,bI,aj,mG,List.length_singleton,decide_eq_true_eq,mW];omega
 unfold uq;rw[h];simp[bC,bI,qh]
theorem KP {f g:Int×Int} {r:fZ} (hb:(f::g::r).length<1000000) (fr:Bool) (at_:Int):uo (lo (f::g::r)) fr at_=some ((lo (g::r),(fr,(at_,()))),()):=by
 have hl:(lo (g::r)).length=r.length+1:=by rw[mG];rfl
 have d:r.length+2<1000000:=by simpa using hb
 unfold uo;rw[qh f,IX _ (by omega),bJ (eU (by grind [bz])),bJ (gZ (by omega) (by omega) (by rw[bz];simp;omega))];simp[takeN,bP]
theorem pM {f:Int×Int} {r:fZ} (hb:(f::r).length<1000000) (fr:Bool) (at_ m:Int):rX (lo (f::r)) fr at_ m=some ((lo ((m,f.2)::r),(fr,(at_,()))),()):=by
 have hl:(lo r).length=r.length:=mG r;have d:r.length+1<1000000:=by simpa using hb
 unfold rX;rw[qh f,IX _ (by omega),bJ (dQ (by omega) (by simp;omega)),bJ (oJ (by simp[bP]))];simp[bP,cO,gp,qh]
theorem YD {f g:Int×Int} {r:fZ} (hb:(f::g::r).length<1000000) (fr:Bool) (at_:Int):abZ (lo (f::g::r)) fr at_=some ((lo (f::g::r),(fr,(at_,()))),(g.1,())):=by
 have hl:(lo r).length=r.length:=mG r;have d:r.length+2<1000000:=by simpa using hb
 have e:yV (eY .i64 (bi (lo (f::g::r))) 2) 0=r.length:=by
  grind [bz,iq,mG,yV]
 unfold abZ;rw[e,qh f,qh g,bJ (dQ (by omega) (by simp[hl];omega)),bJ (oJ (by simp[bP,hl]))];simp_all [bP,cO]
theorem zZ {d:Type} {f:d->d->Bool} (h: ∀x,f x x=true): ∀l:List d,um f l l=true
 |[]=>rfl
 |x::l=>by simp[um,h,zZ h l]
theorem MP: ∀(t:Ty) (x:t.den),Tf t x x=true
 |.unit,_=>rfl
 |.bool,x=>by simp[Tf]
 |.int _,x=>by simp[Tf,bC]
 |.str,x=>by simp[Tf,iG]
 |.list t,x=>zZ (MP t) x
 |.pair a b,x=>by simp[Tf,MP]
theorem kY (t:Ty) (x:List t.den):Fz t x x=true:=zZ (MP t) x
theorem fB (x:Int):bC x x=true:=by simp[bC]
theorem qQ (x:bH):iG x x=true:=by simp[iG]
theorem qP (x:Bool):Pz x x=true:=by simp[Pz]
end
section
open Go.RowKit
def Ii (s:fZ) (b at_:Int):Option fZ:=if b=92 then some ((13,at_)::s)else if b=36 then some ((12,at_)::s)else if b=96 then some ((6,at_)::s)else none
def Ox (m:Int) (s:fZ) (fr:Bool) (b at_:Int):fZ×Bool:=if b=92 then((13,at_)::s,fr)else if b=35/\fr=true then((14,at_)::s,fr)else if b=40 then(if m=0 then s else(2,at_)::s,true)else if b=41 then(if m=0 then s else s.tail, !decide (m=1))else if b=39 then((4,at_)::s,false)else if b=34 then((5,at_)::s,false)else if b=36 then((12,at_)::s,false)else if b=96 then((6,at_)::s,false)else(s,Jm b)
def jA (m:Int) (s:fZ) (fr:Bool) (b at_:Int):fZ×Bool:=
 if m=0\/m=1\/m=2 then Ox m s fr b at_
 else if m=13 then(s.tail,fr&&decide (b=10))
 else if m=4 then(if b=39 then s.tail else s,fr)
 else if m=14 then(if b=10 then(s.tail,true)else(s,fr))
 else if m=6 then(if b=96 then s.tail else if b=92 then(13,at_)::s else s,fr)
 else match Ii s b at_ with
  |some d=>(d,fr)
  |none=>
   if m=9\/m=10 then(if b=40 then(10,at_)::s else if b=41 then(if m=10 then s.tail else(11,(s.headD (0,0)).2)::s.tail)else s,fr)
   else(if b=34 then(if m=5 then s.tail else(5,at_)::s)else if b=125/\m≠5 then s.tail else if b=39/\m=7 then(4,at_)::s else s,fr)
def fQ (s:fZ) (fr:Bool) (b at_:Int):fZ×Bool:=
 match s with
 |[]=>([],fr)
 |f::r=>
  if f.1=12 then
   (if b=40 then((3,f.2)::r,true)
   else if b=123 then((if(r.headD (0,0)).1=5\/(r.headD (0,0)).1=8 then 8 else 7,f.2)::r,fr)
   else if b=36 then(r,fr)
   else jA (r.headD (0,0)).1 r fr b at_)
  else if f.1=3 then(if b=40 then((9,f.2)::r,false)else jA 1 ((1,f.2)::r) fr b at_)
  else if f.1=11 then(if b=41 then(r,fr)else jA 9 ((9,f.2)::r) fr b at_)
  else jA f.1 (f::r) fr b at_
theorem qK (b:Int):b=10\/b=34\/b=35\/b=36\/b=39\/b=40\/b=41\/b=92\/b=96\/b=123\/b=125\/
  (b≠10/\b≠34/\b≠35/\b≠36/\b≠39/\b≠40/\b≠41/\b≠92/\b≠96/\b≠123/\b≠125):=by omega
theorem iD (a b:Int):bC a b=decide (a=b):=by
 rfl
def pst (x:fZ×Bool) (at_:Int):(List mi×Bool×Int×Unit):=(lo x.1,(x.2,(at_,())))
theorem aa3 {m:Int} {f:Int×Int} {r:fZ} (d:m=0\/((m=1\/m=2)/\ ∃g h,r=g::h)) (hb:(f::r).length<1000000) (fr:Bool) {b:Int} (i:isByte b) (at_:Int):
  Qz (lo (f::r)) fr at_ m b=some (pst (Ox m (f::r) fr b at_) at_,()):=by
 have e:=ahl i;rcases d with rfl|⟨rfl|rfl,g,r,rfl⟩<;>rcases qK b with rfl|rfl|rfl|rfl|rfl|rfl|rfl|rfl|rfl|rfl|rfl|⟨j,l,o,p,q,s,u,v,x,y,z⟩<;>cases fr<;>
  simp_all [Qz,Nc,Ox,pst,iD,acX,KP,Jm,aY,FV]
theorem anS {m:Int} {f:Int×Int} {r:fZ} (d:m=0\/((m=1\/m=2\/m=4\/m=5\/m=6\/m=7\/m=8\/m=9\/m=10\/m=13\/m=14)/\ ∃g h,r=g::h)) (hb:(f::r).length<1000000) (fr:Bool) {b:Int} (e:isByte b) (at_:Int):
  Jr (lo (f::r)) fr at_ m b=some (pst (jA m (f::r) fr b at_) at_,()):=by
 rcases d with rfl|⟨rfl|rfl|d,g,r,rfl⟩
 .simp[Jr,jA,iD,aa3 (.inl rfl) hb fr e at_,pst,aY,yG]
 .simp[Jr,jA,iD,aa3 (.inr ⟨.inl rfl,g,r,rfl⟩) hb fr e at_,pst,aY,yG]
 .simp[Jr,jA,iD,aa3 (.inr ⟨.inr rfl,g,r,rfl⟩) hb fr e at_,pst,aY,yG]
 .rcases d with rfl|rfl|rfl|rfl|rfl|rfl|rfl|rfl|rfl<;>rcases qK b with rfl|rfl|rfl|rfl|rfl|rfl|rfl|rfl|rfl|rfl|rfl|⟨i,j,l,o,p,q,s,u,v,x,y⟩<;>cases fr<;>
  simp_all [Jr,ab1,ab2,Nc,jA,Ii,pst,iD,acX,KP,pM,aY,yG,Tz,TA]
def Ub (m:Int):Prop:=m=0\/m=1\/m=2\/m=5\/m=6\/m=7\/m=8\/m=9\/m=10
def iI:fZ->Prop
 |[]=>False
 |[f]=>f.1=0
 |f::g::r=>1<=f.1/\f.1<=14/\Ub g.1/\iI (g::r)
theorem asP: ∃k,bD=k+2:=by
 simp_all [bD]
theorem Yj {l:List mi} {x:Int×Int×Unit} (h:l.length<1000000):cO (l++[x]) (0,(0,())) (bP (eY .i64 (bi (l++[x])) 1))=x:=by
 rw[QR x h];simp[cO]
theorem acd {d:Type} {l:List d} {x:d} (h:l.length<1000000):gm (l++[x]) (eY .i64 (bi (l++[x])) 1)=true:=by
 grind [IX,dQ]
theorem acK {d:Type} {l:List d} {x:d} (h:l.length<1000000):mV (bP (eY .i64 (bi (l++[x])) 1)) (l++[x])=true:=by
 simp_all [QR,oJ]
theorem vS {f:Int×Int} {r:fZ} (n:Nat) (d:f.1=0\/((f.1=1\/f.1=2\/f.1=4\/f.1=5\/f.1=6\/f.1=7\/f.1=8\/f.1=9\/f.1=10\/f.1=13\/f.1=14)/\ ∃g e,r=g::e)) (hb:(f::r).length<1000000) (fr:Bool) {b:Int} (h:isByte b) (at_:Int):
  tJ (n+1) b fr at_ (lo (f::r))=some (.inl ((),((),()),(((jA f.1 (f::r) fr b at_).2,at_,()),lo (jA f.1 (f::r) fr b at_).1,()))):=by
 have hl:(lo r).length<1000000:=by grind [mG]
 have i:f.1≠12:=by omega
 have j:f.1≠3:=by omega
 have l:f.1≠11:=by omega
 have o:=anS d hb fr h at_;rw[tJ,xX];rw[show lo (f::r)=lo r++[(f.1,f.2,())] from qh f r,acd hl,acK hl,Yj hl];simp only[aa,iD,i,j,l,decide_false,ac];rw[<-qh,o,aY];rfl
theorem afi {f:Int×Int} {r:fZ} (d:iI (f::r)) (hl:Ub f.1):f.1=0\/((f.1=1\/f.1=2\/f.1=4\/f.1=5\/f.1=6\/f.1=7\/f.1=8\/f.1=9\/f.1=10\/f.1=13\/f.1=14)/\ ∃g e,r=g::e):=by
 cases r with
 |nil=>exact .inl d
 |cons g r=>
  unfold Ub at hl
  grind
theorem Z9 {s:fZ} (d:iI s) (hb:s.length<1000000) (fr:Bool) {b:Int} (j:isByte b) {at_:Int} (q:0<=at_) (l:at_<1000000000):Qy (lo s) fr at_ b=some (pst (fQ s fr b at_) (at_+1),()):=by
 obtain⟨k,hk⟩:=asP;cases s with
 |nil=>cases d
 |cons f r=>
 have hl:(lo r).length<1000000:=by grind [mG]
 have o:bC (bi (lo (f::r))) 0=false:=dV (by rw[bz,mG];simp;omega);have h:bV .i64 at_ 1=at_+1:=bQ;unfold Qy;rw[o,ac,hk];by_cases hp:f.1=12\/f.1=3\/f.1=11
 .cases r with
  |nil=>have:f.1=0:=d;omega
  |cons g r=>
  have u:=afi d.2.2.2 d.2.2.1;have v:(g::r).length<1000000:=by grind
  rw[show k+2=(k+1)+1 from rfl,tJ,xX,show lo (f::g::r)=lo (g::r)++[(f.1,f.2,())] from qh f _,acd hl,acK hl,Yj hl,<-qh];rcases hp with e|e|e
  .have hd:Jq (lo (f::g::r)) fr at_ b=some ((if b=40 then(lo ((3,f.2)::g::r),(true,(at_,())))else if b=123 then(lo ((if g.1=5\/g.1=8 then 8 else 7,f.2)::g::r),(fr,(at_,())))else(lo (g::r),(fr,(at_,())))),(decide (b=40\/b=123\/b=36),())):=by
    by_cases e1:b=40
    .subst e1;simp[Jq,iD,pM hb,aY]
    .by_cases e2:b=123
     .subst e2;by_cases e5:g.1=5
      .simp[Jq,iD,pM hb,YD hb,aY,e5]
      .by_cases e8:g.1=8<;>simp[Jq,iD,pM hb,YD hb,aY,e5,e8]
     .by_cases e3:b=36<;>simp[Jq,iD,KP hb,aY,e1,e2,e3]
   simp only[aa,iD,e,decide_true];rw[hd,aY];by_cases e1:b=40\/b=123\/b=36
   .simp only[e1,decide_true,aa,aY,dB,h];rcases e1 with rfl|rfl|rfl<;>simp[fQ,e,pst,h]
   .have i:b≠40/\b≠123/\b≠36:=by omega
    simp only[i.1,i.2.1,i.2.2,or_self,decide_false,ac,if_false];simp_all [vS,aY,dB,fQ,pst]
  .simp only[aa,iD,e,decide_true,show decide ((3:Int)=12)=false from rfl,ac];by_cases e1:b=40
   .simp_all [pM,aY,dB,fQ,pst]
   .simp only[e1,decide_false,ac,pM hb,aY];rw[vS k (f:=(1,f.2)) (.inr ⟨.inl rfl,g,r,rfl⟩) (by simpa using hb) fr j at_,aY];simp[dB,fQ,e,e1,pst,h]
  .simp only[aa,iD,e,decide_true,show decide ((11:Int)=12)=false from rfl,show decide ((11:Int)=3)=false from rfl,ac];by_cases e1:b=41
   .simp_all [KP,aY,dB,fQ,pst]
   .simp only[e1,decide_false,ac,pM hb,aY];rw[vS k (f:=(9,f.2)) (.inr ⟨by simp,g,r,rfl⟩) (by simpa using hb) fr j at_,aY];simp[dB,fQ,e,e1,pst,h]
 .have x:f.1=0\/((f.1=1\/f.1=2\/f.1=4\/f.1=5\/f.1=6\/f.1=7\/f.1=8\/f.1=9\/f.1=10\/f.1=13\/f.1=14)/\ ∃g p,r=g::p):=by
   cases r with
   |nil=>exact .inl d
   |cons g r=>have l:=d.1;have y:=d.2.1;grind
  simp_all [vS,aY,dB,fQ,pst]
end
section
open Go.RowKit
end
section
open Go.RowKit
theorem aeX {f:Int×Int} {r:fZ} (h:iI (f::r)):0<=f.1/\f.1<=14:=by
 cases r with
 |nil=>have:f.1=0:=h;omega
 |cons g r=>have:=h.1;have:=h.2.1;omega
theorem aeY {s:fZ} (d:iI s) (hl: ∃f r,s=f::r/\Ub f.1) {m at_:Int} (e:1<=m) (h2:m<=14):iI ((m,at_)::s):=by
 obtain⟨f,r,rfl,g⟩:=hl;exact⟨e,h2,g,d⟩
theorem Ak {f:Int×Int} {r:fZ} (d:iI (f::r)) (hr:r≠[]) {m at_:Int} (e:1<=m) (h2:m<=14):iI ((m,at_)::r):=by
 cases r with
 |nil=>exact absurd rfl hr
 |cons g r=>exact⟨e,h2,d.2.2.1,d.2.2.2⟩
theorem BU {f:Int×Int} {r:fZ} (d:iI (f::r)) (hr:r≠[]):iI r:=by
 cases r with
 |nil=>exact absurd rfl hr
 |cons g r=>exact d.2.2.2
theorem lV {f:Int×Int} {r:fZ} (d:iI (f::r)) (h:f.1≠0):r≠[]:=by
 rintro rfl;exact h d
theorem yH {m:Int} {f:Int×Int} {r:fZ} (hf:f.1=m) (d:iI (f::r)) (l:m≠12/\m≠3/\m≠11) (fr:Bool) (b at_:Int):
  iI (jA m (f::r) fr b at_).1/\(jA m (f::r) fr b at_).1.length<=(f::r).length+1:=by
 obtain⟨o,g1⟩:=aeX d;have hr:f.1≠0->r≠[]:=lV d;have j:m=0\/m=1\/m=2\/m=4\/m=5\/m=6\/m=7\/m=8\/m=9\/m=10\/m=13\/m=14:=by omega
 have push: ∀k,Ub f.1->1<=k->k<=14->iI ((k,at_)::f::r):=fun k hl g i=>aeY d ⟨f,r,rfl,hl⟩ g i;have p:m=0\/m=1\/m=2\/m=5\/m=6\/m=7\/m=8\/m=9\/m=10->Ub f.1:=fun h=>by simp_all [Ub]
 have q:m≠0->iI r:=fun h=>BU d (hr (by rw[hf];exact h));have st: ∀k,m≠0->1<=k->k<=14->iI ((k,f.2)::r):=fun k h g i=>Ak d (hr (by rw[hf];exact h)) g i;rcases j with e|e|e|e|e|e|e|e|e|e|e|e<;>subst e<;>rcases qK b with rfl|rfl|rfl|rfl|rfl|rfl|rfl|rfl|rfl|rfl|rfl|⟨g,i,s,u,v,x,y,z,A,B,D⟩<;>cases fr<;>
  simp_all [jA,Ox,Ii]<;>first|omega|(refine⟨?_,by omega⟩;assumption)
end
section
open List renaming drop_eq_getElem_cons → aF, drop_of_length_le → aU, eq_nil_of_length_eq_zero → aW
open Go.RowKit
theorem good_step {s:fZ} (d:iI s) (fr:Bool) (b at_:Int):iI (fQ s fr b at_).1/\(fQ s fr b at_).1.length<=s.length+1:=by
 cases s with
 |nil=>cases d
 |cons f r=>
 simp only[fQ];split
 .rename_i e
  have hr:r≠[]:=lV d (by omega);have p: ∀k,1<=k->k<=14->iI ((k,f.2)::r):=fun k i j=>Ak d hr i j;have l:=BU d hr;split
  .simp_all
  .split
   .grind
   .split
    .grind
    .cases r with
     |nil=>exact absurd rfl hr
     |cons g r=>
      have o:=d.2.2.1;have h:=yH rfl l (by unfold Ub at o;omega) fr b at_
      grind
 .split
  .rename_i e
   have hr:r≠[]:=lV d (by omega);split
   .grind [Ak]
   .have h:=yH (f:=(1,f.2)) rfl (Ak d hr (by omega) (by omega)) (by omega) fr b at_
    assumption
  .split
   .rename_i e
    have hr:r≠[]:=lV d (by omega);split
    .grind [BU]
    .have h:=yH (f:=(9,f.2)) rfl (Ak d hr (by omega) (by omega)) (by omega) fr b at_
     assumption
   .exact yH rfl d (by omega) fr b at_
def md (s:fZ):List Int:=s.map (·.1)
theorem Gy (m:Int) {s d:fZ} (h:md s=md d) (fr:Bool) (b a e:Int):md (jA m s fr b a).1=md (jA m d fr b e).1/\(jA m s fr b a).2=(jA m d fr b e).2:=by
 have f:md s.tail=md d.tail:=by
  have:=congrArg List.tail h;simpa [md] using this
 have g:m=0\/m=1\/m=2\/m=4\/m=5\/m=6\/m=7\/m=9\/m=10\/m=13\/m=14\/(m≠0/\m≠1/\m≠2/\m≠4/\m≠5/\m≠6/\m≠7/\m≠9/\m≠10/\m≠13/\m≠14):=by omega
 have i: ∀k (p q:Int),md ((k,p)::s)=md ((k,q)::d):=fun k p q=>by simp_all [md]
 have hd: ∀k (p q:Int),md ((k,p)::s.tail)=md ((k,q)::d.tail):=fun k p q=>by simp_all [md]
 rcases g with rfl|rfl|rfl|rfl|rfl|rfl|rfl|rfl|rfl|rfl|rfl|⟨j,l,o,u,v,x,y,z,A,B,D⟩<;>rcases qK b with rfl|rfl|rfl|rfl|rfl|rfl|rfl|rfl|rfl|rfl|rfl|⟨E,G,I,J,K,L,M,N,O,S,U⟩<;>cases fr<;>
  simp_all [jA,Ox,Ii]<;>first|exact h|exact f|exact i _ _ _|exact hd _ _ _
theorem ang {s d:fZ} (h:md s=md d) (fr:Bool) (b a i:Int):md (fQ s fr b a).1=md (fQ d fr b i).1/\(fQ s fr b a).2=(fQ d fr b i).2:=by
 cases s with
 |nil=>cases d with
  |nil=>exact⟨rfl,rfl⟩
  |cons _ _=>simp[md]at h
 |cons f r=>cases d with
  |nil=>simp[md]at h
  |cons f' e=>
   have j:f.1=f'.1:=by simp_all [md]
   have g:md r=md e:=by simp_all [md]
   have l:(r.headD (0,0)).1=(e.headD (0,0)).1:=by
    cases r<;>cases e<;>simp[md]at g ⊢;exact g.1
   have o: ∀k (p q:Int),md ((k,p)::r)=md ((k,q)::e):=fun k p q=>by simp_all [md]
   simp only[fQ,<-j,<-l];split
   .split
    .grind
    .split
     .grind
     .split
      .exact⟨g,rfl⟩
      grind [Gy]
   .split
    .split
     .grind
     grind [Gy]
    .split
     .split
      .exact⟨g,rfl⟩
      grind [Gy]
     grind [Gy]
def jD (b:UInt8):Int:=(b.toNat:Int)
def uD:bH->Int->fZ×Bool->fZ×Bool
 |[],_,x=>x
 |b::l,a,x=>uD l (a+1) (fQ x.1 x.2 (jD b) a)
def fH:fZ×Bool:=([(0,0)],true)
theorem nN:iI fH.1:=rfl
theorem drop_at {s:List UInt8} {i:Int} (d:0<=i) (h:i<s.length): ∃b,s.drop i.toNat=b::s.drop (i+1).toNat/\bU s i=jD b:=by
 have e:i.toNat<s.length:=by omega
 refine⟨s[i.toNat], ?_, ?_⟩
 .grind [aF]
 simp_all [bU,jD]
theorem WN {s:List UInt8} {i:Int} (h:s.length<=i):s.drop i.toNat=[]:=aU (by omega)
theorem aoE (s:bH) (j:s.length<=100000): ∀(N:Nat) (i:Int) (x:fZ×Bool),(s.length:Int)-i<N->0<=i->i<=s.length->iI x.1->(x.1.length:Int)<=i+1->
  Gn N s (bi s) i x.2 i (lo x.1)=some (.inl ((),(((uD (s.drop i.toNat) i x).2,(s.length:Int),()),lo (uD (s.drop i.toNat) i x).1,())))
 |0,i,x,h,_,_,_,_=>by omega
 |N+1,i,x,h,d,o,f,hl=>by
  rw[Gn,Lc];by_cases e:i<s.length
  .obtain⟨b,hd,l⟩:=drop_at d e;rw[bJ (eU (b:=bi s) e),bJ (dQ d e),Z9 f (by omega) x.2 (pJ s i) d (by omega),aY,hd,uD,<-l];simp only[pst];rw[bQ];have g:=good_step f x.2 (bU s i) i;exact aoE s j N (i+1) (fQ x.1 x.2 (bU s i) i) (by omega) (by omega) (by omega) g.1 (by have:=g.2;omega)
  .have p:i=s.length:=by omega
   simp_all [jc,bz,uD]
theorem Nw: ∀(l:bH) (a:Int) (x:fZ×Bool),iI x.1->iI (uD l a x).1/\(uD l a x).1.length<=x.1.length+l.length
 |[],a,x,h=>⟨h,by simp[uD]⟩
 |b::l,a,x,h=>by
  have d:=good_step h x.2 (jD b) a;have e:=Nw l (a+1) (fQ x.1 x.2 (jD b) a) d.1
  grind [uD]
theorem abq {n:Nat} (h:n<=1000000000):n<bD:=by unfold bD;omega
theorem asj (s:bH) (f:s.length<=100000):abN s=some (lo (uD s 0 fH).1,((uD s 0 fH).2,())):=by
 have h:=aoE s f bD 0 fH (by have:=abq (n:=s.length) (by omega);omega) (by omega) (by omega) nN (by simp[fH]);have d:=Nw s 0 fH nN;unfold abN;rw[show([(0,(0,()))]:List mi)=lo fH.1 from rfl,show(true:Bool)=fH.2 from rfl,h,aY];simp only[dB,Int.toNat_zero,List.drop_zero];have g:(lo (uD s 0 fH).1).length≠0:=by
  rw[mG];intro e;rw[aW e]at d;exact d.1
 rw[dE (dV (by rw[bz];omega))];have i:lT (lo (uD s 0 fH).1)=some (lo (uD s 0 fH).1,()):=by
  unfold lT pg;have:dZ (lo (uD s 0 fH).1) 16=true:=by
   have:=d.2;have j:fH.1.length=1:=rfl;simp only[dZ,mG,decide_eq_true_eq,mW];omega
  rw[this];rfl
 rw[i,aY];cases hf:(uD s 0 fH).2 with
 |true=>simp[Xj,aY]
 |false=>simp[Xj,aY,iD,bz,g]
end
section
open Bool renaming false_eq_true → ag
open List renaming length_cons → aH
open Nat renaming le_refl → ae
open Go.RowKit
def zF (s:fZ) (b:Int):Bool:=Jm b&&(match s with
 |[_]=>true
 |[f,_]=>decide (f.1=12)&& !decide (b=40)
 |_=>false)
def H5:bH->Int->fZ×Bool->Nat
 |[],_,_=>0
 |b::l,a,x=>if zF x.1 (jD b)then 0 else H5 l (a+1) (fQ x.1 x.2 (jD b) a)+1
theorem aby: ∀(l:bH) (a:Int) (x:fZ×Bool),H5 l a x<=l.length
 |[],_,_=>ae _
 |b::l,a,x=>by
  simp only[H5,aH];split
  .omega
  .have:=aby l (a+1) (fQ x.1 x.2 (jD b) a);omega
theorem ahk {s d:fZ} (h:md s=md d) (b:Int):zF s b=zF d b:=by
 match s,d with
 |[],[]=>rfl
 |[_],[_]=>rfl
 |[f,_],[e,_]=>simp_all [md,zF]
 |_::_::_::_,_::_::_::_=>rfl
 |[],_::_=>simp[md]at h
 |_::_,[]=>simp[md]at h
 |[_],_::_::_=>simp[md]at h
 |_::_::_,[_]=>simp[md]at h
 |[_,_],_::_::_::_=>simp[md]at h
 |_::_::_::_,[_,_]=>simp[md]at h
theorem abz: ∀(l:bH) (a d:Int) (x e:fZ×Bool),md x.1=md e.1->x.2=e.2->H5 l a x=H5 l d e
 |[],_,_,_,_,_,_=>rfl
 |b::l,a,d,x,e,f,h=>by
  have g:=ang f x.2 (jD b) a d;simp only[H5,ahk f,<-h];rw[abz l (a+1) (d+1) _ _ g.1 g.2]
theorem alX {s:fZ} (d:iI s) (hb:s.length<1000000) (fr:Bool) (at_:Int) {b:Int} (e:isByte b):abM (lo s) fr at_ b=some ((lo s,(fr,(at_,()))),(zF s b,())):=by
 unfold abM;rw[ahl e,aY];cases he:Jm b with
 |false=>simp[zF,he]
 |true=>
  match s with
  |[]=>cases d
  |[f]=>simp[zF,he,iD,bz,lo]
  |[f,g]=>
   have i:gm (lo [f,g]) 1=true:=dQ (by omega) (by simp[lo]);have j:mV (bP 1) (lo [f,g])=true:=oJ (by simp[lo,bP]);have l:cO (lo [f,g]) (0,(0,())) (bP 1)=(f.1,f.2,()):=by rfl
   have o:(lo [f,g]).length=2:=by simp[lo]
   simp only[iD,bz,i,j,l,o,aa]
   grind [zF]
  |f::g::h::r=>
   grind [mG,iD,bz,zF]
theorem ahj (s:bH) (j:s.length<=100000): ∀(N:Nat) (i a:Int) (x:fZ×Bool),(s.length:Int)-i<N->0<=i->i<=s.length->0<=a->a<=i->iI x.1->(x.1.length:Int)<=a+1->
  ∃o,Gm N s i x.2 a (lo x.1)=some o/\dB o (fun l=>some (l.1.1,())) (fun p=>some (p.1.1,()))=some (i+H5 (s.drop i.toNat) a x,())
 |0,i,a,x,h,_,_,_,_,_,_=>by omega
 |N+1,i,a,x,h,d,u,v,y,f,hl=>by
  rw[Gm,La];by_cases e:i<s.length
  .obtain⟨b,hd,q⟩:=drop_at d e;rw[bJ (eU (b:=bi s) e),bJ (dQ d e),alX f (by omega) x.2 a (pJ s i),aY,hd,H5,<-q];cases hw:zF x.1 (bU s i)with
   |true=>exact⟨_,rfl,by simp[dB]⟩
   |false=>
    simp only[ac,ag,if_false];rw[bJ (dQ d e),Z9 f (by omega) x.2 (pJ s i) (by omega) (by omega),aY];simp only[pst];rw[bQ];have g:=good_step f x.2 (bU s i) a;obtain⟨o,z,A⟩:=ahj s j N (i+1) (a+1) (fQ x.1 x.2 (bU s i) a) (by omega) (by omega) (by omega) (by omega) (by omega) g.1 (by have:=g.2;omega)
    grind
  .rw[dE (jc (b:=bi s) (by rw[bz];omega)),WN (by omega)];exact⟨_,rfl,by simp[dB,H5]⟩
theorem asf (s:bH) (e:s.length<=100000) {i:Int} (d:0<=i) (hi:i<=s.length):Xf s i=some (i+H5 (s.drop i.toNat) i fH,()):=by
 obtain⟨o,f,g⟩:=ahj s e bD i 0 fH (by have:=abq (n:=s.length) (by omega);omega) d hi (by omega) d nN (by simp[fH]);unfold Xf;rw[dE (jc d),dE (jc (a:=bi s) hi),show([(0,(0,()))]:List mi)=lo fH.1 from rfl,show(true:Bool)=fH.2 from rfl,f,aY,g,abz _ i 0 fH fH rfl rfl]
end
section
open Option renaming some → a6, none → a7
open Bool renaming and_eq_true → af, not_true → ax
open List renaming drop_eq_getElem_cons → aF, length_drop → aQ, drop_of_length_le → aU
open Go.RowKit
def Zq (c:UInt8):Bool:=(97<=c&&c<=122)||(65<=c&&c<=90)||c==95
def isD (c:UInt8):Bool:=48<=c&&c<=57
def TN (c:UInt8):Bool:=Zq c||isD c
def isP (c:UInt8):Bool:=c==64||c==42||c==35||c==63||c==45||c==36||c==33
def alS:Bool:=(List.range 256).all fun b=>match W9 (b:Int),Xa (b:Int),ail (b:Int)with
 |some (x,_),a6 (y,_),a6 (k,_)=>(x==Zq (UInt8.ofNat b))&&((y==isD (UInt8.ofNat b))&&((decide (k=5)==Zq (UInt8.ofNat b))&&(decide (k=6)==isD (UInt8.ofNat b))))
 |_,_,_=>false
theorem ahe:alS=true:=by kernel_rfl
theorem xn (c:UInt8):W9 (c.toNat:Int)=a6 (Zq c,())/\Xa (c.toNat:Int)=a6 (isD c,())/\ ∃k,ail (c.toNat:Int)=a6 (k,())/\bC k 5=Zq c/\bC k 6=isD c:=by
 have h:=List.all_eq_true.1 ahe c.toNat (List.mem_range.2 (by have:=c.toNat_lt;omega));have d:UInt8.ofNat c.toNat=c:=by simp
 rw[d]at h;split at h
 .rename_i x u y v k w e f g
  simp only[af,beq_iff_eq]at h
  grind [bC]
 .cases h
def atr:Bool:=(List.range 256).all fun b=>match Nl (b:Int) [64,42,35,63,45,36,33]with
 |some (x,_)=>(x==isP (UInt8.ofNat b))&&(isP (UInt8.ofNat b)==(bC (b:Int) 64||(bC (b:Int) 42||(bC (b:Int) 35||(bC (b:Int) 63||(bC (b:Int) 45||(bC (b:Int) 36||bC (b:Int) 33)))))))
 |_=>false
theorem aq0:atr=true:=by kernel_rfl
theorem aqZ (c:UInt8):Nl (c.toNat:Int) [64,42,35,63,45,36,33]=a6 (isP c,())/\isP c=(bC (c.toNat:Int) 64||(bC (c.toNat:Int) 42||(bC (c.toNat:Int) 35||(bC (c.toNat:Int) 63||(bC (c.toNat:Int) 45||(bC (c.toNat:Int) 36||bC (c.toNat:Int) 33)))))):=by
 have h:=List.all_eq_true.1 aq0 c.toNat (List.mem_range.2 (by have:=c.toNat_lt;omega));have d:UInt8.ofNat c.toNat=c:=by simp
 grind
theorem byte_at {s:List UInt8} {i:Nat} (h:i<s.length):bU s (i:Int)=(s[i].toNat:Int):=by
 simp_all [bU]
def runN (s:bH):Nat:=(s.takeWhile TN).length
def EK (s:bH):Nat:=(s.takeWhile Zq).length
def o5 (s:bH):Nat:=(s.takeWhile isD).length
theorem Hq (p:UInt8->Bool) (s:bH):(s.takeWhile p).length<=s.length:=by
 induction s with
 |nil=>simp
 |cons c v d=>grind [List.takeWhile_cons]
theorem Ho (p:UInt8->Bool): ∀(s:bH) (i:Nat) (h:i<s.length),i<(s.takeWhile p).length->p s[i]=true
 |[],i,h,_=>by simp at h
 |c::v,i,h,d=>by
  rw[List.takeWhile_cons]at d;split at d
  .rename_i e
   match i with
   |0=>exact e
   |i+1=>exact Ho p v i (by simpa using h) (by simpa using d)
  .simp at d
theorem zC (p:UInt8->Bool): ∀(s:bH) (h:(s.takeWhile p).length<s.length),p s[(s.takeWhile p).length]=false
 |[],h=>by simp at h
 |c::v,h=>by
  by_cases hc:p c=true
  .have e:List.takeWhile p (c::v)=c::v.takeWhile p:=by simp_all
   have d:(v.takeWhile p).length<v.length:=by simp_all
   have:=zC p v d;simp_all
  simp_all
theorem aup (p:UInt8->Bool) (s:bH) (n:Nat) (d:n<=s.length) (e: ∀i (h:i<s.length),i<n->p s[i]=true) (h2: ∀h:n<s.length,p s[n]=false):(s.takeWhile p).length=n:=by
 have a:=Hq p s;by_cases c:(s.takeWhile p).length<n
 .grind [zC]
 grind [Ho]
def nl (s:bH):Nat:=if EK s=0 then 0 else runN s
theorem akg {s:List UInt8} (h:EK s≠0):runN s≠0:=by
 unfold EK at h;unfold runN
 match s with
 |[]=>simp at h
 |c::v=>
  simp_all [List.takeWhile_cons,TN]
theorem atp (s:bH):nl s<=s.length:=by
 unfold nl;split
 .omega
 .exact Hq _ _
theorem Sr {s:List UInt8} (d:s.length<4000000) {a k:Nat} (h:a+k<s.length): ∃hk:k<(s.drop a).length,bU s (bV .i64 (a:Int) (k:Int))=(((s.drop a)[k]).toNat:Int):=by
 have hk:k<(s.drop a).length:=by grind
 refine⟨hk, ?_⟩;rw[bQ,show(a:Int)+(k:Int)=((a+k:Nat):Int) by omega,byte_at h,List.getElem_drop]
theorem aoM {s:List UInt8} (e:s.length<4000000) {at_:Nat} (g:at_<=s.length) (a:bH) (b:Int) (c:bH) (d:Int): ∀(N k:Nat),s.length-k<N->k<=EK (s.drop at_)->
  lX N s (at_:Int) (k:Int) a b c d=a6 (.inl ((((EK (s.drop at_):Nat):Int),()),((a,b,c,d,()),(),()),()))
 |0,k,h,hk=>by
  omega
 |N+1,k,h,hk=>by
  have p:=Hq Zq (s.drop at_);have q:=aQ (i:=at_) (l:=s);rw[lX,sZ];have u:k<=((s.drop at_).takeWhile Zq).length:=hk;have f:bV .i64 (at_:Int) (k:Int)=(at_:Int)+k:=bQ;by_cases h1:at_+k<s.length
  .obtain⟨j,o⟩:=Sr e h1;rw[o,f,bJ (eU (by rw[bz];omega)),bJ (dQ),(xn _).1,aY];by_cases h2:k<EK (s.drop at_)
   .rw[Ho Zq _ k j h2];simp only[ax,ac];rw[bQ,show(k:Int)+1=((k+1:Nat):Int) by omega];exact aoM e g a b c d N (k+1) (by omega) (by omega)
   .obtain rfl:k=EK (s.drop at_):=by omega
    grind [zC,EK]
  .obtain rfl:k=EK (s.drop at_):=by grind [EK]
   rw[f,dE (iy (by rw[bz];omega))]
theorem aoN {s:List UInt8} (e:s.length<4000000) {at_:Nat} (j:at_<=s.length) (a:bH) (b:Int) (c:bH) (d:Int): ∀(N k:Nat),s.length-k<N->k<=runN (s.drop at_)->
  nR N s (at_:Int) (k:Int) a b c d=a6 (.inl ((((runN (s.drop at_):Nat):Int),()),((a,b,c,d,()),(),()),()))
 |0,k,h,hk=>by
  omega
 |N+1,k,h,hk=>by
  have u:=Hq TN (s.drop at_);have v:=aQ (i:=at_) (l:=s);rw[nR,zA];have x:k<=((s.drop at_).takeWhile TN).length:=hk;have f:bV .i64 (at_:Int) (k:Int)=(at_:Int)+k:=bQ;by_cases h1:at_+k<s.length
  .obtain⟨g,o⟩:=Sr e h1;have p:bV .i64 (k:Int) 1=((k+1:Nat):Int):=by grind [bQ]
   rw[o,f,bJ (eU (by rw[bz];omega)),bJ (dQ),(xn _).1,aY,(xn _).2.1];by_cases h2:k<runN (s.drop at_)
   .have q:=aoN e j a b c d N (k+1) (by omega) (by omega);have y:=Ho TN _ k g h2;rw[p];cases hL:Zq (s.drop at_)[k]with
    |true=>exact q
    |false=>
     simp_all [TN,aY]
   .obtain rfl:k=runN (s.drop at_):=by omega
    have:=zC TN _ g;have z:TN (s.drop at_)[runN (s.drop at_)]=false:=this;simp_all [TN,aY]
  .obtain rfl:k=runN (s.drop at_):=by grind [runN]
   rw[f,dE (iy (by rw[bz];omega))]
theorem aoL {s:List UInt8} (e:s.length<4000000) {at_:Nat} (g:at_<=s.length) (a:bH) (b:Int) (c:bH) (d:Int): ∀(N k:Nat),s.length-k<N->k<=o5 (s.drop at_)->
  nY N s (at_:Int) (k:Int) a b c d=a6 (.inl ((((o5 (s.drop at_):Nat):Int),()),((a,b,c,d,()),(),()),()))
 |0,k,h,hk=>by
  omega
 |N+1,k,h,hk=>by
  have p:=Hq isD (s.drop at_);have q:=aQ (i:=at_) (l:=s);rw[nY,vU];have u:k<=((s.drop at_).takeWhile isD).length:=hk;have f:bV .i64 (at_:Int) (k:Int)=(at_:Int)+k:=bQ;by_cases h1:at_+k<s.length
  .obtain⟨j,o⟩:=Sr e h1;rw[o,f,bJ (eU (by rw[bz];omega)),bJ (dQ),(xn _).2.1,aY];by_cases h2:k<o5 (s.drop at_)
   .rw[Ho isD _ k j h2];simp only[ax,ac];rw[bQ,show(k:Int)+1=((k+1:Nat):Int) by omega];exact aoL e g a b c d N (k+1) (by omega) (by omega)
   .obtain rfl:k=o5 (s.drop at_):=by omega
    grind [zC,o5]
  .obtain rfl:k=o5 (s.drop at_):=by grind [o5]
   rw[f,dE (iy (by rw[bz];omega))]
theorem Wn {s:List UInt8} (d:s.length<4000000) {a:Nat} (e:a<=s.length):Af s a=a6 (((o5 (s.drop a):Nat):Int),()):=by
 rw[Af,dE (iy)];by_cases h0:a=s.length
 .subst h0;rw[bJ (qX (by rw[bz];omega)),List.drop_length];rfl
 rw[dE (Dw (by rw[bz];omega)),show nY bD s a 0 s a s a=_ from aoL d e s a s a bD 0 (dC) (by omega),aY];rfl
theorem agI {s:List UInt8} (d:s.length<4000000) {a:Nat} (e:a<=s.length):aag s a=a6 (((nl (s.drop a):Nat):Int),()):=by
 (rewrite [aag];delta aah;rw[dE (iy)])
 by_cases h0:a=s.length
 .subst h0;rw[bJ (qX (by rw[bz];omega)),List.drop_length];rfl
 rw[dE (Dw (by rw[bz];omega)),show lX bD s a 0 s a s a=_ from aoM d e s a s a bD 0 (dC) (by omega),aY];unfold dB;simp only;unfold nl;by_cases h1:EK (s.drop a)=0
 .rw[am h1,h1];rfl
 .rw[aq h1,dE (dV),dE (iy),dE (Dw (by rw[bz];omega)),show nR bD s a 0 _ _ _ _=_ from aoN d e _ _ _ _ bD 0 (dC) (by omega)];rfl
theorem JA {s:List UInt8} (e:s.length<4000000): ∀(N k:Nat),s.length-k<N->k<=runN s->
  NT N s (k:Int)=a6 (if runN s=s.length then .inl ((),())else .inr ((false,()),()))
 |0,k,h,hk=>by omega
 |N+1,k,h,hk=>by
  have o:=Hq TN s;have p:k<=(s.takeWhile TN).length:=hk;rw[NT,akB];by_cases h1:k<s.length
  .obtain⟨c,f,g,q⟩:=(xn s[k]).2.2;have i:gm s (k:Int)=true:=dQ;rw[bJ (eU (by rw[bz];omega)),i,byte_at h1,f,aY,g];by_cases h2:k<runN s
   .have j:=JA e N (k+1) (by omega) (by omega);have u:=Ho TN s k h1 h2;have l:bV .i64 (k:Int) 1=((k+1:Nat):Int):=by grind [bQ]
    rw[l];cases hL:Zq s[k]with
    |true=>exact j
    |false=>
     simp_all [TN,aY]
   .obtain rfl:k=runN s:=by omega
    have:=zC TN s h1;have d:TN s[runN s]=false:=this;simp only[TN,Bool.or_eq_false_iff]at d;rw[d.1,aq (by omega)];simp_all [aY]
  .obtain rfl:k=runN s:=by grind [runN]
   rw[dE (iy (by rw[bz];omega)),am (by omega)]
theorem aiw {s:List UInt8} (d:s≠[]):EK s=0↔Zq (s.headD 0)=false:=by
 match s,d with
 |c::v,_=>
  simp_all [EK,List.takeWhile_cons]
theorem yJ {s:List UInt8} (e:s.length<4000000):aii s=a6 (decide (nl s≠0/\nl s=s.length),()):=by
 rw[aii];by_cases h0:s=[]
 .subst h0;rfl
 have f:0<s.length:=List.length_pos_iff.2 h0;obtain⟨_,_,c,g,j,p⟩:=xn s[0];have l:bU s 0=(s[0].toNat:Int):=byte_at (i:=0) f;have q:s.headD 0=s[0]:=by
  match s,h0 with
  |c::v,_=>rfl
 rw[dE (dV (by rw[bz];omega)),bJ (dQ),l,g,aY];simp only;rw[j];unfold nl;cases hL:Zq s[0]with
 |false=>
  simp_all [aiw]
 |true=>
  have d:EK s≠0:=fun h=>by simp_all [aiw]
  have o:=akg d;simp only[ax,ac];rw[aq d,show NT bD s 1=_ from JA e bD 1 (dC) (by omega)];by_cases h3:runN s=s.length
  .rw[am h3,decide_eq_true ⟨o,h3⟩];rfl
  .rw[aq h3,decide_eq_false (fun h=>h3 h.2)];rfl
def prl (s:bH):Nat:=if nl s≠0 then nl s else match s with
 |c::_=>if isP c||isD c then 1 else 0
 |[]=>0
theorem aj2 (s:bH):prl s<=s.length:=by
 unfold prl
 grind [atp]
theorem Qp {s:List UInt8} {a:Nat} (h:a<s.length):s.drop a=s[a]::s.drop (a+1):=aF h
theorem alI {s:List UInt8} (d:s.length<4000000) {a:Nat} (f:a<=s.length):QA s a=a6 (((prl (s.drop a):Nat):Int),()):=by
 rw[QA,agI d f,aY];unfold prl;by_cases e:nl (s.drop a)=0
 .rw[dE (iy),aq (by omega),dE (iy)];by_cases h:a<s.length
  .rw[dE (Dw (by rw[bz];omega)),bJ (dQ),byte_at h,Wn d f,aY];have hd:Ej ((o5 (s.drop a):Nat):Int) 1=if isD s[a]then 1 else 0:=by
    grind [o5,Qp,List.takeWhile_cons,Ej]
   have g:=(aqZ s[a]).2;rw[hd,Qp h]
   grind
  simp_all [qX,bz,aU]
 .rw[bJ (eU),am e]
end
section
open Bool renaming and_true → ay
open List renaming length_append → aj, length_cons → aH
open Nat renaming le_refl → ae
open Go.RowKit
abbrev kJ:=Int×Int×Int×Int×Bool×Unit
abbrev DV:=Int×Int×Unit
def dP:kJ:=(0,(0,(0,(0,(false,())))))
def dF:DV:=(0,(0,()))
def counts (m:Int):Int:=if m=3 then 1 else if m=11 then 9 else m
theorem WJ (m:Int):QB m=some (counts m,()):=by
 unfold QB counts;simp only[iD];by_cases h1:m=3
 .simp[h1]
 .by_cases h2:m=11<;>simp[h1,h2]
theorem CE {e:Type} {l:List e} {d x:e} {i:Nat} (h:i<l.length):cO (gp l i x) d i=x:=by
 simp_all [cO,gp]
theorem YV {d:Type} {l:List d} {i:Nat} {x y:d}:gp (gp l i x) i y=gp l i y:=by
 simp_all [gp]
theorem acb {d:Type} {l:List d} {i:Nat} {x:d} {k:Int}:gm (gp l i x) k=gm l k:=by
 simp_all [gm,gp]
theorem acJ {d:Type} {l:List d} {i k:Nat} {x:d}:mV k (gp l i x)=mV k l:=by
 simp_all [mV,gp]
theorem sW {d:Type} {l:List d} {i:Nat} {x:d}:(gp l i x).length=l.length:=by
 simp_all [gp]
theorem WQ (n:Nat):eqN n n=true:=by simp[eqN]
def Kr (L:List kJ) (j:Nat) (a:Int):List kJ:=gp L j ((cO L dP j).1,(cO L dP j).2.1,a,(cO L dP j).2.2.2.1,false,())
def QQ (L:List kJ) (j:Nat) (m:Int):List kJ:=gp L j (m,(cO L dP j).2)
theorem CQ (L:List kJ) (j:Nat) (a:Int):(Kr L j a).length=L.length:=sW
theorem Cm (L:List kJ) (j:Nat) (m:Int):(QQ L j m).length=L.length:=sW
def mD (F:List DV) (a:Int):Nat->List kJ->List Int->List kJ×List Int
 |0,L,H=>(L,H)
 |n+1,L,H=>
  if n+1<=F.length/\(F.getD n dF).2.1=(cO L dP (H.getD n 0).toNat).2.1 then(L,H)
  else mD F a n (Kr L (H.getD n 0).toNat (a+1)) (H.take n)
def xN (F:List DV) (H:List Int):Nat->Nat->List kJ->List kJ
 |0,_,L=>L
 |k+1,i,L=>xN F H k (i+1) (QQ L (H.getD i 0).toNat (counts (F.getD i dF).1))
theorem YU (F:List DV) {a:Int} (d:0<=a) (f:a<1000000) (hF:F.length<1000000): ∀(N n:Nat) (L:List kJ) (H:List Int),n<N->n=H.length->n<1000000->L.length<1000000->
  (∀j∈H,0<=j/\j<L.length)->
  Gu N F a (n:Int) L H=some (.inl ((F,()),((),()),((),(mD F a n L H).1,(mD F a n L H).2,())))
 |0,n,L,H,h,_,_,_,_=>by omega
 |N+1,0,L,H,h,_,_,_,_=>by
  rfl
 |N+1,n+1,L,H,h,D,E,g,i=>by
  have G:n<H.length:=by omega
  have l:eY .i64 ((n+1:Nat):Int) 1=(n:Int):=by grind [iq]
  have o:H.getD n 0∈H:=by simp_all
  obtain⟨p,q⟩:=i _ o;have s:cO H 0 (bP (n:Int))=H.getD n 0:=rfl;have u:bT F (0,(0,())) (n:Int)=F.getD n dF:=rfl;have v:gm L (H.getD n 0)=true:=dQ p q;have hl:mV (bP (H.getD n 0)) L=true:=oJ (by simp only[bP];omega);have y:gy (bi H) 0 (n:Int)=true:=gZ (by omega) (by omega) (by rw[bz];omega);have z:sub H 0 (n:Int)=H.take n:=by simp[sub]
  have A:bV .i64 a 1=a+1:=bQ;have B:bP (H.getD n 0)<L.length:=by simp only[bP];omega
  have gX: ∀x,cO (gp L (bP (H.getD n 0)) x) (0,(0,(0,(0,(false,()))))) (bP (H.getD n 0))=x:=fun x=>CE B;have go:=YU F d f hF N n (Kr L (H.getD n 0).toNat (a+1)) (H.take n) (by omega) (by grind) (by omega) (by rw[CQ];exact g)
   (fun j I=>by grind [CQ])
  (rewrite [Gu,Lm];delta CW tZ tY iH;rw[mD])
  simp only[l,s,u,v,hl,y,z,A,acb,acJ,gX,YV,aa];rw[bJ (eU),bJ (dQ),bJ (oJ (by assumption))];by_cases e:n+1<=F.length
  .rw[bJ (qX (by rw[bz];omega)),bJ (dQ)];by_cases e2:(F.getD n dF).2.1=(cO L dP (H.getD n 0).toNat).2.1
   .rw[am ⟨e,e2⟩];exact bJ (gB e2)
   .rw[aq (fun h=>e2 h.2)];exact(dE (dV e2)).trans go
  .rw[dE (Dw (by rw[bz];omega)),aq (fun h=>e h.1)];exact go
theorem YT (F:List DV) (H:List Int) (hF:F.length<1000000) (e:H.length<1000000): ∀(k i N:Nat) (L:List kJ),i+k=H.length->H.length<=F.length->L.length<1000000->(∀j∈H,0<=j/\j<L.length)->
  qi (N+k) F (bi F) (i:Int) L H=qi N F (bi F) (H.length:Int) (xN F H k i L) H
 |0,i,N,L,h,_,_,_=>by simp_all [xN]
 |k+1,i,N,L,h,f,g,l=>by
  have v:i<H.length:=by omega
  have o:H.getD i 0∈H:=by simp_all
  obtain⟨p,q⟩:=l _ o;have s:cO H 0 (bP (i:Int))=H.getD i 0:=rfl;have u:bT F (0,(0,())) (i:Int)=F.getD i dF:=rfl;have d:gm L (H.getD i 0)=true:=dQ p q;have hl:mV (bP (H.getD i 0)) L=true:=oJ (by simp only[bP];omega);have go:=YT F H hF e k (i+1) N (QQ L (H.getD i 0).toNat (counts (F.getD i dF).1)) (by omega) f (by rw[Cm];exact g) (fun j x=>by grind [Cm])
  (rewrite [show N+(k+1)=(N+k)+1 by omega,qi,zx];delta kF kD jr;rw[xN,<-go])
  rw[bJ (eU (by rw[bz];omega)),bJ (dQ),bJ (eU (by rw[bz];omega)),bJ (dQ),bJ (oJ (by assumption)),WJ,aY,s,d,hl];simp only[acb,d,aa,WQ,ay,u];rw[bQ,show(i:Int)+1=((i+1:Nat):Int) by omega];rfl
theorem Iu (F:List DV) (H:List Int): ∀(k i:Nat) (L:List kJ),(xN F H k i L).length=L.length
 |0,_,_=>rfl
 |k+1,i,L=>by rw[xN,Iu F H k,Cm]
theorem IW (F:List DV) (a:Int): ∀(n:Nat) (L:List kJ) (H:List Int),(mD F a n L H).1.length=L.length/\(mD F a n L H).2.length<=H.length/\(∀j∈(mD F a n L H).2,j∈H)
 |0,_,H=>⟨rfl,ae _,fun _ h=>h⟩
 |n+1,L,H=>by
  rw[mD];split
  .simp
  .have h:=IW F a n (Kr L (H.getD n 0).toNat (a+1)) (H.take n)
   grind [CQ]
def VE (L:List kJ) (H:List Int) (F:List DV) (a:Int):List kJ×List Int:=
 let r:=mD F a H.length L H
 let d:=xN F r.2 r.2.length 0 r.1
 if F.length=r.2.length then(d,r.2)
 else(d++[(counts (F.getD r.2.length dF).1,((F.getD r.2.length dF).2.1,(0,((if r.2.length=0 then-1 else r.2.getD (r.2.length-1) 0),(true,())))))],r.2++[(d.length:Int)])
theorem atC {L:List kJ} {H:List Int} {F:List DV} {t:DV} {a:Int} (i:0<=a) (o:a<1000000) (hF:F.length<1000000) (p:L.length<1000000) (q:H.length<1000000) (s: ∀j∈H,0<=j/\j<L.length)
  (u:(mD F a H.length L H).2.length<=F.length) (h2:F.length<=(mD F a H.length L H).2.length+1):
  Xm L H (t::F) a=some (((VE L H F a).1,((VE L H F a).2,())),()):=by
 have I:=IW F a H.length L H;have v:sub (t::F) 1 (bi (t::F))=F:=by simp[sub,bi]
 have y:=YU F i o hF bD H.length L H (dC) rfl q p s;unfold Xm;rw[bJ (gZ (by omega) (by rw[bz];simp;omega) (by rw[bz];omega)),v,bz (l:=H),y,aY];simp only[dB];unfold VE;generalize hr:mD F a H.length L H=r at*;have z: ∀j∈r.2,0<=j/\j<r.1.length:=fun j J=>by simp_all
 have M:=Iu F r.2 r.2.length 0 r.1;obtain⟨K,A⟩: ∃K,bD=(K+2)+r.2.length:=⟨bD-2-r.2.length,by have:=dC (n:=r.2.length+2) (by omega);omega⟩;have g:=YT F r.2 hF (by omega) r.2.length 0 (K+2) r.1 (by omega) u (by omega) z;rw[<-A]at g;rw[show(0:Int)=((0:Nat):Int) from rfl,g];by_cases e:F.length=r.2.length
 ·(rewrite [qi,zx];delta kF kD jr;rw[dE (iy (by rw[bz];omega)),am e,aY])
 .rw[aq e];have N:r.2.length<F.length:=by omega
  generalize O:xN F r.2 r.2.length 0 r.1=L2 at*;have B:bT F (0,(0,())) (r.2.length:Int)=F.getD r.2.length dF:=rfl;have D: ∀x:kJ,dZ (bI L2 [x]) 40=true:=fun x=>by simp only[dZ,bI,aj,aH,List.length_nil,decide_eq_true_eq,mW];omega
  have E: ∀x:Int,dZ (bI r.2 [x]) 8=true:=fun x=>by simp only[dZ,bI,aj,aH,List.length_nil,decide_eq_true_eq,mW];omega
  have h: ∀f d,(d.length:Int)=r.2.length+1->qi (K+1) F (bi F) (bV .i64 (r.2.length:Int) 1) f d=some (.inl ((),((),()),((),f,d,()))):=fun f d S=>by
   (rewrite [qi,zx];delta kF kD jr;rw[dE (iy (by grind [bz,bQ]))])
  (rewrite [qi,zx];delta kF kD jr;rw[bJ (eU (by rw[bz];omega)),bJ (dQ),dE (iy (by rw[bz];omega))])
  simp only[B,WJ,aY,fB,D,E,ay,aa,qP];by_cases e0:r.2.length=0
  .rw[dE (iy),am e0,h _ _ (by simp[bI]),aY];rfl
  .have G:eY .i64 (r.2.length:Int) 1=((r.2.length-1:Nat):Int):=by grind [iq]
   rw[bJ (eU),G,bJ (dQ),bJ (oJ (by simp only[bP];omega)),aq e0,h _ _ (by simp[bI]),aY];rfl
end
section
open Go.RowKit
def Nr (s:fZ):List DV:=(s.dropLast.map fun f=>(f.1,f.2,())).reverse
def PZ (s:fZ):List Int:=(s.dropLast.map (·.2)).reverse
theorem Vx (s:fZ):(Nr s).map (·.2.1)=PZ s:=by
 simp only[Nr,PZ,List.map_reverse,List.map_map];rfl
theorem aqc {s:fZ} (d:iI s): ∃t:DV,lo s=t::Nr s:=by
 have e:s≠[]:=by rintro rfl;exact d
 grind [List.dropLast_concat_getLast,lo,Nr]
theorem YE (f:mJ) {r:fZ} (h:r≠[]):PZ (f::r)=PZ r++[f.2]:=by
 cases r with
 |nil=>exact absurd rfl h
 |cons g r=>simp[PZ]
theorem anT (pre:fZ) (f:mJ) (r:fZ): ∃l,PZ (pre++f::r)=PZ (f::r)++l:=by
 induction pre with
 |nil=>simp
 |cons g pre d=>
  obtain⟨l,h⟩:=d;simp_all [YE]
def Shape (s y:fZ) (at_:Int):Prop:= ∃e f r d,s=e++f::r/\(y=(d,f.2)::r\/ ∃g,y=(g,at_)::(d,f.2)::r)
theorem vT {m:Int} {f:Int×Int} {r:fZ} (hr:m=0\/r≠[]) (fr:Bool) (b at_:Int):Shape (f::r) (jA m (f::r) fr b at_).1 at_:=by
 have d:Shape (f::r) (f::r) at_:=⟨[],f,r,f.1,rfl,.inl rfl⟩;have push: ∀k,Shape (f::r) ((k,at_)::f::r) at_:=fun k=>⟨[],f,r,f.1,rfl,.inr ⟨k,rfl⟩⟩;have e: ∀k,Shape (f::r) ((k,f.2)::r) at_:=fun k=>⟨[],f,r,k,rfl,.inl rfl⟩;have i:m≠0->Shape (f::r) r at_:=fun h=>by
  cases r with
  |nil=>simp_all
  |cons g r=>exact⟨[f],g,r,g.1,rfl,.inl rfl⟩
 unfold jA Ox Ii;rcases qK b with rfl|rfl|rfl|rfl|rfl|rfl|rfl|rfl|rfl|rfl|rfl|⟨j,l,o,p,q,s,u,v,x,y,z⟩<;>cases fr<;>simp_all<;>
  (repeat' split)<;>first|assumption|exact push _|exact e _|(exact i (by omega))|(simp_all;done)|exact d|skip
theorem afI {pre s y:fZ} {at_:Int} (h:Shape s y at_):Shape (pre++s) y at_:=by
 obtain⟨p,f,r,d,g,e⟩:=h;exact⟨pre++p,f,r,d,by simp_all,e⟩
theorem OI {a:Int} {f:Int×Int} {r y:fZ} {at_:Int} (h:Shape ((a,f.2)::r) y at_):Shape (f::r) y at_:=by
 obtain⟨p,g,o,e,i,j⟩:=h;cases p with
 |nil=>
  obtain⟨l,d⟩:=List.cons.inj i;subst l d;exact⟨[],f,r,e,rfl,j⟩
 |cons q p=>
  obtain⟨l,d⟩:=List.cons.inj i;exact⟨f::p,g,o,e,by rw[d];rfl,j⟩
theorem abd {s:fZ} (d:iI s) (fr:Bool) (b at_:Int):Shape s (fQ s fr b at_).1 at_:=by
 cases s with
 |nil=>cases d
 |cons f r=>
 have j: ∀k,Shape (f::r) ((k,f.2)::r) at_:=fun k=>⟨[],f,r,k,rfl,.inl rfl⟩;have l: ∀g i,r=g::i->Shape (f::r) r at_:=fun g i h=>by rw[h];exact⟨[f],g,i,g.1,rfl,.inl rfl⟩
 simp only[fQ];split
 .rename_i e
  have hr:r≠[]:=lV d (by omega);cases r with
  |nil=>exact absurd rfl hr
  |cons g r=>
  split
  .exact j 3
  .split
   .split<;>exact j _
   .split
    .exact l g r rfl
    .have o:=BU d hr;refine afI (pre:=[f]) (vT ?_ fr b at_)
     grind [lV]
 .split
  .grind [lV,OI,vT]
  .split
   .rename_i e
    have hr:r≠[]:=lV d (by omega);split
    .cases r with
     |nil=>exact absurd rfl hr
     |cons g r=>exact l g r rfl
    grind [OI,vT]
   grind [vT,lV]
theorem YF {s:fZ} (d:iI s) (fr:Bool) (b at_:Int): ∃c,c<=(PZ s).length/\(PZ (fQ s fr b at_).1=(PZ s).take c\/PZ (fQ s fr b at_).1=(PZ s).take c++[at_]):=by
 obtain⟨e,f,r,i,j,o⟩:=abd d fr b at_;obtain⟨l,hl⟩:=anT e f r;rw[<-j]at hl;have p:PZ ((i,f.2)::r)=PZ (f::r):=by
  cases r with
  |nil=>rfl
  |cons g r=>rfl
 refine⟨(PZ (f::r)).length,by rw[hl];simp, ?_⟩;rw[hl,List.take_left']
 .rcases o with h|⟨q,h⟩
  .simp_all
  .rw[h,YE _ (by simp),p];exact .inr rfl
 .rfl
end
section
open List renaming length_append → aj, length_map → aI
open Nat renaming le_refl → ae, lt_or_ge → aJ
open Go.RowKit
theorem acO {e:Type} {l:List e} {d:e} {i:Nat} (h:l.length<=i):cO l d i=d:=by
 simp_all [cO]
theorem ql {e:Type} {l:List e} {d:e} {i:Nat} (h:i<l.length):cO l d i=l[i]:=by
 simp_all [cO]
theorem getD_take {e:Type} {l:List e} {d:e} {i n:Nat} (h:i<n):(l.take n).getD i d=l.getD i d:=by
 simp_all
theorem Eo {e:Type} {l:List e} {d x:e} {i j:Nat} (h:i≠j):cO (gp l i x) d j=cO l d j:=by
 simp_all [cO,gp]
def OM (a:Int) (p:kJ):kJ:=(p.1,p.2.1,a,p.2.2.2.1,false,())
theorem CS (L:List kJ) (j:Nat) (a:Int) (k:Nat) (d:j<L.length):cO (Kr L j a) dP k=if j=k then OM a (cO L dP k)else cO L dP k:=by
 unfold Kr;by_cases h:j=k
 .subst h;rw[am rfl,CE d];rfl
 .rw[aq h,Eo h]
theorem Iw (L:List kJ) (j:Nat) (m:Int) (k:Nat) (d:j<L.length):cO (QQ L j m) dP k=if j=k then(m,(cO L dP k).2)else cO L dP k:=by
 unfold QQ;by_cases h:j=k
 .subst h;rw[am rfl,CE d]
 .rw[aq h,Eo h]
theorem OL (F:List DV) (a:Int) (H:List Int) (c:Nat) (l: ∀n,n<H.length->0<=H.getD n 0): ∀(n:Nat) (L:List kJ),c<=n->n<=H.length->
  (∀m,m<n->(H.getD m 0).toNat<L.length)->
  (∀m,m<c->m<F.length/\(F.getD m dF).2.1=(cO L dP (H.getD m 0).toNat).2.1)->
  (∀m,c<=m->m<n-> ¬(m+1<=F.length/\(F.getD m dF).2.1=(cO L dP (H.getD m 0).toNat).2.1))->
  (mD F a n L (H.take n)).2=H.take c/\
  (∀j,(∃m,c<=m/\m<n/\(H.getD m 0).toNat=j)->cO (mD F a n L (H.take n)).1 dP j=OM (a+1) (cO L dP j))/\
  (∀j,(∀m,c<=m->m<n->(H.getD m 0).toNat≠j)->cO (mD F a n L (H.take n)).1 dP j=cO L dP j)
 |0,L,o,p,hl,q,g=>by
  have:c=0:=by omega
  subst this;exact⟨rfl,fun j ⟨m,_,h,_⟩=>by omega,fun j _=>rfl⟩
 |n+1,L,o,p,hl,q,g=>by
  rw[mD,getD_take (by omega)];by_cases e:c=n+1
  .grind
  .have s:=g n (by omega) (by omega);have f:=hl n (by omega);have z: ∀k,(cO (Kr L (H.getD n 0).toNat (a+1)) dP k).2.1=(cO L dP k).2.1:=fun k=>by
    rw[CS _ _ _ _ f];split<;>rfl
   rw[aq s,List.take_take,show min n (n+1)=n by omega];obtain⟨u,v,x⟩:=OL F a H c l n (Kr L (H.getD n 0).toNat (a+1)) (by omega) (by omega) (fun m i=>by grind [CQ])
    (fun m i=>by grind) (fun m i y=>by grind)
   refine⟨u,fun j d=> ?_,fun j d=> ?_⟩
   .by_cases hq: ∃m,c<=m/\m<n/\(H.getD m 0).toNat=j
    .rw[v j hq,CS _ _ _ _ f];split<;>rfl
    .obtain⟨m,A,y,B⟩:=d;have:m=n:=by
      grind
     simp_all [CS]
   .rw[x j (fun k hk D=>d k hk (by omega)),CS _ _ _ _ f,aq (d n (by omega) (by omega))]
theorem NZ (F:List DV) (H:List Int) (f: ∀m n,m<H.length->n<H.length->(H.getD m 0).toNat=(H.getD n 0).toNat->m=n): ∀(k i:Nat) (L:List kJ),i+k<=H.length->
  (∀m,m<H.length->(H.getD m 0).toNat<L.length)->
  (∀m,i<=m->m<i+k->cO (xN F H k i L) dP (H.getD m 0).toNat=(counts (F.getD m dF).1,(cO L dP (H.getD m 0).toNat).2))/\
  (∀j,(∀m,i<=m->m<i+k->(H.getD m 0).toNat≠j)->cO (xN F H k i L) dP j=cO L dP j)
 |0,i,L,h,hl=>⟨fun m o p=>by omega,fun j _=>rfl⟩
 |k+1,i,L,h,hl=>by
  have d:=hl i (by omega);obtain⟨q,g⟩:=NZ F H f k (i+1) (QQ L (H.getD i 0).toNat (counts (F.getD i dF).1)) (by omega) (fun m s=>by grind [Cm]);rw[xN];refine⟨fun m o p=> ?_,fun j l=> ?_⟩
  .by_cases e:m=i
   .subst e;rw[g _ (fun k hk v x=>by grind),Iw _ _ _ _ d,am rfl]
   .rw[q m (by omega) (by omega),Iw _ _ _ _ d,aq (fun u=>e (f i m (by omega) (by omega) u).symm)]
  .rw[g j (fun m s y=>l m (by omega) (by omega)),Iw _ _ _ _ d,aq (l i (by omega) (by omega))]
def Jo (F:List DV) (v:Int):Option Int:=(F.find? fun f=>f.2.1==v).map (·.1)
theorem WX {F:List DV} (hd: ∀m n,m<F.length->n<F.length->(F.getD m dF).2.1=(F.getD n dF).2.1->m=n) {m:Nat} (d:m<F.length):Jo F (F.getD m dF).2.1=some (F.getD m dF).1:=by
 have e: ∃f,F.find? (fun f=>f.2.1==(F.getD m dF).2.1)=some f:=by
  cases h:F.find? (fun f=>f.2.1==(F.getD m dF).2.1)with
  |some f=>exact⟨f,rfl⟩
  |none=>
   grind
 grind [List.getElem_of_mem,Jo]
theorem Na {F:List DV} {v:Int} (h: ∀m,m<F.length->(F.getD m dF).2.1≠v):Jo F v=none:=by
 grind [Jo,List.getElem_of_mem]
def ou (F:List DV) (a:Int) (p:kJ):kJ:=
 if p.2.2.2.2.1=true then(match Jo F p.2.1 with
  |some m=>(counts m,p.2)
  |none=>OM (a+1) p)else p
def aaN (F:List DV) (a:Int):Bool:=match F.getLast? with
 |some f=>decide (f.2.1=a)
 |none=>false
def amq (L:List Int) (v:Int):Int:=((L.findIdx fun p=>p==v:Nat):Int)
def En (F:List DV) (a:Int) (fr:List Int):kJ:=(counts (F.getLastD dF).1,a,0,(if F.length=1 then-1 else amq fr (F.getD (F.length-2) dF).2.1),true,())
def Ju (F:List DV) (a:Int) (L:List kJ):List kJ:=L.map (ou F a)++if aaN F a=true then [En F a (L.map (·.2.1))]else []
structure Inv (L:List kJ) (H:List Int) (F:List DV) (k:Int):Prop where
 len:H.length=F.length
 nn: ∀n,n<H.length->0<=H.getD n 0/\(H.getD n 0).toNat<L.length
 frm: ∀n,n<H.length->(cO L dP (H.getD n 0).toNat).2.1=(F.getD n dF).2.1/\(cO L dP (H.getD n 0).toNat).2.2.2.2.1=true
 opn: ∀j,(cO L dP j).2.2.2.2.1=true-> ∃n,n<H.length/\(H.getD n 0).toNat=j
 lt: ∀j,j<L.length->(cO L dP j).2.1<k
 inj: ∀i j,i<L.length->j<L.length->(cO L dP i).2.1=(cO L dP j).2.1->i=j
 fd: ∀m n,m<F.length->n<F.length->(F.getD m dF).2.1=(F.getD n dF).2.1->m=n
theorem Inv.hd {L:List kJ} {H:List Int} {F:List DV} {k:Int} (h:Inv L H F k): ∀m n,m<H.length->n<H.length->(H.getD m 0).toNat=(H.getD n 0).toNat->m=n:=fun m n d f e=>by
 have g:=(h.frm m d).1;have i:=(h.frm n f).1;rw[e,i]at g;exact(h.fd n m (by rw[<-h.len];exact f) (by rw[<-h.len];exact d) g).symm
theorem Ic {F:List DV} {n:Nat} (h:n<F.length):(F.getD n dF).2.1=(F.map (·.2.1)).getD n 0:=by
 simp_all
theorem al7 {f:Type} {d:f} {l e:List f} (h:l.length=e.length) (h2: ∀j,j<l.length->cO l d j=cO e d j):l=e:=by
 grind [List.ext_getElem,ql]
theorem aiA {L:List kJ} (d: ∀i j,i<L.length->j<L.length->(cO L dP i).2.1=(cO L dP j).2.1->i=j) {j:Nat} (e:j<L.length):amq (L.map (·.2.1)) (cO L dP j).2.1=(j:Int):=by
 have f: ∀i,i<L.length->(L.map (·.2.1))[i]? =some (cO L dP i).2.1:=fun i g=>by
  simp_all [ql]
 unfold amq
 grind
theorem akn {L:List kJ} {H:List Int} {F g:List DV} {k:Int} (h:Inv L H F k) {c:Nat} (hc:c<=F.length)
  (hF:g.map (·.2.1)=(F.map (·.2.1)).take c\/g.map (·.2.1)=(F.map (·.2.1)).take c++[k]):
  (mD g k H.length L H).2.length<=g.length/\g.length<=(mD g k H.length L H).2.length+1/\
  (VE L H g k).1=Ju g k L/\Inv (VE L H g k).1 (VE L H g k).2 g (k+1):=by
 have aU:g.length=c\/g.length=c+1:=by
  have q:g.length=(g.map (·.2.1)).length:=(aI ..).symm;rcases hF with e|e<;>rw[q,e]<;>simp<;>omega
 have aF:c<=H.length:=by rw[h.len];exact hc
 have v: ∀m,m<c->m<g.length/\(g.getD m dF).2.1=(F.getD m dF).2.1:=fun m s=>by
  refine⟨by omega, ?_⟩;rw[Ic (by omega),Ic (F:=F) (by omega)];rcases hF with e|e
  .rw[e,getD_take s]
  .rw[e,List.getD_eq_getElem?_getD,List.getElem?_append_left (by simp;omega),<-List.getD_eq_getElem?_getD,getD_take s]
 have E:c<g.length->(g.getD c dF).2.1=k:=fun s=>by
  rcases hF with e|e
  .have:g.length=(g.map (·.2.1)).length:=(aI ..).symm;rw[e]at this;simp at this;omega
  .rw[Ic s,e,List.getD_eq_getElem?_getD,List.getElem?_append_right (by simp;omega)];simp[Nat.min_eq_left hc]
 have G: ∀m,m<F.length->(F.getD m dF).2.1<k:=fun m s=>by
  rw[<-(h.frm m (by rw[h.len];exact s)).1];exact h.lt _ (h.nn m (by rw[h.len];exact s)).2
 obtain⟨Y,s2,s3⟩:=OL g k H c (fun n o=>(h.nn n o).1) H.length L aF (ae _) (fun m s=>(h.nn m s).2)
  (fun m s=>⟨(v m s).1,(v m s).2.trans (h.frm m (by omega)).1.symm⟩)
  (fun m aV N ⟨hl,y⟩=>by
   have s:m=c:=by omega
   subst s;rw[E (by omega),(h.frm m N).1]at y;have:=G m (by rw[<-h.len];exact N);omega)
 rw[List.take_length]at Y s2 s3;have ad:=(IW g k H.length L H).1;have z:(H.take c).length=c:=by rw[List.length_take];omega
 have A: ∀m,m<c->(H.take c).getD m 0=H.getD m 0:=fun m s=>getD_take s;obtain⟨m1,m2⟩:=NZ g (H.take c) (fun m n s o e=>by
   rw[z]at s o;rw[A m s,A n o]at e;exact h.hd m n (by omega) (by omega) e) c 0 (mD g k H.length L H).1 (by omega) (fun m s=>by
   rw[z]at s;rw[A m s,ad];exact(h.nn m (by omega)).2)
 have an:=Iu g (H.take c) c 0 (mD g k H.length L H).1;have aG: ∀j,j<L.length->cO (xN g (H.take c) c 0 (mD g k H.length L H).1) dP j=ou g k (cO L dP j):=fun j u=>by
  unfold ou;have V: ∀m n,m<g.length->n<g.length->(g.getD m dF).2.1=(g.getD n dF).2.1->m=n:=fun m n s o e=>by
   rcases aJ m c with q|q<;>rcases aJ n c with x|x
   .rw[(v m q).2,(v n x).2]at e;exact h.fd m n (by omega) (by omega) e
   .have:n=c:=by omega
    subst this;rw[(v m q).2,E o]at e;have:=G m (by omega);omega
   .have:m=c:=by omega
    subst this;rw[(v n x).2,E s]at e;have:=G n (by omega);omega
   .omega
  by_cases B:(cO L dP j).2.2.2.2.1=true
  .rw[am B];obtain⟨n,o,I⟩:=h.opn j B;have af:=(h.frm n o).1;rw[I]at af;rcases aJ n c with J|J
   .have e:=m1 n (by omega) (by omega);rw[A n J,I]at e;rw[e,s3 j (fun m s N O=>by have:=h.hd m n N o (O.trans I.symm);omega),af,<-(v n J).2,WX V (v n J).1]
   .rw[m2 j (fun m _ s O=>by rw[A m (by omega)]at O;have:=h.hd m n (by omega) o (O.trans I.symm);omega),s2 j ⟨n,J,o,I⟩,Na];intro m s e;rw[af]at e;rcases aJ m c with q|q
    .rw[(v m q).2]at e;have:=h.fd m n (by omega) (by rw[<-h.len];exact o) e;omega
    .have:m=c:=by omega
     subst this;rw[E s]at e;have:=G n (by rw[<-h.len];exact o);omega
  .rw[aq B];have ao: ∀m,m<H.length->(H.getD m 0).toNat≠j:=fun m s e=>B (by rw[<-e];exact(h.frm m s).2);rw[m2 j (fun m _ s O=>ao m (by omega) (by rw[<-A m (by omega)];exact O)),s3 j (fun m _ s=>ao m s)]
 have aH:xN g (H.take c) c 0 (mD g k H.length L H).1=L.map (ou g k):=al7 (d:=dP) (by rw[an,ad,aI]) fun j u=>by
  rw[an,ad]at u;rw[aG j u,ql (l:=L.map _) (by rw[aI];exact u),List.getElem_map,ql u]
 have D: ∀p,(ou g k p).2.1=p.2.1:=fun p=>by
  unfold ou;split
  .split<;>rfl
  .rfl
 have au:(VE L H g k)=if g.length=c then(L.map (ou g k),H.take c)else
   (L.map (ou g k)++[(counts (g.getD c dF).1,((g.getD c dF).2.1,(0,((if c=0 then-1 else(H.take c).getD (c-1) 0),(true,())))))],H.take c++[(L.length:Int)]):=by
  unfold VE;simp only[Y,z,aH,aI]
 have aK: ∀p,(ou g k p).2.2.2.2.1=true->p.2.2.2.2.1=true/\ ∃m,Jo g p.2.1=some m:=fun p S=>by
  unfold ou at S;split at S
  .rename_i B
   split at S
   .rename_i m s;exact⟨B,m,s⟩
   .cases S
  .rename_i B;exact absurd S B
 have V: ∀m n,m<g.length->n<g.length->(g.getD m dF).2.1=(g.getD n dF).2.1->m=n:=fun m n s o e=>by
  rcases aJ m c with q|q<;>rcases aJ n c with x|x
  .rw[(v m q).2,(v n x).2]at e;exact h.fd m n (by omega) (by omega) e
  .have:n=c:=by omega
   subst this;rw[(v m q).2,E o]at e;have:=G m (by omega);omega
  .have:m=c:=by omega
   subst this;rw[(v n x).2,E s]at e;have:=G n (by omega);omega
  .omega
 have U: ∀j,j<L.length->cO (L.map (ou g k)) dP j=ou g k (cO L dP j):=fun j u=>by
  rw[ql (l:=L.map _) (by rw[aI];exact u),List.getElem_map,ql u]
 have av:Ju g k L=L.map (ou g k)++if aaN g k=true then [En g k (L.map (·.2.1))]else []:=rfl
 have aw: ∀n,n<c->(ou g k (cO L dP (H.getD n 0).toNat)).2.1=(g.getD n dF).2.1/\(ou g k (cO L dP (H.getD n 0).toNat)).2.2.2.2.1=true:=fun n o=>by
  have K:=h.frm n (by omega);refine⟨by rw[D,K.1,(v n o).2], ?_⟩;unfold ou;rw[am K.2,K.1,<-(v n o).2,WX V (v n o).1];exact K.2
 have ax: ∀j,j<L.length->(ou g k (cO L dP j)).2.2.2.2.1=true-> ∃n,n<c/\(H.getD n 0).toNat=j:=fun j u B=>by
  obtain⟨q,m,s⟩:=aK _ B;obtain⟨n,o,I⟩:=h.opn j q;have K:=(h.frm n o).1;rw[I]at K;rcases aJ n c with J|J
  .exact⟨n,J,I⟩
  .rw[K,Na]at s
   .cases s
   .intro m N e;rcases aJ m c with q|q
    .rw[(v m q).2]at e;have:=h.fd m n (by omega) (by rw[<-h.len];exact o) e;omega
    .have:m=c:=by omega
     subst this;rw[E N]at e;have:=G n (by rw[<-h.len];exact o);omega
 have ay: ∀{l:List kJ} {j:Nat},(cO l dP j).2.2.2.2.1=true->j<l.length:=fun {l j} u=>by
  rcases aJ j l.length with q|q
  .exact q
  .rw[acO q]at u;cases u
 refine⟨by rw[Y,z];omega,by rw[Y,z];omega, ?_⟩;by_cases e:g.length=c
 .have ag:aaN g k=false:=by
   unfold aaN;cases hl:g.getLast? with
   |none=>rfl
   |some f=>
    have aO:g≠[]:=by rintro rfl;cases hl
    have S:0<g.length:=List.length_pos_iff.2 aO;have:g.getD (c-1) dF=f:=by
     rw[List.getLast?_eq_getElem?,e]at hl;rw[List.getD_eq_getElem?_getD,hl];rfl
    have x:=(v (c-1) (by omega)).2;rw[this]at x;have:=G (c-1) (by omega);exact decide_eq_false (by omega)
  rw[au,am e,av,ag];refine⟨by simp, ?_⟩;exact {
   len:=by rw[z,e]
   nn:=fun n o=>by rw[z]at o;rw[A n o,aI];exact h.nn n (by omega)
   frm:=fun n o=>by
    rw[z]at o;rw[A n o,U _ (h.nn n (by omega)).2];exact aw n o
   opn:=fun j u=>by
    have hl:=ay u;rw[aI]at hl;rw[U j hl]at u;obtain⟨n,o,y⟩:=ax j hl u;exact⟨n,by rw[z];exact o,by rw[A n o];exact y⟩
   lt:=fun j u=>by
    rw[aI]at u;rw[U j u,D];have:=h.lt j u;omega
   inj:=fun i j W u y=>by
    rw[aI]at W u;rw[U i W,U j u,D,D]at y;exact h.inj i j W u y
   fd:=V}
 .have az:g.length=c+1:=by omega
  have aA:g.getLast?=some (g.getD c dF):=by
   rw[List.getLast?_eq_getElem?,az,List.getD_eq_getElem?_getD,show c+1-1=c by omega,List.getElem?_eq_getElem (by omega)];rfl
  have aP:g.getLastD dF=g.getD c dF:=by rw[List.getLastD_eq_getLast?,aA];rfl
  have ah:=E (by omega);have ag:aaN g k=true:=by unfold aaN;rw[aA];exact decide_eq_true ah
  have aQ:(if c=0 then-1 else(H.take c).getD (c-1) 0)=(if g.length=1 then-1 else amq (L.map (·.2.1)) (g.getD (g.length-2) dF).2.1):=by
   by_cases c0:c=0
   .rw[am c0,am (by omega)]
   .have o:=h.nn (c-1) (by omega);rw[aq c0,aq (by omega),A _ (by omega),show g.length-2=c-1 by omega,(v (c-1) (by omega)).2,<-(h.frm (c-1) (by omega)).1,aiA h.inj o.2];omega
  have aS:(counts (g.getD c dF).1,((g.getD c dF).2.1,((0:Int),((if c=0 then-1 else(H.take c).getD (c-1) 0),(true,())))))=En g k (L.map (·.2.1)):=by
   unfold En;rw[aQ,aP,ah]
  rw[au,aq e,av,ag,aS];refine⟨by simp, ?_⟩;have Z:(L.map (ou g k)++[En g k (L.map (·.2.1))]).length=L.length+1:=by simp
  have M: ∀j,j<L.length->cO (L.map (ou g k)++[En g k (L.map (·.2.1))]) dP j=ou g k (cO L dP j):=fun j u=>by
   rw[<-U j u];unfold cO;rw[List.getD_eq_getElem?_getD,List.getD_eq_getElem?_getD,List.getElem?_append_left (by rw[aI];exact u)]
  have ab:cO (L.map (ou g k)++[En g k (L.map (·.2.1))]) dP L.length=En g k (L.map (·.2.1)):=by
   unfold cO;rw[List.getD_eq_getElem?_getD,List.getElem?_append_right (by simp)];simp
  have ai: ∀n,n<c->(H.take c++[(L.length:Int)]).getD n 0=H.getD n 0:=fun n o=>by
   rw[<-A n o,List.getD_eq_getElem?_getD,List.getD_eq_getElem?_getD,List.getElem?_append_left (by rw[z];exact o)]
  have ak:(H.take c++[(L.length:Int)]).getD c 0=L.length:=by
   rw[List.getD_eq_getElem?_getD,List.getElem?_append_right (by rw[z];omega)];simp[z]
  have X:(H.take c++[(L.length:Int)]).length=c+1:=by rw[aj,z];rfl
  have aB: ∀n,n<c+1->n<c\/n=c:=fun n o=>by omega
  have al:(En g k (L.map (·.2.1))).2.1=k:=rfl;exact {
   len:=by rw[X,az]
   nn:=fun n o=>by
    rw[X]at o;rw[Z];rcases aB n o with q|rfl
    .rw[ai n q];have:=h.nn n (by omega);omega
    .rw[ak];omega
   frm:=fun n o=>by
    rw[X]at o;rcases aB n o with q|rfl
    .rw[ai n q,M _ (h.nn n (by omega)).2];exact aw n q
    .rw[ak,Int.toNat_natCast,ab];exact⟨ah.symm,rfl⟩
   opn:=fun j u=>by
    have hl:=ay u;rw[Z]at hl;rcases aJ j L.length with q|q
    .rw[M j q]at u;obtain⟨n,o,y⟩:=ax j q u;exact⟨n,by rw[X];omega,by rw[ai n o];exact y⟩
    .exact⟨c,by rw[X];omega,by rw[ak];omega⟩
   lt:=fun j u=>by
    rw[Z]at u;rcases aJ j L.length with q|q
    .rw[M j q,D];have:=h.lt j q;omega
    .rw[show j=L.length by omega,ab,al];omega
   inj:=fun i j W u y=>by
    rw[Z]at W u;rcases aJ i L.length with q|q<;>rcases aJ j L.length with x|x
    .rw[M i q,M j x,D,D]at y;exact h.inj i j q x y
    .rw[M i q,D,show j=L.length by omega,ab,al]at y;have:=h.lt i q;omega
    .rw[M j x,D,show i=L.length by omega,ab,al]at y;have:=h.lt j x;omega
    .omega
   fd:=V}
end
section
open Bool renaming and_true → ay
open List renaming drop_eq_getElem_cons → aF, length_map → aI, eq_nil_of_length_eq_zero → aW
open Go.RowKit
def pK:bH->Int->fZ×Bool->List kJ->List kJ
 |[],_,_,L=>L
 |b::l,a,x,L=>pK l (a+1) (fQ x.1 x.2 (jD b) a) (Ju (Nr (fQ x.1 x.2 (jD b) a).1) a L)
def FQ (s:bH) (p:kJ):kJ:=if p.1=12 then(p.1,p.2.1,p.2.1+1+((prl (s.drop (p.2.1+1).toNat):Nat):Int),p.2.2.2.1,false,())else if p.2.2.2.2.1=true then(p.1,p.2.1,(s.length:Int),p.2.2.2.1,true,())else p
def dw (s:bH):List kJ:=(pK s 0 fH []).map (FQ s)
theorem aeZ (F:List DV) (a:Int) (L:List kJ):(Ju F a L).length<=L.length+1:=by
 grind [Ju]
theorem ab8 (s:fZ):(Nr s).length<=s.length:=by simp[Nr]
theorem alT {l:List DV} (h:l.length<1000000):lT l=some (l,()):=by
 grind [lT,pg,dZ,mW]
theorem alD (s:bH) (v:s.length<=100000): ∀(N:Nat) (i:Int) (x:fZ×Bool) (L:List kJ) (H:List Int),(s.length:Int)-i<N->0<=i->i<=s.length->iI x.1->(x.1.length:Int)<=i+1->Inv L H (Nr x.1) i->(L.length:Int)<=i->
  ∃g p,Gs N s (bi s) i x.2 i (lo x.1) H L=some (.inl ((s,()),(g,pK (s.drop i.toNat) i x L,(),())))/\Inv (pK (s.drop i.toNat) i x L) g p s.length/\(pK (s.drop i.toNat) i x L).length<=s.length
 |0,i,x,L,H,h,_,_,_,_,_,_=>by omega
 |N+1,i,x,L,H,h,f,D,l,hl,o,E=>by
  rw[Gs,Lh];by_cases e:i<s.length
  .obtain⟨b,hd,G⟩:=drop_at f e;have d:=good_step l x.2 (bU s i) i;have I:(lo (fQ x.1 x.2 (bU s i) i).1).length≠0:=by
    rw[mG];intro e;rw[aW e]at d;exact d.1
   obtain⟨c,q,u⟩:=YF l x.2 (bU s i) i;rw[<-Vx,<-Vx]at u;rw[<-Vx,aI]at q;obtain⟨y,z,J,K⟩:=akn o q u;obtain⟨t,M⟩:=aqc d.1;have O:=ab8 (fQ x.1 x.2 (bU s i) i).1;have S:=ab8 x.1;have U:=o.len;have V:=atC (t:=t) (L:=L) (H:=H) (F:=Nr (fQ x.1 x.2 (bU s i) i).1) (a:=i) f (by omega) (by have:=d.2;omega) (by omega) (by omega)
    (fun j A=>by
     obtain⟨n,B,W⟩:=List.getElem_of_mem A;have:=o.nn n B
     grind) y z
   have X:=aeZ (Nr (fQ x.1 x.2 (bU s i) i).1) i L;obtain⟨g,p,Y,Z,r3⟩:=alD s v N (i+1) (fQ x.1 x.2 (bU s i) i) (Ju (Nr (fQ x.1 x.2 (bU s i) i).1) i L) (VE L H (Nr (fQ x.1 x.2 (bU s i) i).1) i).2 (by omega) (by omega) (by omega) d.1 (by have:=d.2;omega) (by simp_all) (by omega);rw[bJ (eU (b:=bi s) e),bJ (dQ f e),Z9 l (by omega) x.2 (pJ s i) f (by omega),aY];simp only[pst];rw[dE (dV (by rw[bz];omega)),alT (by grind),aY]
   grind [aY,bQ,pK]
  .have ab:i=s.length:=by omega
   rw[dE (jc (b:=bi s) (by rw[bz];omega)),WN (by omega),pK]
   grind
theorem aon (s:bH) (p:s.length<=100000) (H:List Int): ∀(N i:Nat) (L:List kJ),L.length-i<N->i<=L.length->L.length<1000000->(∀j,j<L.length->0<=(cO L dP j).2.1/\(cO L dP j).2.1<s.length)->
  xJ N s (bi L) (i:Int) H L=some (.inl ((),(H,L.take i++(L.drop i).map (FQ s),(),())))
 |0,i,L,h,_,_,_=>by omega
 |N+1,i,L,h,B,hl,q=>by
  (rewrite [xJ,G8];delta dN iF dI)
  by_cases e:i<L.length
  .have D:mV (bP (i:Int)) L=true:=oJ (by assumption);have u:gm L (i:Int)=true:=dQ;have v:bP (i:Int)=i:=by simp[bP]
   have gX: ∀x,cO (gp L i x) (0,(0,(0,(0,(false,()))))) i=x:=fun x=>CE e;have y:mV i L=true:=by assumption
   have E:=q i e;have g:QA s (bV .i64 (cO L (0,(0,(0,(0,(false,()))))) i).2.1 1)=some (((prl (s.drop ((cO L dP i).2.1+1).toNat):Nat):Int),()):=by
    grind [bQ,dP,alI]
   have l:bV .i64 (bV .i64 (cO L (0,(0,(0,(0,(false,()))))) i).2.1 1) ((prl (s.drop ((cO L dP i).2.1+1).toNat):Nat):Int)=(cO L dP i).2.1+1+((prl (s.drop ((cO L dP i).2.1+1).toNat):Nat):Int):=by
    grind [aj2,dP,bQ]
   have z:bV .i64 (i:Int) 1=((i+1:Nat):Int):=by grind [bQ]
   have go: ∀x,x=FQ s (cO L dP i)->xJ N s (bi L) ((i+1:Nat):Int) H (gp L i x)=some (.inl ((),(H,L.take i++(L.drop i).map (FQ s),(),()))):=fun x G=>by
    have I:(FQ s (cO L dP i)).2.1=(cO L dP i).2.1:=by
     grind [FQ]
    have o:=aon s p H N (i+1) (gp L i x) (by rw[sW];omega) (by rw[sW];omega) (by rw[sW];exact hl) (fun j J=>by
     grind [gp,CE,Eo])
    have A:bi (gp L i x)=bi L:=by rw[bz,bz,sW]
    rw[A]at o;rw[o];congr 4;have K:(gp L i x).take (i+1)=L.take i++[x]:=by
     simp_all [gp,List.take_add_one,List.take_set_of_le]
    grind [gp,List.drop_set_of_lt,aF,ql]
   rw[bJ (eU (by rw[bz];omega))];simp only[v,u,y,acJ,gX,YV,aa,WQ,ay,z];by_cases ho:(cO L dP i).2.2.2.2.1=true
   .have f:(cO L (0,(0,(0,(0,(false,()))))) i).2.2.2.2.1=true:=ho;rw[f,aa];by_cases hm:(cO L dP i).1=12
    .have d:(cO L (0,(0,(0,(0,(false,()))))) i).1=12:=hm;rw[d,bJ (gB rfl),g,aY];simp only[l];refine go _ ?_;unfold FQ;rw[am hm,hm];rfl
    .have d: ¬(cO L (0,(0,(0,(0,(false,()))))) i).1=12:=hm;rw[dE (dV d)];refine go _ ?_;unfold FQ;rw[aq hm,am ho];rfl
   .have f:(cO L (0,(0,(0,(0,(false,()))))) i).2.2.2.2.1=false:=Bool.eq_false_iff.2 ho;rw[f,ac];by_cases hm:(cO L dP i).1=12
    .have d:(cO L (0,(0,(0,(0,(false,()))))) i).1=12:=hm;rw[d,bJ (gB rfl),g,aY];simp only[l];refine go _ ?_;unfold FQ;rw[am hm,hm];rfl
    .have d: ¬(cO L (0,(0,(0,(0,(false,()))))) i).1=12:=hm;rw[dE (dV d)];simp_all [gp,ql,FQ]
  .have M:i=L.length:=by omega
   simp_all [iy,bz]
theorem ae6:Inv [] [] (Nr fH.1) 0:={
 len:=rfl
 nn:=fun n e=>by cases e
 frm:=fun n e=>by cases e
 opn:=fun j d=>by rw[acO (by simp)]at d;cases d
 lt:=fun j d=>by cases d
 inj:=fun i j f=>by cases f
 fd:=fun m n g=>by cases g}
theorem Q4: ∀(l:bH) (a:Int) (x:fZ×Bool) (L:List kJ),0<=a->(∀p∈L,0<=p.2.1)-> ∀p∈pK l a x L,0<=p.2.1
 |[],a,x,L,f,h,p,d=>h p d
 |b::l,a,x,L,f,h,p,d=>by
  rw[pK]at d;refine Q4 l (a+1) _ _ (by omega) (fun p d=> ?_) p d;unfold Ju at d;rcases List.mem_append.1 d with e|e
  .obtain⟨q,g,rfl⟩:=List.mem_map.1 e;have:(ou (Nr (fQ x.1 x.2 (jD b) a).1) a q).2.1=q.2.1:=by
    unfold ou;split
    .split<;>rfl
    .rfl
   grind
  .split at e
   .rw[List.mem_singleton.1 e];exact f
   .cases e
theorem auF (s:bH) (d:s.length<=100000):abW s=some (dw s,()):=by
 obtain⟨f,o,g,e,h⟩:=alD s d bD 0 fH [] [] (by have:=abq (n:=s.length) (by omega);omega) (by omega) (by omega) nN (by simp[fH]) ae6 (by simp);unfold abW;rw[show([(0,(0,()))]:List mi)=lo fH.1 from rfl,show(true:Bool)=fH.2 from rfl,g,aY];simp only[dB,Int.toNat_zero,List.drop_zero]at e h ⊢;have q:=Q4 s 0 fH [] (by omega) (fun p i=>by cases i);have u:=aon s d f bD 0 (pK s 0 fH []) (abq (by omega)) (by omega) (by omega) (fun j l=>by
  refine⟨?_,e.lt j l⟩
  grind [ql])
 grind [aY,dw]
end
section
open List renaming append_assoc → ai, map_cons → au, nil_append → aO
open Go.RowKit
def MS:bH->Int->fZ×Bool->kJ->kJ
 |[],_,_,p=>p
 |b::l,a,x,p=>MS l (a+1) (fQ x.1 x.2 (jD b) a) (ou (Nr (fQ x.1 x.2 (jD b) a).1) a p)
def xm:bH->Int->fZ×Bool->List Int->List kJ
 |[],_,_,_=>[]
 |b::l,a,x,d=>
  if aaN (Nr (fQ x.1 x.2 (jD b) a).1) a=true then MS l (a+1) (fQ x.1 x.2 (jD b) a) (En (Nr (fQ x.1 x.2 (jD b) a).1) a d)::xm l (a+1) (fQ x.1 x.2 (jD b) a) (d++[a])
  else xm l (a+1) (fQ x.1 x.2 (jD b) a) d
theorem RV (F:List DV) (a:Int) (p:kJ):(ou F a p).2.1=p.2.1:=by
 unfold ou;split
 .split<;>rfl
 .rfl
theorem H8: ∀(l:bH) (a:Int) (x:fZ×Bool) (p:kJ),(MS l a x p).2.1=p.2.1
 |[],_,_,_=>rfl
 |b::l,a,x,p=>by rw[MS,H8 l,RV]
theorem aeS (s:bH) (p:kJ):(FQ s p).2.1=p.2.1:=by
 grind [FQ]
theorem Oq: ∀(l:bH) (a:Int) (x:fZ×Bool) (L:List kJ),pK l a x L=L.map (MS l a x)++xm l a x (L.map (·.2.1))
 |[],a,x,L=>by
  have:(MS [] a x)=id:=rfl;rw[pK,xm,this];simp
 |b::l,a,x,L=>by
  rw[pK,Oq l,xm];have d:L.map (MS (b::l) a x)=(L.map (ou (Nr (fQ x.1 x.2 (jD b) a).1) a)).map (MS l (a+1) (fQ x.1 x.2 (jD b) a)):=by
   rw[List.map_map];rfl
  have e:(L.map (ou (Nr (fQ x.1 x.2 (jD b) a).1) a)).map (·.2.1)=L.map (·.2.1):=by
   simp_all [RV]
  unfold Ju;rw[d];split
  .rw[List.map_append,List.map_append,e];simp only[au,List.map_nil,ai,List.cons_append,aO];rfl
  grind
theorem Ba (s:bH):dw s=(xm s 0 fH []).map (FQ s):=by
 unfold dw;rw[Oq];rfl
structure PL (x:fZ) (i:Int):Prop where
 up:(PZ x).Pairwise (· < ·)
 lt: ∀v∈PZ x,v<i
theorem alC {l:List Int} (h:l.Pairwise (· < ·)) {m n:Nat} {v:Int} (d:l[m]? =some v) (e:l[n]? =some v):m=n:=by
 grind [List.pairwise_iff_getElem]
theorem stay {s:fZ} {i v:Int} {n:Nat} (l:iI s) (h:PL s i) (f:(PZ s)[n]? =some v) (fr:Bool) (b:Int):(PZ (fQ s fr b i).1)[n]? =some v\/v∉PZ (fQ s fr b i).1:=by
 have p:=h.lt v (List.mem_of_getElem? f);obtain⟨c,q,e|e⟩:=YF l fr b i<;>rw[e]
 .by_cases hnc:n<c
  .grind
  .right;intro g;obtain⟨m,d⟩:=List.getElem?_of_mem g;rw[List.getElem?_take]at d;split at d
   .rename_i o
    have:=alC h.up d f;omega
   .cases d
 .have u:((PZ s).take c).length=c:=by simp_all
  by_cases hnc:n<c
  .grind
  .right;intro g;rcases List.mem_append.1 g with j|j
   .obtain⟨m,d⟩:=List.getElem?_of_mem j;rw[List.getElem?_take]at d;split at d
    .rename_i o
     have:=alC h.up d f;omega
    .cases d
   simp_all
theorem Nv: ∀{s:fZ},iI s-> ∀f∈s,0<=f.1/\f.1<=14
 |[],h=>by cases h
 |[f],h=>by
  intro g d;rw[List.mem_singleton.1 d];have:f.1=0:=h;omega
 |f::g::r,h=>by
  intro q e;rcases List.mem_cons.1 e with rfl|i
  .have:=h.1;have:=h.2.1;omega
  .exact Nv h.2.2.2 q i
end
section
open Go.RowKit
end
section
open List renaming mem_cons_of_mem → ak, length_drop → aQ
open Nat renaming le_refl → ae
open Go.RowKit
theorem aaG {g f:Int×Int} {r:fZ} (d:iI (f::g::r)):g.1≠13:=by
 have:=d.2.2.1
 grind [Ub]
theorem BP {m:Int} {f:Int×Int} {r:fZ} (hf:f.1=m\/m≠13/\f.1≠13) (hr: ∀g d,r=g::d->g.1≠13) (p:r=[]->m≠13) (fr:Bool) (b i:Int):
  ∀g d,(jA m (f::r) fr b i).1=g::d->g.1=13->g.2=i:=by
 intro g d h e;have j: ∀{x:Int×Int} {y:fZ},x::y=g::d->x=g:=fun h=>(List.cons.inj h).1;have q:m≠13->f::r=g::d->False:=fun l h=>by
  simp_all
 have o:r=g::d->False:=fun h=>hr g d h e;have s: ∀k,(k,i)::f::r=g::d->g.2=i:=fun k h=>by rw[<-j h]
 unfold jA at h;split at h
 .rename_i l
  have u:m≠13:=by omega
  unfold Ox at h
  grind
 .split at h
  .exact(o h).elim
  grind [Ii]
theorem ahR {s:fZ} (j:iI s) (fr:Bool) (b i:Int): ∀g∈(fQ s fr b i).1,g.1=13->g.2=i:=by
 have p: ∀g d,(fQ s fr b i).1=g::d->g.1=13->g.2=i:=by
  cases s with
  |nil=>cases j
  |cons f r=>
  intro g d h l;have D: ∀{x:Int×Int} {y:fZ},x::y=g::d->x=g:=fun h=>(List.cons.inj h).1;have hr: ∀g d,r=g::d->g.1≠13:=fun g d e=>by subst e;exact aaG j
  have A: ∀g u d,r=g::u::d->u.1≠13:=fun g u d e=>by subst e;exact aaG j.2.2.2
  have E: ∀k:Int,k≠13->(k,f.2)::r=g::d->False:=fun k hk h=>by
   grind
  simp only[fQ]at h;split at h
  .split at h
   .simp_all
   .split at h
    .grind
    .split at h
     .grind
     .cases r with
      |nil=>rename_i G _ _ _;have:f.1=0:=j;omega
      |cons q r=>
       exact BP (.inl rfl) (fun g d e=>A q g d (by rw[e])) (fun _=>by simp_all) fr b i g d h l
  .split at h
   .split at h
    .simp_all
    .exact BP (f:=(1,f.2)) (.inl rfl) hr (fun _=>by omega) fr b i g d h l
   .split at h
    .split at h
     .grind
     .exact BP (f:=(9,f.2)) (.inl rfl) hr (fun _=>by omega) fr b i g d h l
    .refine BP (.inl rfl) hr (fun e=> ?_) fr b i g d h l;subst e;have:f.1=0:=j;omega
 have v:=(good_step j fr b i).1;revert p v;generalize (fQ s fr b i).1=y;intro p v g o l;cases y with
 |nil=>cases o
 |cons f r=>
  rcases List.mem_cons.1 o with e|o
  .simp_all
  .exfalso;clear p
   induction r generalizing f with
   |nil=>cases o
   |cons q r B=>
    rcases List.mem_cons.1 o with e|z
    .grind [aaG]
    .exact B q v.2.2.2 (ak _ z) z
def PI (p:kJ) (a:Int):Prop:=0<=p.2.1/\p.2.1<a/\(p.2.2.2.2.1=true/\(p.1=13->p.2.1+1=a)\/p.2.2.2.2.1=false/\p.2.1+2<=p.2.2.1/\p.2.2.1<=a/\(p.1=13->p.2.2.1=p.2.1+2))
theorem aed {m:Int} (h:counts m=13):m=13:=by
 grind [counts]
theorem amj {s:fZ} {f:DV} (h:f∈Nr s):(f.1,f.2.1)∈s:=by
 unfold Nr at h;rw[List.mem_reverse,List.mem_map]at h;obtain⟨g,d,rfl⟩:=h
 grind [List.dropLast_sublist]
theorem aeT {F:List DV} {v m:Int} (h:Jo F v=some m): ∃f∈F,f.2.1=v/\f.1=m:=by
 unfold Jo at h;obtain⟨f,d,rfl⟩:=Option.map_eq_some_iff.1 h
 grind
theorem arc {s:fZ} (j:iI s) (fr:Bool) (b a:Int) {p:kJ} (h:PI p a):PI (ou (Nr (fQ s fr b a).1) a p) (a+1):=by
 obtain⟨g,v,l⟩:=h;unfold ou;rcases l with ⟨d,i⟩|⟨d,i,x,o⟩
 .rw[am d];split
  .rename_i m q
   refine⟨g,by simp only;omega,.inl ⟨d,fun h=> ?_⟩⟩;have y:m=13:=aed h;obtain⟨f,u,z,e⟩:=aeT q;have:=ahR j fr b a _ (amj u) (by simp only;omega);omega
  .refine⟨g,by simp only[OM];omega,.inr ⟨rfl,by simp only[OM];omega,by simp[OM],fun h=> ?_⟩⟩
   grind [OM]
 .rw[aq (by rw[d];simp)];exact⟨g,by omega,.inr ⟨d,i,by omega,o⟩⟩
theorem arb {s:fZ} (e:iI s) (fr:Bool) (b:Int) {a:Int} (d:0<=a) (l:List Int):PI (En (Nr (fQ s fr b a).1) a l) (a+1):=
 ⟨d,by simp only[En];omega,.inl ⟨rfl,fun h=>by simp only[En]⟩⟩
theorem acY: ∀(l:bH) (a:Int) (x:fZ×Bool) (p:kJ),iI x.1->PI p a->PI (MS l a x p) (a+l.length)
 |[],a,x,p,_,h=>by simpa [MS] using h
 |b::l,a,x,p,d,h=>by
  rw[MS];have:=acY l (a+1) (fQ x.1 x.2 (jD b) a) _ (good_step d _ _ _).1 (arc d x.2 (jD b) a h)
  grind
theorem Vw: ∀(l:bH) (a:Int) (x:fZ×Bool) (fr:List Int),0<=a->iI x.1-> ∀p∈xm l a x fr,PI p (a+l.length)/\a<=p.2.1
 |[],a,x,fr,_,_,p,h=>by cases h
 |b::l,a,x,fr,j,f,p,h=>by
  have g:=(good_step f x.2 (jD b) a).1;have e: ∀d,p∈xm l (a+1) (fQ x.1 x.2 (jD b) a) d->PI p (a+((b::l).length:Int))/\a<=p.2.1:=fun d i=>by
   have:=Vw l (a+1) _ d (by omega) g p i
   grind
  rw[xm]at h;split at h
  .rcases List.mem_cons.1 h with rfl|h
   .grind [acY,arb,H8,En]
   .exact e _ h
  .exact e _ h
theorem SC: ∀(l:bH) (a:Int) (x:fZ×Bool) (fr:List Int),0<=a->iI x.1->(xm l a x fr).Pairwise (fun p q=>p.2.1<q.2.1)
 |[],a,x,fr,_,_=>List.Pairwise.nil
 |b::l,a,x,fr,g,e=>by
  have d:=(good_step e x.2 (jD b) a).1;rw[xm];split
  .refine List.Pairwise.cons (fun p f=> ?_) (SC l (a+1) _ _ (by omega) d);have:=(Vw l (a+1) _ _ (by omega) d p f).2
   grind [H8,En]
  .exact SC l (a+1) _ _ (by omega) d
structure PF (s:bH) (p:kJ):Prop where
 f0:0<=p.2.1
 f1:p.2.1<s.length
 t0:p.2.1<p.2.2.1
 t1:p.2.2.1<=s.length
 op:p.2.2.2.2.1=true->p.2.2.1=s.length/\p.1≠12
 sh:p.2.2.2.2.1=false->p.1≠12->p.2.1+2<=p.2.2.1
 es:p.1=13->p.2.2.1<=p.2.1+2
 dl:p.1=12->p.2.2.1=p.2.1+1+((prl (s.drop (p.2.1+1).toNat):Nat):Int)
theorem afB (s:bH): ∀p∈dw s,PF s p:=by
 intro p i;rw[Ba]at i;obtain⟨q,o,rfl⟩:=List.mem_map.1 i;obtain⟨⟨f,d,j⟩,_⟩:=Vw s 0 fH [] (by omega) nN q o;rw[Int.zero_add]at d j;have hl:=aj2 (s.drop (q.2.1+1).toNat);rw[aQ]at hl;unfold FQ;split
 .rename_i e
  exact⟨f,d,by simp only;omega,by simp only;omega,fun h=>(by cases h),fun _ h=>absurd e h,fun h=>(by omega),fun _=>rfl⟩
 .rename_i e
  split
  .rename_i g
   refine⟨f,d,d,Int.le_refl _,fun _=>⟨rfl,e⟩,fun h=>(by cases h),fun h=> ?_,fun h=>absurd h e⟩
   grind
  .rename_i g
   rcases j with ⟨l,_⟩|⟨l,u,v,x⟩
   .exact absurd l g
   .exact⟨f,d,by omega,v,fun h=>absurd h g,fun _ _=>u,fun h=>by have:=x h;omega,fun h=>absurd h e⟩
theorem Q3 (s:bH):(dw s).Pairwise (fun p q=>p.2.1<q.2.1):=by
 grind [Ba,SC,nN,aeS]
theorem Oo (s:bH):(dw s).length<=s.length:=by
 have h: ∀(l:bH) (a:Int) (x:fZ×Bool) (d:List Int),(xm l a x d).length<=l.length:=by
  intro l
  induction l with
  |nil=>intro a x d;exact ae 0
  |cons b l e=>
   grind [xm]
 simp_all [Ba,fH]
end
section
open Nat renaming le_trans → az
open Go.RowKit
def Ac (L:List kJ) (v:Int):Option kJ:=L.find? fun p=>p.2.1==v
theorem MX {L:List kJ} {v:Int} {p:kJ} (h:Ac L v=some p):p∈L/\p.2.1=v:=
 ⟨List.mem_of_find?_eq_some h,by simpa using List.find?_some h⟩
theorem Ad {s:List UInt8} {v:Int} {p:kJ} (h:Ac (dw s) v=some p):PF s p/\p.2.1=v:=
 ⟨afB s p (MX h).1,(MX h).2⟩
def lone (p:kJ):Bool:=decide (p.1=12)&&decide (p.2.2.1=p.2.1+1)
def yj (s:bH) (p:kJ):bH:=sub s p.2.1 p.2.2.1
def Ea (p:kJ):Int:=if p.2.2.2.2.1=true then p.2.2.1 else p.2.2.1-1
def aeM (s:bH) (p:kJ):bH:=if p.2.2.1=p.2.1+2/\bU s (p.2.1+1)≠10 then sub s (p.2.1+1) p.2.2.1 else []
def aeL (s:bH) (p:kJ):bH:=if p.2.2.1=p.2.1+2 then(if bU s (p.2.1+1)=36\/bU s (p.2.1+1)=96\/bU s (p.2.1+1)=34\/bU s (p.2.1+1)=92 then sub s (p.2.1+1) p.2.2.1 else if bU s (p.2.1+1)=10 then []else yj s p)else []
def kG (s:bH) (L:List kJ) (at_:Int):Int×List UInt8×Bool:=
 match Ac L at_ with
 |none=>(at_+1,sub s at_ (at_+1),false)
 |some p=>if lone p=true then(at_+1,sub s at_ (at_+1),false)
  else if p.1=13 then(p.2.2.1,aeL s p,false)
  else(p.2.2.1,yj s p,true)
def zK (s:bH) (L:List kJ) (to_:Int):Nat->Int->bH
 |0,_=>[]
 |n+1,at_=>if at_<to_ then(kG s L at_).2.1++zK s L to_ n (kG s L at_).1 else []
def stepT (s:bH) (L:List kJ) (at_:Int):Int×List UInt8:=
 match Ac L at_ with
 |none=>(at_+1,sub s at_ (at_+1))
 |some p=>if lone p=true\/p.1=14 then(p.2.2.1,yj s p)
  else if p.1=13 then(p.2.2.1,aeM s p)
  else if p.1=4 then(p.2.2.1,sub s (p.2.1+1) (Ea p))
  else if p.1=5 then(p.2.2.1,zK s L (Ea p) s.length (p.2.1+1))
  else(p.2.2.1,yj s p)
def rQ (s:bH) (L:List kJ):Nat->Int->bH
 |0,_=>[]
 |n+1,at_=>if at_<s.length then(stepT s L at_).2++rQ s L n (stepT s L at_).1 else []
def agP (s:bH):bH:=rQ s (dw s) s.length 0
theorem Y3 {s:List UInt8} {at_:Int}:at_<(kG s (dw s) at_).1:=by
 unfold kG;split
 .simp only;omega
 .rename_i p d
  obtain⟨h,e⟩:=Ad d;have:=h.t0
  grind
theorem Y4 {s:List UInt8} {at_:Int}:at_<(stepT s (dw s) at_).1:=by
 unfold stepT;split
 .simp only;omega
 .rename_i p d
  obtain⟨h,e⟩:=Ad d;have:=h.t0
  grind
theorem akG {s:List UInt8} {at_:Int} (f:at_<s.length):(stepT s (dw s) at_).1<=s.length:=by
 unfold stepT;split
 .simp only;omega
 .rename_i p d
  obtain⟨h,e⟩:=Ad d;have:=h.t1
  grind
theorem Qo (s:bH) (to_:Int): ∀(n m:Nat) (at_:Int),to_-at_<=n->to_-at_<=m->zK s (dw s) to_ n at_=zK s (dw s) to_ m at_
 |0,0,_,_,_=>rfl
 |0,m+1,at_,h,_=>by rw[zK,zK,aq (by omega)]
 |n+1,0,at_,_,h=>by rw[zK,zK,aq (by omega)]
 |n+1,m+1,at_,d,e=>by
  rw[zK,zK];split
  .have:= @Y3 s at_;rw[Qo s to_ n m _ (by omega) (by omega)]
  .rfl
theorem L6 (s:bH): ∀(n m:Nat) (at_:Int),(s.length:Int)-at_<=n->(s.length:Int)-at_<=m->rQ s (dw s) n at_=rQ s (dw s) m at_
 |0,0,_,_,_=>rfl
 |0,m+1,at_,h,_=>by rw[rQ,rQ,aq (by omega)]
 |n+1,0,at_,_,h=>by rw[rQ,rQ,aq (by omega)]
 |n+1,m+1,at_,d,e=>by
  rw[rQ,rQ];split
  .have:= @Y4 s at_;rw[L6 s n m _ (by omega) (by omega)]
  .rfl
theorem IY {d:Type} (l:List d) (a b:Int):(sub l a b).length<=l.length:=by
 grind [sub]
theorem Ru (s:bH) (L:List kJ) (at_:Int):(kG s L at_).2.1.length<=s.length:=by
 unfold kG;split
 .exact IY s _ _
 .split
  .exact IY s _ _
  .split
   .simp only;unfold aeL yj
    repeat' split
    all_goals simp_all [IY]
   .exact IY s _ _
theorem WM (s:bH) (L:List kJ) (to_:Int): ∀(n:Nat) (at_:Int),(zK s L to_ n at_).length<=n*s.length
 |0,_=>by simp[zK]
 |n+1,at_=>by
  rw[zK];split
  .have:=Ru s L at_;have:=WM s L to_ n (kG s L at_).1
   grind
  simp
theorem afM (s:bH) (L:List kJ) (at_:Int):(stepT s L at_).2.length<=s.length*s.length+s.length:=by
 have h: ∀a b,(sub s a b).length<=s.length*s.length+s.length:=fun a b=>az (IY s a b) (Nat.le_add_left _ _);unfold stepT;split
 .exact h _ _
 .split
  .exact h _ _
  .split
   .simp only;unfold aeM
    grind
   .split
    .exact h _ _
    .split
     .exact az (WM _ _ _ _ _) (Nat.le_add_right _ _)
     .exact h _ _
end
section
open Option renaming some → a6, none → a7
open Bool renaming false_eq_true → ag, not_true → ax
open List renaming length_append → aj, drop_eq_getElem_cons → aF, getElem_mem → aG, length_map → aI, length_drop → aQ, drop_of_length_le → aU
open Nat renaming le_refl → ae, lt_or_ge → aJ
open Go.RowKit
def ui (b:Int):Bool:=decide (b=32)||decide (b=9)
def Dx (b:Int):Bool:=decide (b=124)||decide (b=38)||decide (b=59)||decide (b=60)||decide (b=62)||decide (b=40)||decide (b=41)
theorem aqK: ∀n:Fin 256,(match Nh ((n.val:Nat):Int)with|some (k,_)=>(bC k 1==ui ((n.val:Nat):Int))&&(bC k 3==Dx ((n.val:Nat):Int))|none=>false)=true:=by decide+kernel
theorem ank {b:Int} (h:isByte b): ∃k,Nh b=a6 (k,())/\bC k 1=ui b/\bC k 3=Dx b:=by
 obtain⟨n,rfl⟩:=WA h;have:=aqK n
 grind
def QY:List bH:=[[38,38],[124,124],[59,59],[60,60],[60,60,45],[62,62],[60,38],[62,38],[60,62],[62,124],[60],[62],[38],[59],[124],[40],[41]]
def ofF (u:bH):Nat:=match QY.findIdx? (· ==u)with
 |some j=>j+1
 |none=>0
theorem alv: ∀n:Fin 18,n.val≠0->abQ ((n.val:Nat):Int)=a6 (QY.getD (n.val-1) [],()):=by decide+kernel
theorem Tq {d:Type} (p:d->Bool) (l:List d) {k:Nat} (h:k<l.length):(l.drop k).findIdx? p=if p l[k]=true then a6 0 else((l.drop (k+1)).findIdx? p).map (· +1):=by
 grind [aF]
theorem QU (u:bH): ∀(d N k:Nat),k+d=17->d<N->
  yR N u ((k+1:Nat):Int)=a6 (match(QY.drop k).findIdx? (· ==u)with
   |some j=>.inr ((((k+j+1:Nat):Int),()),())
   |none=>.inl ((),()))
 |d,0,k,_,h=>by omega
 |0,N+1,k,h,_=>by
  have hk:k=17:=by omega
  subst hk;rfl
 |d+1,N+1,k,h,i=>by
  have hk:k<QY.length:=by show k<17;omega
  have f:=alv ⟨k+1,by omega⟩ (by simp);simp only[Nat.add_sub_cancel]at f;rw[yR,G6,bJ (qX),f,aY,Tq _ _ hk];have g:QY.getD k []=QY[k]:=by simp_all
  simp only[g,iG];by_cases e:(QY[k]==u)=true
  .rw[e];simp
  .rw[Bool.not_eq_true]at e;rw[e,bQ,show((k+1:Nat):Int)+1=((k+1+1:Nat):Int) by omega];simp only[ac];rw[QU u d N (k+1) (by omega) (by omega)]
   grind
theorem aqJ (u:bH) (h:ofF u≠0):u∈QY:=by
 unfold ofF at h
 grind
theorem ajI (u:bH):Jp u=a6 (((ofF u:Nat):Int),()):=by
 rw[Jp];by_cases e:u=[]
 .subst e;rfl
 .rw[dE (by grind [iG])];have h:=QU u 17 bD 0 rfl (dC)
  grind [aY,ofF,dB]
def Qk (t:bH):Nat->Nat×Nat
 |0=>(0,0)
 |n+1=>if ofF (t.take (n+1))≠0 then(ofF (t.take (n+1)),n+1)else Qk t n
theorem CY (s:bH) (a n:Nat):sub s (a:Int) ((a+n:Nat):Int)=(s.drop a).take n:=by
 grind [sub,List.drop_take]
theorem Wv (s:bH) (d:s.length<1000000) (a:Nat): ∀(n N:Nat),n<N->a+n<=s.length->
  Gj N s (a:Int) 0 (n:Int)=a6 (.inl (((((Qk (s.drop a) n).1:Nat):Int),(((Qk (s.drop a) n).2:Nat):Int),()),()))
 |n,0,h,_=>by omega
 |0,N+1,_,_=>by
  rfl
 |n+1,N+1,h,f=>by
  rw[Gj,KY,bJ (eU),bQ,show(a:Int)+((n+1:Nat):Int)=((a+(n+1):Nat):Int) by omega,
   bJ (gZ (by omega) (by omega) (by rw[bz];omega)),CY,ajI,aY,Qk]
  by_cases e:ofF ((s.drop a).take (n+1))=0
  .rw[e];simp only[show(!bC ((0:Nat):Int) 0)=false from rfl,ac,ne_eq,not_true_eq_false,if_false];rw[iq,show((n+1:Nat):Int)-1=(n:Int) by omega];exact Wv s d a n N (by omega) (by omega)
  simp_all [dV]
def Pv (t:bH):Nat×Nat:=Qk t (min 3 t.length)
theorem anG {c:UInt8} {t:List UInt8} (h:c::t∈QY):Dx (c.toNat:Int)=true:=by
 have: ∀u∈QY,(match u with|c::_=>Dx (c.toNat:Int)|[]=>true)=true:=by decide
 exact this _ h
theorem abp {c:UInt8} {t:List UInt8} (h:Dx (c.toNat:Int)=false): ∀n,Qk (c::t) n=(0,0)
 |0=>rfl
 |n+1=>by
  rw[Qk,aq,abp h n]
  grind [anG,aqJ]
theorem auB {s:List UInt8} (e:s.length<1000000) {a:Nat} (d:a<s.length):abI s a=a6 ((((Pv (s.drop a)).1:Nat):Int),((((Pv (s.drop a)).2:Nat):Int),())):=by
 rw[abI,dE (jc),dE (XW (by rw[bz];omega)),bJ (dQ)];obtain⟨k,f,_,g⟩:=ank (pJ s a);rw[f,aY];simp only[g];have hd:=aF d;rw[byte_at d];cases hm:Dx (s[a].toNat:Int)with
 |false=>
  grind [Pv,abp]
 |true=>
  simp only[ax,ac];have h:Ej 3 (eY .i64 (bi s) (a:Int))=((min 3 (s.drop a).length:Nat):Int):=by
   grind [bz,iq,Ej]
  rw[h,Wv s e a _ bD (dC) (by grind),aY];rfl
theorem acR (t:bH):(Pv t).2<=t.length/\((Pv t).2=0↔(Pv t).1=0)/\(Pv t).1<=17:=by
 have h: ∀n,(Qk t n).2<=n/\((Qk t n).2=0↔(Qk t n).1=0)/\(Qk t n).1<=17:=by
  intro n
  induction n with
  |zero=>exact⟨ae _,Iff.rfl,by simp[Qk]⟩
  |succ n f=>
   rw[Qk];split
   .rename_i e
    refine⟨ae _,⟨fun h=>absurd h (by simp),fun h=>absurd h e⟩, ?_⟩;unfold ofF;split
    .rename_i j d
     have:=(List.findIdx?_eq_some_iff_getElem.1 d).1
     assumption
    omega
   omega
 grind [Pv]
theorem aiz (c:UInt8): ∀l:bH,Lib.indexByte l c=if(l.takeWhile (· !=c)).length<l.length then(((l.takeWhile (· !=c)).length:Nat):Int)else-1
 |[]=>rfl
 |b::l=>by
  unfold Lib.indexByte;rw[aiz c l];by_cases e:b=c
  .subst e;simp
  .have d:(b==c)=false:=by simpa using e
   have f:(b !=c)=true:=by simpa using e
   have g:(b::l).takeWhile (fun x=>x !=c)=b::l.takeWhile (fun x=>x !=c):=by simp_all
   grind
def jf (s:bH) (a:Nat):Nat:=a+((s.drop a).takeWhile (· !=10)).length
theorem F7 (s:bH) (a:Nat):a<=jf s a:=Nat.le_add_right _ _
theorem F8 {s:List UInt8} {a:Nat} (h:a<=s.length):jf s a<=s.length:=by
 grind [Hq,jf]
theorem ajf {s:List UInt8} (g:s.length<1000000) {a:Nat} (d:a<=s.length):Xd s a=a6 (((jf s a:Nat):Int),(decide (jf s a<s.length),())):=by
 have i:=F8 d;have j:=F7 s a;rw[Xd,bJ (gZ (by omega) (by rw[bz];omega) (by omega)),Xg,abR,aY,aY];have e:sub s (a:Int) (bi s)=s.drop a:=by simp[sub,bz]
 have f:ibW (sub s (a:Int) (bi s)) 10=if jf s a<s.length then((jf s a-a:Nat):Int)else-1:=by
  rw[e];unfold ibW;rw[show(10:Int).toNat.toUInt8=10 from rfl,aiz,aQ];unfold jf at*;omega
 rw[f];by_cases h:jf s a<s.length
 .rw[am h,bJ (qX),bQ,decide_eq_true h];congr 2;omega
 .rw[aq h,dE (XW (by omega)),decide_eq_false h,bz];congr 2;omega
def zJ:bH->Nat
 |[]=>0
 |[c]=>if ui (c.toNat:Int)=true then 1 else 0
 |c::d::t=>if ui (c.toNat:Int)=true then zJ (d::t)+1 else if c=92/\d=10 then zJ t+2 else 0
theorem SB: ∀t:bH,zJ t<=t.length
 |[]=>ae _
 |[c]=>by grind [zJ]
 |c::d::t=>by
  have e:=SB (d::t);have f:=SB t
  grind [zJ]
def Jk (t:bH):Bool:=match t with
 |c::d::_=>decide (c=92)&&decide (d=10)
 |_=>false
theorem apX (t:bH):abL t [92,10]=a6 (Jk t,()):=by
 rw[abL,aig];cases t with
 |nil=>rfl
 |cons c t=>
  cases t with
  |nil=>rfl
  |cons d t=>
   have e:leI (bi [(92:UInt8),10]) (bi (c::d::t))=true:=qX (by grind [bz]);have f:gy (bi (c::d::t)) 0 (bi [(92:UInt8),10])=true:=gZ (by omega) (by rw[bz];simp) (by grind [bz]);simp_all [sub,bz,aY,Jk,iG,Bool.beq_eq_decide_eq]
theorem ahh {s:List UInt8} {a:Nat} (d:a<=s.length):Xb s a=a6 (Jk (s.drop a),()):=by
 rw[Xb,bJ (gZ (by omega) (by rw[bz];omega) (by omega)),show sub s (a:Int) (bi s)=s.drop a by simp[sub,bz],apX,aY]
theorem Mc {c:UInt8} {t:List UInt8}:zJ (c::t)=if ui (c.toNat:Int)=true then zJ t+1 else if Jk (c::t)=true then zJ (t.drop 1)+2 else 0:=by
 cases t with
 |nil=>rfl
 |cons d t=>rw[zJ];simp[Jk]
theorem D7 {s:List UInt8} (d:s.length<1000000): ∀(N a:Nat),s.length-a<N->a<=s.length->
  ∃o,Gl N s (a:Int)=a6 o/\dB o (fun f=>a6 (f.1.1,())) (fun g=>a6 (g.1.1,()))=a6 ((((a+zJ (s.drop a):Nat):Int)),())
 |0,a,h,_=>by omega
 |N+1,a,h,u=>by
  rw[Gl,KZ];by_cases e:a<s.length
  .obtain⟨k,i,j,_⟩:=ank (pJ s a);have hd:=aF e;rw[bJ (eU (by rw[bz];omega)),bJ (dQ),i,aY];simp only[j];rw[byte_at e,hd,Mc];by_cases hb:ui (s[a].toNat:Int)=true
   .rw[hb,aa,am rfl,bQ,show(a:Int)+1=((a+1:Nat):Int) by omega];obtain⟨o,l,p⟩:=D7 d N (a+1) (by omega) (by omega)
    grind
   .rw[Bool.not_eq_true]at hb;rw[hb,ac,aq (by simp),ahh (by omega),aY,hd];cases hc:Jk (s[a]::s.drop (a+1))with
    |true=>
     have v:a+2<=s.length:=by
      rw[<-hd]at hc;rcases aJ s.length (a+2)with hl|hl
      .have:(s.drop a).length=1:=by grind
       obtain⟨x,q⟩:=List.length_eq_one_iff.1 this;rw[q]at hc;cases hc
      .exact hl
     simp only[aa,if_true];rw[bQ,show(a:Int)+2=((a+2:Nat):Int) by omega,List.drop_drop,show a+1+1=a+2 from rfl];obtain⟨o,l,p⟩:=D7 d N (a+2) (by omega) (by omega)
     grind
    |false=>
     simp only[ac,ag,if_false,Nat.add_zero];exact⟨_,rfl,rfl⟩
  .rw[dE (iy (by rw[bz];omega)),aU (by omega)];exact⟨_,rfl,rfl⟩
theorem alO {s:List UInt8} (d:s.length<1000000) {a:Nat} (e:a<=s.length):Xc s a=a6 ((((a+zJ (s.drop a):Nat):Int)),()):=by
 rw[Xc];obtain⟨o,f,g⟩:=D7 d bD a (dC) e
 grind [aY]
def Un (t:bH):Nat:=if o5 t≠0/\(t.drop (o5 t)).head?=a6 60\/o5 t≠0/\(t.drop (o5 t)).head?=a6 62 then o5 t else 0
theorem ac6 (t:bH):o5 t<=t.length:=Hq _ _
theorem ajH {s:List UInt8} (g:s.length<1000000) {a:Nat} (d:a<=s.length):Xe s a=a6 ((((a+Un (s.drop a):Nat):Int)),()):=by
 have e:=ac6 (s.drop a);rw[aQ]at e;rw[Xe,Wn (s:=s) (by omega) d,aY];simp only;rw[bQ,show(a:Int)+((o5 (s.drop a):Nat):Int)=((a+o5 (s.drop a):Nat):Int) by omega];unfold Un;by_cases h0:o5 (s.drop a)=0
 .simp_all [jc]
 .rw[bJ (eU)];by_cases h1:a+o5 (s.drop a)<s.length
  .have hd:((s.drop a).drop (o5 (s.drop a))).head?=a6 s[a+o5 (s.drop a)]:=by
    simp
   rw[bJ (eU (by rw[bz];omega)),bJ (dQ),byte_at h1,hd];by_cases e1:s[a+o5 (s.drop a)]=60
   .rw[e1,am (.inl ⟨h0,rfl⟩)];rfl
   .have f:((s[a+o5 (s.drop a)].toNat:Nat):Int)≠60:=fun h=>e1 (UInt8.toNat_inj.1 (by grind));rw[dE (dV f),bJ (dQ)];by_cases e2:s[a+o5 (s.drop a)]=62
    .rw[e2,am (.inr ⟨h0,rfl⟩)];rfl
    .have i:((s[a+o5 (s.drop a)].toNat:Nat):Int)≠62:=fun h=>e2 (UInt8.toNat_inj.1 (by grind));simp_all [dV]
  .have hd:((s.drop a).drop (o5 (s.drop a))).head?=a7:=by
    simp_all
   rw[dE (jc (by rw[bz];omega)),hd,aq (by simp)];simp
theorem ZF: ∀n:Fin 15,(match abO ((n.val:Nat):Int)with|some (t,_)=>(t==([]:bH))==(decide (n.val=0)||decide (n.val=12))&&decide (t.length<=2)|none=>false)=true:=by decide+kernel
theorem ahf {m:Int} (d:0<=m) (e:m<=14): ∃t,abO m=a6 (t,())/\(t=[]↔m=0\/m=12)/\t.length<=2:=by
 have:=ZF ⟨m.toNat,by omega⟩
 grind
def YX (s:fZ):Bool:=s.all fun f=>decide (f.1=0)||decide (f.1=12)
theorem Ff (F:List DV) (hF:F.length<1000000) (d: ∀f∈F,0<=f.1/\f.1<=14): ∀(N k:Nat) (a b:bH) (t:List Int),k<N->k<=F.length->t.length<=2*(F.length-k)->
  ∃t',nZ N ((k:Int)-1) a b F t=a6 (.inl ((),((a,()),(),(),()),((b,()),(F,()),(),t',())))/\(t'=[]↔t=[]/\ ∀f∈F.take k,f.1=0\/f.1=12)
 |0,k,a,b,t,h,_,_=>by omega
 |N+1,0,a,b,t,h,_,_=>by
  rw[nZ,rE];refine⟨t,rfl, ?_⟩;simp
 |N+1,k+1,a,b,t,h,hk,q=>by
  rw[nZ,rE];have e:k<F.length:=by omega
  have i:bT F (0,(0,())) (k:Int)=F[k]:=by
   simp_all [bT]
  have g:=d F[k] (aG e);obtain⟨c,j,s,u⟩:=ahf g.1 g.2;have l:dZ (bI t (bF c)) 1=true:=by
   simp only[dZ,bI,bF,aj,aI,decide_eq_true_eq,mW];omega
  rw[show((k+1:Nat):Int)-1=(k:Int) by omega,bJ (qX),bJ (dQ),i,j,aY];simp only[l,fB,aa];rw[iq];obtain⟨t',o,p⟩:=Ff F hF d N k a b (bI t (bF c)) (by omega) (by omega) (by grind [bI,bF]);refine⟨t',o, ?_⟩;rw[p,List.take_add_one,List.getElem?_eq_getElem e];have:bI t (bF c)=[]↔t=[]/\(F[k].1=0\/F[k].1=12):=by
   simp_all [bI,bF]
  rw[this];simp only[Option.toList_some,List.mem_append,List.mem_singleton]
  grind
theorem ad2 (w:bH) (o:w.length<=100000): ∃t,abJ w=a6 (t,())/\(!iG t [])= !YX (uD w 0 fH).1:=by
 have j:=Nw w 0 fH nN;have hl:fH.1.length=1:=rfl;have s:=Nv j.1;rw[abJ,asj w o,aY];obtain⟨l,p,d⟩:=Ff (lo (uD w 0 fH).1) (by rw[mG];omega) (fun f i=>by
  unfold lo at i
  grind) bD (lo (uD w 0 fH).1).length [] [] [] (dC (by rw[mG];omega)) (ae _) (by simp)
 simp only;rw[bz,iq (by rw[mG];omega) (by rw[mG];omega),p,aY];refine⟨_,rfl, ?_⟩;congr 1;simp only;rw[List.take_length]at d;have q:(∀f∈lo (uD w 0 fH).1,f.1=0\/f.1=12)↔YX (uD w 0 fH).1=true:=by
  unfold YX lo;simp only[List.mem_reverse,List.mem_map,List.all_eq_true,Bool.or_eq_true,decide_eq_true_eq];exact⟨fun h f i=>h _ ⟨f,i,rfl⟩,fun h f ⟨g,j,e⟩=>by grind⟩
 rw[q]at d;unfold iG;cases hs:YX (uD w 0 fH).1 with
 |true=>rw[d.2 ⟨rfl,hs⟩];rfl
 |false=>
  have:l≠[]:=fun e=>by simp_all
  cases l with
  |nil=>simp_all
  |cons x y=>rfl
def F9 (s:bH) (d:Bool) (a:Nat):bH:=if d=true then((s.take (jf s a)).drop a).dropWhile (· ==9)else(s.take (jf s a)).drop a
def oL (s:bH) (a:Nat):Nat:=if jf s a<s.length then jf s a+1 else jf s a
def rY (s w:bH) (d:Bool):Nat->Nat->Nat×Bool
 |0,a=>(a,false)
 |n+1,a=>if a<s.length then(if F9 s d a=w then(oL s a,true)else rY s w d n (oL s a))else(a,false)
theorem Yg {s:List UInt8} {a:Nat} (h:a<s.length):a<oL s a/\oL s a<=s.length:=by
 grind [F7,F8,oL]
theorem Pg: ∀(l:bH) (N:Nat),l.length<N->Gq N l 9=a6 (.inl ((l.dropWhile (· ==9),()),()))
 |l,0,h=>by omega
 |[],N+1,_=>by rfl
 |c::l,N+1,h=>by
  rw[Gq,Ld,bJ (eU (by simp_all [bz])),bJ (dQ (by omega) (by simp)),show bU (c::l) 0=(c.toNat:Int) from rfl];by_cases e:c=9
  .subst e;rw[show bC (((9:UInt8).toNat:Nat):Int) 9=true from rfl,aa,bJ (gZ (by omega) (by grind [bz]) (by omega))];rw[show sub ((9:UInt8)::l) 1 (bi ((9:UInt8)::l))=l by simp[sub,bz],Pg l N (by simp at h;omega)];simp
  .rw[dE (dV (fun h=>e (UInt8.toNat_inj.1 (by grind)))),List.dropWhile_cons_of_neg (by simpa using e)]
theorem an7 (l:bH) (hl:l.length<1000000):abV l 9=a6 (l.dropWhile (· ==9),()):=by
 rw[abV,Pg l bD (dC),aY];rfl
theorem QE {s w:List UInt8} (f:s.length<1000000) (d:Bool): ∀(N a:Nat),s.length-a<N->a<=s.length->
  yQ N s (a:Int) w d=a6 (if(rY s w d N a).2=true then .inr (((((rY s w d N a).1:Nat):Int),true,()),())else .inl (((((rY s w d N a).1:Nat):Int),()),()))
 |0,a,h,_=>by omega
 |N+1,a,h,p=>by
  (rewrite [yQ,KX];delta xW;rw[rY])
  by_cases e:a<s.length
  .have q:=F7 s a;have u:=F8 (s:=s) (a:=a) (by omega);have v:=Yg e;have y:=QE (w:=w) f d N (oL s a) (by omega) (by omega);have i:sub s (a:Int) ((jf s a:Nat):Int)=(s.take (jf s a)).drop a:=by simp[sub]
   have g: ∀(x:bH),x=F9 s d a->
     (bif decide (jf s a<s.length)then
      bif iG x w then(a6 (.inr ((bV .i64 ((jf s a:Nat):Int) 1,true,()),())):Option (KN.den⊕KO.den))
      else yQ N s (bV .i64 ((jf s a:Nat):Int) 1) w d
     else bif iG x w then a6 (.inr ((((jf s a:Nat):Int),true,()),()))
      else yQ N s ((jf s a:Nat):Int) w d)=
     a6 (if(if F9 s d a=w then(oL s a,true)else rY s w d N (oL s a)).2=true
      then .inr (((((if F9 s d a=w then(oL s a,true)else rY s w d N (oL s a)).1:Nat):Int),true,()),())
      else .inl (((((if F9 s d a=w then(oL s a,true)else rY s w d N (oL s a)).1:Nat):Int),()),())):=by
    intro x j;subst j;have l:iG (F9 s d a) w=decide (F9 s d a=w):=by
     grind [iG]
    rw[l];by_cases hl:jf s a<s.length
    .have o:oL s a=jf s a+1:=by simp_all [oL]
     rw[decide_eq_true hl,aa,bQ,show((jf s a:Nat):Int)+1=((oL s a:Nat):Int) by omega]
     grind
    .have o:oL s a=jf s a:=by simp_all [oL]
     grind
   rw[bJ (eU (by rw[bz];omega)),ajf f (by omega),aY,am e];simp only;rw[bJ (gZ (by omega) (by omega) (by rw[bz];omega)),i];cases d with
   |false=>simp_all [F9]
   |true=>
    simp only[aa];by_cases e0:(s.take (jf s a)).drop a=[]
    .rw[e0,show iG ([]:bH) []=true from rfl,aa];exact g _ (by rw[F9,am rfl,e0];rfl)
    .rw[dE (by simp_all [iG])];refine(dE (by rfl)).trans ?_;refine(bJ (by rfl)).trans ?_;refine(bJ (by rfl)).trans ?_;refine(bJ (by rfl)).trans ?_;refine(bJ (by rfl)).trans ?_;rw[show bU [9] 0=9 from rfl];rw[an7 _ (by grind),aY];exact g _ (by rfl)
  simp_all [iy,bz,aq]
def Jv (s w:bH) (d:Bool) (a:Nat):Nat×Bool:=rY s w d bD a
theorem apY {s:List UInt8} (e:s.length<1000000) (d:bH×Bool×Unit) {a:Nat} (f:a<=s.length):abH s a d=a6 ((((Jv s d.1 d.2.1 a).1:Nat):Int),((Jv s d.1 d.2.1 a).2,())):=by
 rw[abH,QE e d.2.1 bD a (dC) f,aY];unfold Jv;cases h:(rY s d.1 d.2.1 bD a).2 with
 |true=>simp[dB]
 |false=>simp[dB]
end
end Go.Proofs.YtlhpdcadgbjhiaaGreatDoor
