/- Parts of the proof, joined and shortened by a program: the plain machine, the functions as it prints them, and the mathematics over them. -/
import Derived.ChangeArms
import Derived.WideShapes
import Derived.Test.YtfmikaahgehndaaGreatDoorProg
import Derived.Shelf.Strings.Builder1
import Derived.Test.YtfmikaahgehndaaGreatDoorV2
set_option linter.unusedVariables false
set_option linter.unusedSimpArgs false
set_option maxRecDepth 100000
set_option maxHeartbeats 4000000
namespace Go.Proofs.YtfmikaahgehndaaGreatDoor
section
open List renaming mem_cons_of_mem → aj, mem_cons_self → aG
open Nat renaming eq_of_beq_eq_true → ak
open Go.RowKit
def aqn:List (FuncId×Sum)->FuncId->Option Sum
 |[],_=>none
 |e::l,g=>bif Nat.beq g e.1 then some e.2 else aqn l g
theorem YX {P:Program}: ∀(l:List (FuncId×Sum)),(∀e∈l,dU P e.1 e.2)-> ∀g s,aqn l g=some s->dU P g s
 |[],_,g,s,h=>by cases h
 |e::l,hl,g,s,h=>by
  simp only[aqn]at h;rw[cond_eq_ite]at h;split at h
  ·simp_all
  ·exact YX l (fun e he=>hl e (aj _ he)) g s h
def aD6 (f:FuncId) (l:List (Nat×dM)) (g:FuncId) (id:Nat):Option dM:=
 bif Nat.beq g f then(l.find? fun e=>Nat.beq id e.1).map (·.2)else none
def azC (f:FuncId) (l:List (Nat×dC)) (g:FuncId) (id:Nat):Option dC:=
 bif Nat.beq g f then(match l.find? fun e=>Nat.beq id e.1 with|some e=>some e.2|none=>none)else none
theorem aex {f g:FuncId} (l:List (Nat×dC)) (h:g≠f) (id:Nat):azC f l g id=none:=by
 grind [ak,azC]
def aA8:FuncId:=110
def Gq (g:FuncId):Bool:=Nat.beq g aA8&& !Nat.beq aA8 1000000
def aqk:List (FuncId×gY)->FuncId->Option gY
 |[],_=>none
 |e::l,g=>bif Nat.beq g e.1 then some e.2 else aqk l g
theorem YT {P:Program}: ∀(l:List (FuncId×gY)),(∀e∈l,eX P e.1 e.2)-> ∀g s,aqk l g=some s->eX P g s
 |[],_,g,s,h=>by cases h
 |e::l,hl,g,s,h=>by
  simp only[aqk]at h;cases hb:Nat.beq g e.1 with
  |true=>
   simp_all
  |false=>
   rw[hb]at h;exact YT l (fun e he=>hl e (aj _ he)) g s h
def fZ (P:Program) (T:TT) (f:FuncId) (sg:List (FuncId×Sum)) (kp:List (Nat×dM)) (lp:List (Nat×dC)) (sb:List (FuncId×gY):=[]):Env:=
 {P:=P,T:=T,cl:=false,kp:=aD6 f kp,sg:=aqn sg,lp:=azC f lp,bf:=Gq,sb:=aqk sb}
theorem anK {P:Program} {T:TT} (hT:TOk P T) (hm:P.follows .mixedOrders=true) (hng:IK P) {f:FuncId} {sg:List (FuncId×Sum)} {kp:List (Nat×dM)} {lp:List (Nat×dC)} {sb:List (FuncId×gY)}
  (hs: ∀e∈sg,dU P e.1 e.2) {fn:Func} {c:Code} (hf:P.funcs[f]? =some fn) (hb:fn.body=some c) (hl:dO (fZ P T f sg kp lp sb) f c) (hrf: ∀E,rO P E->ac9 E) (hB: ∀g,Gq g=true->Au P g) (hx: ∀e∈sb,eX P e.1 e.2:=by simp):dB (fZ P T f sg kp lp sb):=by
 have hL:rO P (fZ P T f sg kp lp sb):= ?_;exact⟨hT,hm,hng,YX sg hs,hL,hrf _ hL,hB,YT sb hx⟩;intro g fn' c' h1 h2;by_cases e:g=f
 ·simp_all
 ·exact ja (fun id=>aex lp e id) (fun _=>rfl) c'
def aCn (l:List (FuncId×Nat×dM)) (g:FuncId) (id:Nat):Option dM:=match l.find? fun e=>Nat.beq g e.1&&Nat.beq id e.2.1 with
 |some e=>some e.2.2
 |none=>none
def agF:List (FuncId×Nat×dC)->FuncId->Nat->Option dC
 |[],_,_=>none
 |e::l,g,id=>bif Nat.beq g e.1&&Nat.beq id e.2.1 then some e.2.2 else agF l g id
theorem QE: ∀(l:List (FuncId×Nat×dC)) (g:FuncId),(∀e∈l,e.1≠g)-> ∀id,agF l g id=none
 |[],g,_,id=>rfl
 |e::l,g,h,id=>by
  have hb:Nat.beq g e.1=false:=by
   grind [ak]
  simp only[agF,hb,Bool.false_and,cond_false];exact QE l g (fun e he=>h e (aj _ he)) id
def eu (P:Program) (T:TT) (sg:List (FuncId×Sum)) (kp:List (FuncId×Nat×dM)) (lp:List (FuncId×Nat×dC)) (rf:List FuncId) (sb:List (FuncId×gY):=[]):Env:=
 {P:=P,T:=T,cl:=false,kp:=aCn kp,sg:=aqn sg,lp:=agF lp,rf:=fun g _=>rf.any fun x=>Nat.beq g x,bf:=Gq,sb:=aqk sb}
theorem aj1 {P:Program} {T:TT} (hT:TOk P T) (hm:P.follows .mixedOrders=true) (hng:IK P) {sg:List (FuncId×Sum)} {kp:List (FuncId×Nat×dM)} {lp:List (FuncId×Nat×dC)}
  {rf:List FuncId} {sb:List (FuncId×gY)} (hs: ∀e∈sg,dU P e.1 e.2) (fs:List FuncId) (hall:(lp.all fun e=>fs.any fun g=>Nat.beq e.1 g)=true) (hall2:(rf.all fun e=>fs.any fun g=>Nat.beq e g)=true) (hl: ∀g∈fs,∃fn c,P.funcs[g]? =some fn/\fn.body=some c/\dO (eu P T sg kp lp rf sb) g c)
  (hrf: ∀E,rO P E->ac9 E) (hB: ∀g,Gq g=true->Au P g) (hx: ∀e∈sb,eX P e.1 e.2:=by simp):dB (eu P T sg kp lp rf sb):=by
 have hL:rO P (eu P T sg kp lp rf sb):= ?_;exact⟨hT,hm,hng,YX sg hs,hL,hrf _ hL,hB,YT sb hx⟩;intro g fn' c' h1 h2;by_cases e:g∈fs
 ·grind
 ·refine ja (fun id=>QE lp g (fun x hx hxe=>e ?_) id) (fun _=> ?_) c'
  ·grind [ak]
  ·cases hr:rf.any fun x=>Nat.beq g x with
   |false=>exact hr
   |true=>
    simp_all
def bT {α:Type} (a b:List α):List α:=a++b
def dA (i:Int):Nat:=i.toNat
def dI {α:Type} (l:List α) (d:α) (i:Nat):α:=l.getD i d
def takeN {α:Type} (l:List α) (n:Nat):List α:=l.take n
def aCZ {α:Type} (n:Nat) (x:α):List α:=List.replicate n x
def kC (a b:List UInt8):Bool:=decide (a.length+b.length<=ni)
def qi {α:Type} (i:Nat) (l:List α):Bool:=NZ i l.length
def ap2 (c:Int) (n:Nat):Bool:=decide (c.toNat*n<=ni)
def Oc (a b:Bool):Bool:=a==b
def PW (t:Ty) (x y:List t.den):Bool:=wB (WB t) x y
def ibW (s:List UInt8) (c:Int):Int:=Lib.indexByte s c.toNat.toUInt8
def cA:Code->Code
 |.seq a _=>a
 |.block _ c=>c
 |.loop c=>c
 |.scope c=>c
 |.cond _ a _=>a
 |.rangeFunc _ _ a _=>a
 |c=>c
def cB:Code->Code
 |.seq _ b=>b
 |.cond _ _ b=>b
 |.rangeFunc _ _ _ b=>b
 |c=>c
def jf:Code->List Code
 |.seq a b=>jf a++jf b
 |.cond _ a b=>jf a++jf b
 |.block _ c=>jf c
 |.scope c=>jf c
 |.loop c=>jf c++[c]
 |.rangeFunc _ _ a b=>jf a++jf b
 |_=>[]
def jA:Code->List (Code×Code)
 |.seq a b=>jA a++jA b
 |.cond _ a b=>jA a++jA b
 |.block _ c=>jA c
 |.scope c=>jA c
 |.loop c=>jA c
 |.rangeFunc _ _ a b=>(a,b)::(jA a++jA b)
 |_=>[]
def pz:Code->List Code
 |.seq a b=>pz a++(b::pz b)
 |.cond _ a b=>pz a++pz b
 |.block _ c=>pz c
 |.scope c=>pz c
 |.loop c=>pz c
 |.rangeFunc _ _ a b=>pz a++pz b
 |_=>[]
def Xw (E:Env) (f:FuncId) (c:Code):Bool:=(pz c).all fun d=>(E.lp f (800000+cZ d)).isNone
theorem jQ {R:Type} {E:Env} {x:mP R} {xd:VW} {f:FuncId}: ∀c:Code,(∀x∈jA c,E.rf f (cZ x.2)=true->qJ f (cZ x.2)=some x)->(∀d∈jf c,∀L,E.lp f (cZ d)=some L->L.dep.ble E.dp=true->VV E x xd f d L)->
  (∀d∈pz c,∀L,E.lp f (800000+cZ d)=some L->L.dep.ble E.dp=true->ac4 E x xd f d L)->jh E x xd f c
 |.seq a b,g,h,k=>⟨⟨jQ a (fun d hd=>g d (List.mem_append.2 (.inl hd))) (fun d hd=>h d (List.mem_append.2 (.inl hd))) fun d hd=>k d (List.mem_append.2 (.inl hd)),k b (List.mem_append.2 (.inr aG))⟩,
   jQ b (fun d hd=>g d (List.mem_append.2 (.inr hd))) (fun d hd=>h d (List.mem_append.2 (.inr hd))) fun d hd=>k d (List.mem_append.2 (.inr (aj _ hd)))⟩
 |.cond _ a b,g,h,k=>⟨jQ a (fun d hd=>g d (List.mem_append.2 (.inl hd))) (fun d hd=>h d (List.mem_append.2 (.inl hd))) fun d hd=>k d (List.mem_append.2 (.inl hd)),jQ b (fun d hd=>g d (List.mem_append.2 (.inr hd))) (fun d hd=>h d (List.mem_append.2 (.inr hd))) fun d hd=>k d (List.mem_append.2 (.inr hd))⟩
 |.block _ c,g,h,k=>jQ (E:=E) c g h k
 |.scope c,g,h,k=>jQ (E:=E) c g h k
 |.loop c,g,h,k=>⟨jQ c g (fun d hd=>h d (List.mem_append.2 (.inl hd))) k,h c (List.mem_append.2 (.inr (List.mem_singleton.2 rfl)))⟩
 |.rangeFunc _ _ a b,g,h,k=>⟨jQ a (fun d hd=>g d (aj _ (List.mem_append.2 (.inl hd)))) (fun d hd=>h d (List.mem_append.2 (.inl hd))) fun d hd=>k d (List.mem_append.2 (.inl hd)),
   jQ b (fun d hd=>g d (aj _ (List.mem_append.2 (.inr hd)))) (fun d hd=>h d (List.mem_append.2 (.inr hd))) fun d hd=>k d (List.mem_append.2 (.inr hd)),g (a,b) aG⟩
 |.skip,_,_,_|.label _,_,_,_|.region _ _ _,_,_,_|.exit _,_,_,_|.goto _,_,_,_|.ret,_,_,_|.refuse _,_,_,_=>trivial
theorem xN {E:Env} {f:FuncId} (c:Code) (g: ∀x∈jA c,E.rf f (cZ x.2)=true->qJ f (cZ x.2)=some x) (h: ∀d∈jf c,∀L,E.lp f (cZ d)=some L->eQ E f d L)
  (k: ∀d∈pz c,∀L,E.lp f (800000+cZ d)=some L->qO E f d L):dO E f c:=fun R m=>
 jQ (E:=E.at m) c g (fun d hd L hL hdp=>by
  have h2:=h d hd L hL R (m-L.dep);rw[show m-L.dep+L.dep=m from Nat.sub_add_cancel (Nat.le_of_ble_eq_true (m:=m) hdp)]at h2;exact h2) fun d hd L hL hdp=>by
  have h2:=k d hd L hL R (m-L.dep);rw[show m-L.dep+L.dep=m from Nat.sub_add_cancel (Nat.le_of_ble_eq_true (m:=m) hdp)]at h2;exact h2
theorem akN {E:Env} {f:FuncId} {c:Code} (h:Xw E f c=true): ∀d∈pz c,∀L,E.lp f (800000+cZ d)=some L->qO E f d L:=fun d hd L hL=>by
 have:=List.all_eq_true.1 h d hd;simp_all
def EZ (E:Env) (f:FuncId) (c:Code):List Code:=(pz c).filter fun d=>(E.lp f (800000+cZ d)).isSome
theorem A7 {E:Env} {f:FuncId} {c:Code} (h: ∀d∈EZ E f c,∀L,E.lp f (800000+cZ d)=some L->qO E f d L): ∀d∈pz c,∀L,E.lp f (800000+cZ d)=some L->qO E f d L:=fun d hd L hL=>
 h d (List.mem_filter.2 ⟨hd,by rw[hL];rfl⟩) L hL
theorem pU {E:Env} {f:FuncId} (c:Code) (g: ∀x∈jA c,E.rf f (cZ x.2)=true->qJ f (cZ x.2)=some x) (h: ∀d∈jf c,∀L,E.lp f (cZ d)=some L->eQ E f d L) (k:Xw E f c=true:=by kernel_rfl):dO E f c:=
 xN c g h (akN k)
theorem aeu {E:Env} {f:FuncId} (c:Code) (hrf: ∀id,E.rf f id=false) (h: ∀d∈jf c,∀L,E.lp f (cZ d)=some L->eQ E f d L) (k:Xw E f c=true:=by kernel_rfl):dO E f c:=
 pU c (fun x _ hx=>by simp_all) h k
theorem dm {α β:Type} (b:Bool) (x y:Option α) (k:α->Option β):bz (bif b then x else y) k=bif b then bz x k else bz y k:=by cases b<;>rfl
theorem dn {α β:Type} (k:α->Option β):bz none k=none:=rfl
theorem bu {α β:Type} (x:α) (k:α->Option β):bz (some x) k=k x:=rfl
theorem dh {α β γ:Type} (x:Option α) (k:α->Option β) (l:β->Option γ):bz (bz x k) l=bz x fun a=>bz (k a) l:=by cases x<;>rfl
theorem apF {α β γ:Type} (a:α) (f:α->γ) (g:β->γ):dL (.inl a) f g=f a:=rfl
theorem dw {α β γ δ:Type} (o:α⊕β) (f:α->Option γ) (g:β->Option γ) (k:γ->Option δ):bz (dL o f g) k=dL o (fun a=>bz (f a) k) fun b=>bz (g b) k:=by cases o<;>rfl
end
section
open Bool renaming and_eq_true → af
open List renaming mem_cons_of_mem → aj
open Nat renaming le_refl → ae
open Go.RowKit
def TT.allK:TT->Bool
 |.nil=>true
 |.node _ i l r=>i.known&&(l.allK&&r.allK)
theorem TT.allK_at: ∀(T:TT) (t:TypeId),T.allK=true->(T.at t).ty.isSome=true->(T.at t).known=true
 |.nil,t,_,h=>by assumption
 |.node k i l r,t,h,h2=>by
  simp only[TT.allK,af]at h;simp only[TT.at]at h2 ⊢;by_cases e:Nat.beq k t=true
  ·simp_all
  ·have e':Nat.beq k t=false:=(Bool.not_eq_true _).mp e;simp only[e',cond_false]at h2 ⊢;by_cases e2:Nat.blt t k=true
   ·simp only[e2,cond_true]at h2 ⊢;exact TT.allK_at l t h.2.1 h2
   ·have e2':Nat.blt t k=false:=(Bool.not_eq_true _).mp e2;simp only[e2',cond_false]at h2 ⊢;exact TT.allK_at r t h.2.2 h2
def wfD:(t:Ty)->t.den->Prop
 |.unit,_=>True
 |.bool,_=>True
 |.int k,x=>(Lit.int k x).wf=true
 |.str,x=>x.length<=maxLen
 |.list e,xs=>xs.length<=maxLen/\ ∀x∈xs,wfD e x
 |.pair a b,x=>wfD a x.1/\wfD b x.2
section
variable {P:Program} {T:TT} {w:World} {H:Type} {enc:TypeId×Value->H} {spare:Nat->Bool} {held:Bool}
theorem ar8 {t:TypeId} {k:TK} (h:(P.underlying t).map kF=some (some k)): ∃d,P.underlying t=some d/\kF d=some k:=by
 simp_all
theorem G8 (hT:TOk P T) {t:TypeId} (hk:(T.at t).known=true):P.cellsOf t=(T.at t).size:=by
 obtain⟨h,_⟩:=hT t hk;unfold Program.cellsOf;cases hi:P.info? t with
 |none=>simp_all
 |some f=>
  simp_all
theorem asx {a:Addr} {v:Value} (h:w.cell? a=some v):a.block<w.heap.size/\a.spot=none:=by
 unfold World.cell? at h;split at h
 ·rename_i hb
  refine⟨(Array.getElem?_eq_some_iff.1 hb).1, ?_⟩;simp_all
 ·cases h
theorem addr_add_add (a:Addr) (x m:Nat):(a.add x).add m=a.add (x+m):=by
 grind [Addr.add]
theorem aco {e:Ty} {size:Nat} (hsz:e.size=size) {a:Addr} {len:Nat} {F:List Value->Option (DataW H×List MemPlace)} (hF: ∀cs y,F cs=some y-> ∃x:e.den,eY w (fun b=>b<w.heap.size) e x cs/\wfD e x)
  (h: ∀i,i<len-> ∃y,(w.cells? 0 (a.add (i*size)) size).bind F=some y): ∀(k j:Nat),j+k<=len->
  ∃(xs:List e.den) (zs:List Value),xs.length=k/\fQ (eY w (fun b=>b<w.heap.size) e) e.size xs zs/\(∀m (hm:m<zs.length),w.cell? (a.add (j*size+m))=some zs[m])/\ ∀x∈xs,wfD e x
 |0,j,_=>⟨[],[],rfl,rfl,fun m hm=>absurd hm (by simp),fun x hx=>by cases hx⟩
 |k+1,j,hj=>by
  obtain⟨xs,zs,h1,h2,h3,h4⟩:=aco hsz hF h k (j+1) (by omega);obtain⟨y,hy⟩:=h j (by omega);obtain⟨c,hc,hy⟩:=Option.bind_eq_some_iff.1 hy;obtain⟨x,hx,hwf⟩:=hF c y hy;have hcl:c.length=e.size:=eY.length e x c hx;have hcell: ∀m (hm:m<c.length),w.cell? (a.add (j*size+m))=some c[m]:=fun m hm=>by
   simp only[World.cells?,Nat.zero_le,if_true]at hc;have:=mapM_some_get hc m m (by simp_all);simp_all [addr_add_add]
  refine⟨x::xs,c++zs,by simp[h1],⟨c,zs,rfl,hcl,hx,h2⟩,fun m hm=> ?_,fun z hz=> ?_⟩
  all_goals grind
theorem P6 (hT:TOk P T) {n:Nat} {cs:List Value} (ih: ∀(t:TypeId) (cs:List Value) (y:DataW H×List MemPlace) (ty:Ty),(T.at t).known=true->(T.at t).ty=some ty->DataW.trod enc P w 0 spare held n t cs=some y-> ∃x:ty.den,eY w (fun b=>b<w.heap.size) ty x cs/\wfD ty x):
  ∀(fs:List (Nat×TypeId)) (off:Nat) (ty:Ty),jC T off fs=some ty->(∀p∈fs,∃y,DataW.trod enc P w 0 spare held n p.2 ((cs.drop p.1).take (P.cellsOf p.2))=some y)->
   ∃x:ty.den,eY w (fun b=>b<w.heap.size) ty x ((cs.drop off).take ty.size)/\wfD ty x
 |[],off,ty,h,_=>by
  simp only[jC,Option.some.injEq]at h;subst h;exact⟨(),by simp[eY,Ty.size],trivial⟩
 |(o,ft)::rest,off,ty,h,hall=>by
  simp only[jC]at h;split at h
  ·rename_i ho
   split at h
   ·rename_i a ha
    split at h
    ·rename_i hs
     split at h
     ·rename_i b hb
      simp only[Option.some.injEq]at h;subst h ho;obtain⟨y,hy⟩:=hall (o,ft) (by simp);simp only[G8 hT hs.2,<-hs.1]at hy;obtain⟨x1,h1,h2⟩:=ih ft _ y a hs.2 ha hy;obtain⟨x2,h3,h4⟩:=P6 hT ih rest _ b hb fun p hp=>hall p (aj _ hp);refine⟨(x1,x2),⟨_,_, ?_,h1,h3⟩,h2,h4⟩;simp_all [Ty.size,List.take_add]
     ·cases h
    ·cases h
   ·cases h
  ·cases h
theorem SL (hT:TOk P T) (hK:T.allK=true): ∀(fuel:Nat) (t:TypeId) (cs:List Value) (y:DataW H×List MemPlace) (ty:Ty),(T.at t).known=true->(T.at t).ty=some ty->DataW.trod enc P w 0 spare held fuel t cs=some y->
  ∃x:ty.den,eY w (fun b=>b<w.heap.size) ty x cs/\wfD ty x
 |0,t,cs,y,ty,_,_,h=>by simp[DataW.trod]at h
 |fuel+1,t,cs,y,ty,hk,hty,h=>by
  obtain⟨hinfo,hund,hty2,hsz,-,-,-,-⟩:=hT t hk;obtain⟨d,hd,hdk⟩:=ar8 hund;have hty3:lD T (T.at t).k=some ty:=by
   simp_all
  have hc:=G8 hT hk;have hsize:=hsz ty hty;cases d with
  |bool=>
   simp only[kF,Option.some.injEq]at hdk;rw[<-hdk]at hty3;simp only[lD,Option.some.injEq]at hty3;subst hty3;obtain⟨b,rfl,_⟩:=DataW.trod_bool hd h;exact⟨b,rfl,trivial⟩
  |int k=>
   simp only[kF,Option.some.injEq]at hdk;rw[<-hdk]at hty3;simp only[lD,Option.some.injEq]at hty3;subst hty3;obtain⟨b,rfl,_,hw⟩:=DataW.trod_int hd h;exact⟨b,rfl,hw⟩
  |string=>
   simp only[kF,Option.some.injEq]at hdk;rw[<-hdk]at hty3;simp only[lD,Option.some.injEq]at hty3;subst hty3;obtain⟨s,rfl,_,hw⟩:=DataW.trod_string hd h;exact⟨s.data.toList,by simp[eY],(show s.data.toList.length<=maxLen from by assumption)⟩
  |slice e=>
   simp only[kF,Option.some.injEq]at hdk;rw[<-hdk]at hty3;simp only[lD,Option.map_eq_some_iff]at hty3;obtain⟨ety,hety,rfl⟩:=hty3;have hek:=TT.allK_at T e hK (by rw[hety];rfl);have hes:ety.size=(T.at e).size:=(hT e hek).2.2.2.1 ety hety;have hec:=G8 hT hek;rcases DataW.trod_slice hd h with ⟨rfl,_⟩|⟨a,len,cap,elems,rest,n,hn,rfl,_,_,hl,hm,hlen,hel,_,_⟩
   ·exact⟨[],⟨none,0,[],rfl,ae _,rfl,.inl rfl⟩,Nat.zero_le _,fun x hx=>by cases hx⟩
   ·obtain rfl:n=fuel:=by omega
    have hrow: ∀i,i<len-> ∃y,(w.cells? 0 (a.add (i*P.cellsOf e)) (P.cellsOf e)).bind (DataW.trod enc P w 0 spare held n e)=some y:=fun i hi=>by
     simp_all
    obtain⟨xs,zs,h1,h2,h3,h4⟩:=aco (w:=w) (e:=ety) (hes.trans hec.symm) (fun cs y hy=>SL hT hK n e cs y ety hek hety hy) hrow len 0 (by omega);refine⟨xs,⟨some a,cap,zs,by rw[h1],by omega,h2, ?_⟩,by rw[h1];omega,h4⟩;by_cases hz:zs=[]
    ·exact .inl hz
    ·have h0:=h3 0 (List.length_pos_iff.2 hz);rw[show a.add (0*P.cellsOf e+0)=a by simp[Addr.add]]at h0;obtain⟨q1,q2⟩:=asx h0;obtain⟨ab,ao,asp⟩:=a;simp only at q1 q2;subst q2;refine .inr ⟨ab,ao,rfl,q1,fun j hj=> ?_⟩;simp_all [jU]
  |struct fs=>
   simp only[kF,Option.some.injEq]at hdk;rw[<-hdk]at hty3;simp only[lD]at hty3;obtain⟨xs,n,hn,_,hlen,hxl,hf⟩:=DataW.trod_struct hd h;obtain rfl:n=fuel:=by omega
   obtain⟨x,h1,h2⟩:=P6 (P:=P) (T:=T) (w:=w) (enc:=enc) (spare:=spare) (held:=held) (cs:=cs) hT (fun t cs y ty a b c=>SL hT hK n t cs y ty a b c) _ 0 ty hty3 (fun p hp=>by
    obtain⟨f,hfm,rfl⟩:=List.mem_map.1 hp;obtain⟨i,hi⟩:=List.getElem?_of_mem hfm
    grind)
   grind
  |func a b c=>
   grind [kF,lD]
  |array a b=>simp[kF]at hdk
  |_=>
   grind [kF,lD]
theorem lq (hT:TOk P T) (hK:T.allK=true) {t:TypeId} {v:Value} {d:DataW H} {ps:List MemPlace} {r:Reach} {b0:Nat} {ty:Ty} (hty:(T.at t).ty=some ty) (hval:Value.okWide P w r b0 t v) (h:DataW.Trod enc P w 0 spare held t v d ps):
  ∃x:ty.den,VD (kJ w fun _=>False) ty x v/\wfD ty x:=by
 have hk:=TT.allK_at T t hK (by rw[hty];rfl);obtain⟨fuel,hf⟩:=h;obtain⟨x,h1,h2⟩:=SL hT hK fuel t _ _ ty hk hty hf;have h3:eY w (kJ w fun _=>False).free ty x v.cells.toList:=eY.mono (fun b hb=>⟨⟨hb,(by rintro ⟨i,o,h,_⟩;simp[kJ,dH]at h),by simp[kJ],fun h=>h⟩,rfl⟩) ty x _ h1;refine⟨x, ?_,h2⟩;obtain⟨hinfo,hund,hty2,-⟩:=hT t hk;obtain⟨d',hd,hdk⟩:=ar8 hund;have hty3:lD T (T.at t).k=some ty:=by
  rcases hty2 with h1|h1
  ·rw[h1]at hty;cases hty
  ·rw[<-h1,hty]
 cases ha:ty.isAgg with
 |true=>
  cases d' with
  |struct fs=>
   obtain⟨cs,rfl,_⟩:=Go.WideShapes.okWide_struct hd hval;exact(VD.agg ha).2 ⟨cs,rfl,h3⟩
  |array a b=>simp[kF]at hdk
  |slice e=>
   simp only[kF,Option.some.injEq]at hdk;rw[<-hdk]at hty3;simp only[lD,Option.map_eq_some_iff]at hty3;obtain⟨ety,_,rfl⟩:=hty3;cases ha
  |_=>
   simp only[kF,Option.some.injEq]at hdk;rw[<-hdk]at hty3;simp[lD]at hty3
   all_goals (subst hty3;cases ha)
 |false=>
  rw[VD.leaf ha];have hv:v.cells= #[v]:=by
   cases d' with
   |struct fs=>
    simp only[kF,Option.some.injEq]at hdk;rw[<-hdk]at hty3;simp only[lD]at hty3;exfalso;cases hfs:(fs.toList.map fun f=>(f.offset,f.type))with
    |nil=>rw[hfs]at hty3;simp only[jC,Option.some.injEq]at hty3;subst hty3;cases ha
    |cons p l=>
     rw[hfs]at hty3;simp only[jC]at hty3;split at hty3
     ·split at hty3
      ·split at hty3
       ·split at hty3
        ·simp only[Option.some.injEq]at hty3;subst hty3;cases ha
        ·cases hty3
       ·cases hty3
      ·cases hty3
     ·cases hty3
   |array a b=>simp[kF]at hdk
   |bool=>obtain⟨b,rfl⟩:=Go.WideShapes.okWide_bool hd hval;rfl
   |int k=>obtain⟨b,rfl⟩:=Go.WideShapes.okWide_int hd hval;rfl
   |string=>obtain⟨b,rfl⟩:=Go.WideShapes.okWide_string hd hval;rfl
   |slice e=>obtain⟨a,b,c,rfl⟩:=Go.WideShapes.okWide_slice hd hval;rfl
   |_=>
    simp only[kF,Option.some.injEq]at hdk;rw[<-hdk]at hty3;simp[lD]at hty3
  rw[hv]at h3;exact h3
end
abbrev gq:Type:=Int×(List UInt8)×(Int×Int×Unit)
abbrev cu:Ty:=.int .i64
abbrev gB:Type:=Int×Int×Int×Int×Unit
abbrev bK:Type:=List UInt8
abbrev EG:Ty:=.pair cu (.pair cu .unit)
abbrev iQ:Type:=Int×Int×Int×Int×Bool×Unit
abbrev SS:Ty:=.pair cu (.pair cu (.pair cu (.pair .bool .unit)))
abbrev taE:Type:=(List gq)×Int×(List gB)×Int×Int×Unit
abbrev qh:Type:=Int×Int×Int×Bool×Unit
abbrev taG:Type:=(List gq)×bK×(List gB)×Int×Int×Int×Unit
abbrev tyD:Ty:=.pair cu (.pair .str EG)
abbrev jJ:Type:=Int×Int×Unit
abbrev qM:Ty:=.pair cu (.pair cu EG)
abbrev taI:Type:=(bK×Int×Int×(List qh)×Int×Int×Int×Bool×Bool×Unit)×((Int×Int×Int×Int×bK×(Bool×bK×jJ))×Unit)
abbrev gW:Type:=List (Int)
abbrev oW:Type:=Bool×Unit
abbrev tyF:Ty:=.pair cu (.pair cu (.pair cu (.pair .str (.pair .bool (.pair .str EG)))))
abbrev lH:Type:=Int×Int
abbrev Zm:Type:=(List jJ)×Bool×Int×Unit
abbrev tyG:Ty:=.pair .str (.pair .bool .unit)
abbrev Ar:Type:=taE×(Unit)
abbrev Ub:Ty:=.pair cu SS
abbrev uu:Ty:=.list tyD
abbrev BZ:Type:=Int×Unit
abbrev taP:Type:=bK×Int×Int×(List qh)×Int×Int×Int×Bool×Bool×Unit
abbrev II:Type:=taG×(Unit)
abbrev Zu:Type:=List (bK×oW)
abbrev tyJ:Ty:=.pair (.list tyG) (.pair .bool .unit)
abbrev Zv:Type:=bK×Unit
abbrev Uc:Ty:=.list Ub
abbrev Gi:List (Ty×Bool):=[(.list tyD,false),(.int .i64,false),(.list qM,true),(.int .i64,false),(.int .i64,false)]
abbrev tzB:List (Ty×Bool):=[(.str,false),(.int .i64,false),(.int .i64,false),(.list SS,false),(.int .i64,false),(.int .i64,false),(.int .i64,false),(.bool,false),(.bool,false)]
abbrev tzC:List (Ty×Bool):=[(.list EG,true),(.bool,false),(.int .i64,false)]
abbrev NT:List (Ty×Bool):=[(.bool,false)]
abbrev Zw:List (Ty×Bool):=[(.int .i64,false)]
abbrev tzF:List (Ty×Bool):=[(.str,false)]
abbrev tzG:List (Ty×Bool):=[(.pair cu (.pair cu (.pair cu (.pair .bool .unit))),false),(.pair cu tyJ,false)]
abbrev tzH:List (Ty×Bool):=[(.int .i64,false),(.int .i64,false)]
end
section
open Bool renaming and_eq_true → af, not_true → au, not_eq_true' → aW
open Nat renaming eq_of_beq_eq_true → ak
open Tryz
open Go.RowKit
def iM:TI:=⟨true,.fn,1,8,none,[.nilfn],false,false,true⟩
def ti2:TI:=⟨true,(.int .i64),1,8,some (.int .i64),[.val (.int .i64) 0],false,false,true⟩
def ti4:TI:=⟨true,.bool,1,1,some .bool,[.val .bool false],false,false,true⟩
def ti5:TI:=⟨true,(.int .u8),1,1,some (.int .u8),[.val (.int .u8) 0],false,false,true⟩
def ti7:TI:=⟨true,(.struct [(0,2),(1,3),(2,4),(3,6)]),4,24,none,[.val (.int .i64) 0,.val (.int .i64) 0,.val .bool false,.val (.int .u8) 0],false,false,true⟩
def ti9:TI:=⟨true,.str,1,16,some .str,[.val .str []],false,false,true⟩
def aDk:TI:=⟨true,(.int .u64),1,8,some (.int .u64),[.val (.int .u64) 0],false,false,true⟩
def aDp:TI:=⟨true,(.struct [(0,9),(1,12)]),2,24,some (.pair .str (.pair (.int .u64) .unit)),[.val .str [],.val (.int .u64) 0],false,false,true⟩
def aEe:TI:=⟨true,(.ptr 248),1,8,none,[.nilp],false,false,true⟩
def aEf:TI:=⟨true,(.ptr 251),1,8,none,[.nilp],false,false,true⟩
def aEg:TI:=⟨true,(.ptr 258),1,8,none,[.nilp],false,false,true⟩
def aDz:TI:=⟨true,(.struct [(0,17)]),1,8,none,[.nilp],false,false,true⟩
def aAJ:TI:=⟨true,(.int .i32),1,4,some (.int .i32),[.val (.int .i32) 0],false,false,true⟩
def aEi:TI:=⟨true,(.struct [(0,3),(1,3),(2,3),(3,3),(4,9),(5,4),(6,9),(7,3),(8,3)]),9,88,some (.pair (.int .i64) (.pair (.int .i64) (.pair (.int .i64) (.pair (.int .i64) (.pair .str (.pair .bool (.pair .str (.pair (.int .i64) (.pair (.int .i64) .unit))))))))),[.val (.int .i64) 0,.val (.int .i64) 0,.val (.int .i64) 0,.val (.int .i64) 0,.val .str [],.val .bool false,.val .str [],.val (.int .i64) 0,.val (.int .i64) 0],false,false,true⟩
def aEj:TI:=⟨true,(.struct [(0,3),(1,3),(2,3),(3,3),(4,9),(5,4),(6,9),(7,3),(8,3)]),9,88,some (.pair (.int .i64) (.pair (.int .i64) (.pair (.int .i64) (.pair (.int .i64) (.pair .str (.pair .bool (.pair .str (.pair (.int .i64) (.pair (.int .i64) .unit))))))))),[.val (.int .i64) 0,.val (.int .i64) 0,.val (.int .i64) 0,.val (.int .i64) 0,.val .str [],.val .bool false,.val .str [],.val (.int .i64) 0,.val (.int .i64) 0],true,false,true⟩
def aEk:TI:=⟨true,(.slice 9),1,24,some (.list .str),[.nils],false,false,true⟩
def aEl:TI:=⟨true,(.struct [(0,3),(1,9),(2,9)]),3,40,some (.pair (.int .i64) (.pair .str (.pair .str .unit))),[.val (.int .i64) 0,.val .str [],.val .str []],false,false,true⟩
def aEm:TI:=⟨true,(.struct [(0,3),(1,9),(2,9)]),3,40,some (.pair (.int .i64) (.pair .str (.pair .str .unit))),[.val (.int .i64) 0,.val .str [],.val .str []],true,false,true⟩
def aEn:TI:=⟨true,(.ptr 52),1,8,none,[.nilp],false,false,true⟩
def aEo:TI:=⟨true,(.struct [(0,3),(1,3),(2,3),(3,4)]),4,32,some (.pair (.int .i64) (.pair (.int .i64) (.pair (.int .i64) (.pair .bool .unit)))),[.val (.int .i64) 0,.val (.int .i64) 0,.val (.int .i64) 0,.val .bool false],false,false,true⟩
def aEp:TI:=⟨true,(.struct [(0,3),(1,3),(2,3),(3,4)]),4,32,some (.pair (.int .i64) (.pair (.int .i64) (.pair (.int .i64) (.pair .bool .unit)))),[.val (.int .i64) 0,.val (.int .i64) 0,.val (.int .i64) 0,.val .bool false],true,false,true⟩
def aEq:TI:=⟨true,(.slice 49),1,24,some (.list (.pair (.int .i64) (.pair (.int .i64) (.pair (.int .i64) (.pair .bool .unit))))),[.nils],false,false,true⟩
def aDF:TI:=⟨true,(.struct [(0,9),(1,3),(2,3),(3,50),(4,49),(8,4)]),9,96,some (.pair .str (.pair (.int .i64) (.pair (.int .i64) (.pair (.list (.pair (.int .i64) (.pair (.int .i64) (.pair (.int .i64) (.pair .bool .unit))))) (.pair (.pair (.int .i64) (.pair (.int .i64) (.pair (.int .i64) (.pair .bool .unit)))) (.pair .bool .unit)))))),[.val .str [],.val (.int .i64) 0,.val (.int .i64) 0,.nils,.val (.int .i64) 0,.val (.int .i64) 0,.val (.int .i64) 0,.val .bool false,.val .bool false],false,false,true⟩
def aEr:TI:=⟨true,(.slice 69),1,24,some (.list (.pair (.int .i64) (.pair (.int .i64) .unit))),[.nils],false,false,true⟩
def aEs:TI:=⟨true,(.slice 3),1,24,some (.list (.int .i64)),[.nils],false,false,true⟩
def aEt:TI:=⟨true,(.struct [(0,3),(1,3)]),2,16,some (.pair (.int .i64) (.pair (.int .i64) .unit)),[.val (.int .i64) 0,.val (.int .i64) 0],false,false,true⟩
def aEu:TI:=⟨true,(.struct [(0,3),(1,3)]),2,16,some (.pair (.int .i64) (.pair (.int .i64) .unit)),[.val (.int .i64) 0,.val (.int .i64) 0],true,false,true⟩
def aEv:TI:=⟨true,(.slice 210),1,24,some (.list (.pair .str (.pair .bool .unit))),[.nils],false,false,true⟩
def aEw:TI:=⟨true,(.struct [(0,3),(1,77),(2,4)]),3,40,some (.pair (.int .i64) (.pair (.list (.pair .str (.pair .bool .unit))) (.pair .bool .unit))),[.val (.int .i64) 0,.nils,.val .bool false],false,false,true⟩
def aEx:TI:=⟨true,(.struct [(0,3),(1,77),(2,4)]),3,40,some (.pair (.int .i64) (.pair (.list (.pair .str (.pair .bool .unit))) (.pair .bool .unit))),[.val (.int .i64) 0,.nils,.val .bool false],false,false,false⟩
def aEy:TI:=⟨true,(.ptr 137),1,8,none,[.nilp],false,false,true⟩
def aEz:TI:=⟨true,(.slice 5),1,24,some (.list (.int .u8)),[.nils],false,false,true⟩
def aDG:TI:=⟨true,(.struct [(0,9),(1,58),(2,4)]),3,48,some (.pair .str (.pair (.list (.int .i64)) (.pair .bool .unit))),[.val .str [],.nils,.val .bool false],false,false,true⟩
def aEB:TI:=⟨true,(.slice 98),1,24,some (.list (.pair (.int .i64) (.pair (.int .i64) (.pair (.int .i64) (.pair (.int .i64) (.pair .bool .unit)))))),[.nils],false,false,true⟩
def aEC:TI:=⟨true,(.struct [(0,3),(1,3),(2,3),(3,3),(4,4)]),5,40,some (.pair (.int .i64) (.pair (.int .i64) (.pair (.int .i64) (.pair (.int .i64) (.pair .bool .unit))))),[.val (.int .i64) 0,.val (.int .i64) 0,.val (.int .i64) 0,.val (.int .i64) 0,.val .bool false],false,false,true⟩
def aED:TI:=⟨true,(.struct [(0,3),(1,3),(2,3),(3,3),(4,4)]),5,40,some (.pair (.int .i64) (.pair (.int .i64) (.pair (.int .i64) (.pair (.int .i64) (.pair .bool .unit))))),[.val (.int .i64) 0,.val (.int .i64) 0,.val (.int .i64) 0,.val (.int .i64) 0,.val .bool false],true,false,true⟩
def aDe:TI:=⟨true,(.ptr 108),1,8,none,[.nilp],false,false,true⟩
def aDf:TI:=⟨true,(.struct [(0,106),(1,86)]),2,32,none,[.nilp,.nils],false,false,true⟩
def aDg:TI:=⟨true,(.struct [(0,106),(1,86)]),2,32,none,[.nilp,.nils],false,true,true⟩
def aDh:TI:=⟨true,(.ptr 163),1,8,none,[.nilp],false,false,true⟩
def aDi:TI:=⟨true,(.struct [(0,4),(1,4),(2,9)]),3,24,some (.pair .bool (.pair .bool (.pair .str .unit))),[.val .bool false,.val .bool false,.val .str []],false,false,true⟩
def aDj:TI:=⟨true,(.struct [(0,4),(1,4),(2,9)]),3,24,some (.pair .bool (.pair .bool (.pair .str .unit))),[.val .bool false,.val .bool false,.val .str []],true,false,true⟩
def aDl:TI:=⟨true,(.slice 131),1,24,some (.list (.pair (.int .i64) (.pair .str (.pair (.int .i64) (.pair (.int .i64) .unit))))),[.nils],false,false,true⟩
def aDm:TI:=⟨true,(.slice 127),1,24,some (.list (.pair (.int .i64) (.pair (.int .i64) (.pair (.int .i64) (.pair (.int .i64) .unit))))),[.nils],false,false,true⟩
def aDn:TI:=⟨true,(.struct [(0,3),(1,3),(2,3),(3,3)]),4,32,some (.pair (.int .i64) (.pair (.int .i64) (.pair (.int .i64) (.pair (.int .i64) .unit)))),[.val (.int .i64) 0,.val (.int .i64) 0,.val (.int .i64) 0,.val (.int .i64) 0],false,false,true⟩
def aDo:TI:=⟨true,(.struct [(0,3),(1,3),(2,3),(3,3)]),4,32,some (.pair (.int .i64) (.pair (.int .i64) (.pair (.int .i64) (.pair (.int .i64) .unit)))),[.val (.int .i64) 0,.val (.int .i64) 0,.val (.int .i64) 0,.val (.int .i64) 0],true,false,true⟩
def aDq:TI:=⟨true,(.struct [(0,3),(1,9),(2,3),(3,3)]),4,40,some (.pair (.int .i64) (.pair .str (.pair (.int .i64) (.pair (.int .i64) .unit)))),[.val (.int .i64) 0,.val .str [],.val (.int .i64) 0,.val (.int .i64) 0],false,false,true⟩
def aDr:TI:=⟨true,(.struct [(0,3),(1,9),(2,3),(3,3)]),4,40,some (.pair (.int .i64) (.pair .str (.pair (.int .i64) (.pair (.int .i64) .unit)))),[.val (.int .i64) 0,.val .str [],.val (.int .i64) 0,.val (.int .i64) 0],true,false,true⟩
def aw3:TI:=⟨true,(.struct [(0,53),(1,4),(2,3)]),3,40,some (.pair (.list (.pair (.int .i64) (.pair (.int .i64) .unit))) (.pair .bool (.pair (.int .i64) .unit))),[.nils,.val .bool false,.val (.int .i64) 0],false,false,true⟩
def aDs:TI:=⟨true,(.slice 93),1,24,some (.list (.pair .str (.pair (.list (.int .i64)) (.pair .bool .unit)))),[.nils],false,false,true⟩
def aDt:TI:=⟨true,(.slice 115),1,24,some (.list (.pair .bool (.pair .bool (.pair .str .unit)))),[.nils],false,false,true⟩
def aDu:TI:=⟨true,(.ptr 158),1,8,none,[.nilp],false,false,true⟩
def aw4:TI:=⟨true,(.struct [(0,95),(1,58)]),2,48,some (.pair (.list (.pair (.int .i64) (.pair (.int .i64) (.pair (.int .i64) (.pair (.int .i64) (.pair .bool .unit)))))) (.pair (.list (.int .i64)) .unit)),[.nils,.nils],false,false,true⟩
def aDv:TI:=⟨true,(.ptr 98),1,8,none,[.nilp],false,false,true⟩
def aDw:TI:=⟨true,(.map 3 3),1,8,none,[.undef],false,false,true⟩
def aw5:TI:=⟨true,(.struct [(0,9),(1,95),(2,161)]),3,48,none,[.val .str [],.nils,.undef],false,false,true⟩
def aDx:TI:=⟨true,(.ptr 5),1,8,none,[.nilp],false,false,true⟩
def aDy:TI:=⟨true,(.ptr 177),1,8,none,[.nilp],false,false,true⟩
def aw6:TI:=⟨true,(.struct [(0,121),(1,3),(2,123),(3,3),(4,3)]),5,72,some (.pair (.list (.pair (.int .i64) (.pair .str (.pair (.int .i64) (.pair (.int .i64) .unit))))) (.pair (.int .i64) (.pair (.list (.pair (.int .i64) (.pair (.int .i64) (.pair (.int .i64) (.pair (.int .i64) .unit))))) (.pair (.int .i64) (.pair (.int .i64) .unit))))),[.nils,.val (.int .i64) 0,.nils,.val (.int .i64) 0,.val (.int .i64) 0],false,false,true⟩
def aDA:TI:=⟨true,(.ptr 193),1,8,none,[.nilp],false,false,true⟩
def aw7:TI:=⟨true,(.struct [(0,121),(1,9),(2,123),(3,3),(4,3),(5,3)]),6,88,some (.pair (.list (.pair (.int .i64) (.pair .str (.pair (.int .i64) (.pair (.int .i64) .unit))))) (.pair .str (.pair (.list (.pair (.int .i64) (.pair (.int .i64) (.pair (.int .i64) (.pair (.int .i64) .unit))))) (.pair (.int .i64) (.pair (.int .i64) (.pair (.int .i64) .unit)))))),[.nils,.val .str [],.nils,.val (.int .i64) 0,.val (.int .i64) 0,.val (.int .i64) 0],false,false,true⟩
def aDB:TI:=⟨true,(.struct [(0,9),(1,4)]),2,24,some (.pair .str (.pair .bool .unit)),[.val .str [],.val .bool false],false,false,true⟩
def aDC:TI:=⟨true,(.struct [(0,9),(1,4)]),2,24,some (.pair .str (.pair .bool .unit)),[.val .str [],.val .bool false],true,false,true⟩
def aw8:TI:=⟨true,(.struct [(0,5),(1,5)]),2,2,some (.pair (.int .u8) (.pair (.int .u8) .unit)),[.val (.int .u8) 0,.val (.int .u8) 0],false,false,true⟩
def aDD:TI:=⟨true,(.ptr 234),1,8,none,[.nilp],false,false,true⟩
def aDE:TI:=⟨true,(.int .u32),1,4,some (.int .u32),[.val (.int .u32) 0],false,false,true⟩
def aw9:TI:=⟨true,(.struct [(0,17),(1,17),(2,17),(3,9)]),4,40,none,[.nilp,.nilp,.nilp,.val .str []],false,false,true⟩
def axa:TI:=⟨true,(.struct [(0,12),(1,12),(2,240),(3,252),(4,5),(5,5),(6,253),(7,254),(8,171),(9,255),(10,256)]),11,48,none,[.val (.int .u64) 0,.val (.int .u64) 0,.val (.int .u32) 0,.val (.int .u8) 0,.val (.int .u8) 0,.val (.int .u8) 0,.val (.int .u8) 0,.nilfn,.nilp,.val (.int .i32) 0,.val (.int .i32) 0],false,false,true⟩
def tt:TT:=(.node 126 aDn (.node 64 iM (.node 32 iM (.node 15 aEe (.node 8 ti7 (.node 4 ti4 (.node 2 ti2 (.node 1 iM .nil .nil) (.node 3 ti2 .nil .nil)) (.node 7 ti7 (.node 5 ti5 .nil .nil) .nil)) (.node 12 aDk (.node 10 ti9 (.node 9 ti9 .nil .nil) (.node 11 ti9 .nil .nil)) (.node 14 aDp (.node 13 aDp .nil .nil) .nil))) (.node 23 iM (.node 19 aDz (.node 17 aEg (.node 16 aEf .nil .nil) (.node 18 aDz .nil .nil)) (.node 22 iM (.node 21 aAJ .nil .nil) .nil)) (.node 28 iM (.node 25 aEj (.node 24 aEi .nil .nil) (.node 26 ti2 .nil .nil)) (.node 31 iM (.node 29 iM .nil .nil) .nil)))) (.node 47 iM (.node 40 iM (.node 36 aEl (.node 34 iM (.node 33 aEk .nil .nil) (.node 35 iM .nil .nil)) (.node 39 iM (.node 37 aEm .nil .nil) .nil)) (.node 44 iM (.node 42 iM (.node 41 iM .nil .nil) (.node 43 iM .nil .nil)) (.node 46 aEn (.node 45 iM .nil .nil) .nil))) (.node 55 iM (.node 51 aDF (.node 49 aEp (.node 48 aEo .nil .nil) (.node 50 aEq .nil .nil)) (.node 53 aEr (.node 52 aDF .nil .nil) .nil)) (.node 59 iM (.node 57 iM (.node 56 iM .nil .nil) (.node 58 aEs .nil .nil)) (.node 63 iM (.node 61 iM .nil .nil) .nil))))) (.node 95 aEB (.node 81 iM (.node 72 iM (.node 68 aEt (.node 66 iM (.node 65 iM .nil .nil) (.node 67 iM .nil .nil)) (.node 71 iM (.node 69 aEu .nil .nil) .nil)) (.node 77 aEv (.node 75 iM (.node 73 iM .nil .nil) (.node 76 iM .nil .nil)) (.node 79 aEx (.node 78 aEw .nil .nil) .nil))) (.node 88 iM (.node 85 iM (.node 83 iM (.node 82 aEy .nil .nil) (.node 84 iM .nil .nil)) (.node 87 iM (.node 86 aEz .nil .nil) .nil)) (.node 92 aDG (.node 90 iM (.node 89 iM .nil .nil) (.node 91 iM .nil .nil)) (.node 94 iM (.node 93 aDG .nil .nil) .nil)))) (.node 109 iM (.node 102 iM (.node 99 iM (.node 97 aEC (.node 96 iM .nil .nil) (.node 98 aED .nil .nil)) (.node 101 iM (.node 100 iM .nil .nil) .nil)) (.node 106 aDe (.node 104 iM (.node 103 iM .nil .nil) (.node 105 iM .nil .nil)) (.node 108 aDg (.node 107 aDf .nil .nil) .nil))) (.node 119 iM (.node 113 iM (.node 111 aDh (.node 110 iM .nil .nil) (.node 112 iM .nil .nil)) (.node 115 aDj (.node 114 aDi .nil .nil) .nil)) (.node 123 aDm (.node 121 aDl (.node 120 iM .nil .nil) (.node 122 iM .nil .nil)) (.node 125 iM (.node 124 iM .nil .nil) .nil)))))) (.node 189 iM (.node 157 aw4 (.node 141 iM (.node 134 iM (.node 131 aDr (.node 129 iM (.node 127 aDo .nil .nil) (.node 130 aDq .nil .nil)) (.node 133 iM (.node 132 iM .nil .nil) .nil)) (.node 138 iM (.node 136 aw3 (.node 135 iM .nil .nil) (.node 137 aw3 .nil .nil)) (.node 140 iM (.node 139 iM .nil .nil) .nil))) (.node 149 iM (.node 146 iM (.node 144 iM (.node 142 iM .nil .nil) (.node 145 iM .nil .nil)) (.node 148 iM (.node 147 aDs .nil .nil) .nil)) (.node 153 iM (.node 151 iM (.node 150 aDt .nil .nil) (.node 152 iM .nil .nil)) (.node 156 aDu (.node 155 iM .nil .nil) .nil)))) (.node 174 iM (.node 164 iM (.node 161 aDw (.node 159 iM (.node 158 aw4 .nil .nil) (.node 160 aDv .nil .nil)) (.node 163 aw5 (.node 162 aw5 .nil .nil) .nil)) (.node 170 iM (.node 167 iM (.node 166 iM .nil .nil) (.node 169 iM .nil .nil)) (.node 173 iM (.node 171 aDx .nil .nil) .nil))) (.node 181 iM (.node 178 iM (.node 176 aw6 (.node 175 aDy .nil .nil) (.node 177 aw6 .nil .nil)) (.node 180 iM (.node 179 iM .nil .nil) .nil)) (.node 185 iM (.node 183 iM (.node 182 iM .nil .nil) (.node 184 iM .nil .nil)) (.node 188 iM (.node 187 iM .nil .nil) .nil))))) (.node 220 iM (.node 204 iM (.node 196 iM (.node 193 aw7 (.node 191 aDA (.node 190 iM .nil .nil) (.node 192 aw7 .nil .nil)) (.node 195 iM (.node 194 iM .nil .nil) .nil)) (.node 201 iM (.node 198 iM (.node 197 iM .nil .nil) (.node 199 iM .nil .nil)) (.node 203 iM (.node 202 iM .nil .nil) .nil))) (.node 212 iM (.node 209 aDB (.node 207 iM (.node 205 iM .nil .nil) (.node 208 iM .nil .nil)) (.node 211 iM (.node 210 aDC .nil .nil) .nil)) (.node 217 iM (.node 215 iM (.node 213 iM .nil .nil) (.node 216 iM .nil .nil)) (.node 219 iM (.node 218 iM .nil .nil) .nil)))) (.node 239 iM (.node 227 aDk (.node 224 iM (.node 222 iM (.node 221 iM .nil .nil) (.node 223 iM .nil .nil)) (.node 226 iM (.node 225 iM .nil .nil) .nil)) (.node 236 iM (.node 230 aw8 (.node 229 aw8 .nil .nil) (.node 232 iM .nil .nil)) (.node 238 aDD (.node 237 iM .nil .nil) .nil))) (.node 247 aw9 (.node 244 iM (.node 242 iM (.node 240 aDE .nil .nil) (.node 243 iM .nil .nil)) (.node 246 iM (.node 245 iM .nil .nil) .nil)) (.node 256 aAJ (.node 254 iM (.node 248 aw9 .nil .nil) (.node 255 aAJ .nil .nil)) (.node 258 axa (.node 257 axa .nil .nil) .nil)))))))
theorem avz {P:Program} {t:TypeId} {j:TypeInfo} {k:IntKind} (h:(P.info? t).map (·.zero)=some (some (.int k 0))) (hj:P.info? t=some j):j.zero=some (.int k 0):=by rw[hj]at h;simpa using h
theorem tkN {P:Program} {T:TT} {t:TypeId} {i:TI} (h1:(P.info? t).map (fun f=>(f.size,f.bytes,f.zero.map fun z=>(z.cells.toList.map wz,z.cells.toList.all Value.oneCell')))=some (i.size,i.bytes,some (i.zero,true)):=by kernel_rfl)
  (h2:(P.underlying t).map kF=some (some i.k):=by kernel_rfl) (h3:(match i.ty with|none=>none|some _=>i.ty)=(match i.ty with|none=>none|some _=>lD T i.k):=by kernel_rfl) (h4:(match i.ty with|none=>true|some y=>Nat.beq y.size i.size)=true:=by kernel_rfl) (h5:(i.isAgg||Nat.beq i.size 1)=true:=by kernel_rfl)
  (h6:(!i.eq||(!P.eqGuardType P.depth t&&(!P.stoodInHeld t&&((P.underlying t).map (fun d=>match d with|.struct fs=>fs.toList.all fun f=>f.name != "_" |_=>false)).getD false)))=true:=by kernel_rfl)
  (h7:(P.underlying t).map (fun d=>match d with|.struct fs=>fs.toList.all fun f=>(P.info? f.type).isSome|_=>true)=some true:=by kernel_rfl) (h8:Nat.beq i.zero.length i.size=true:=by kernel_rfl)
  (h9:(match i.ty with|some (.int .u8)=>Nat.beq t oD|_=>true)=true:=by kernel_rfl) (h10:(!i.bld||Nat.beq t Uk)=true:=by kernel_rfl)
  (h11:(match i.k with|.int _=>(P.info? t).map (fun j:TypeInfo=>j.zero)|_=>none)=(match i.k with|.int k=>some (some (Value.int k 0))|_=>none):=by kernel_rfl):axk P T t i:=fun _=>by
 refine⟨h1,h2, ?_,fun y hy=> ?_, ?_,fun he=> ?_,h7,ak h8,fun hu=> ?_,fun hb=> ?_,fun k hk j hj=> ?_⟩
 ·cases hi:i.ty with
  |none=>exact .inl rfl
  |some y=>rw[hi]at h3;exact .inr h3
 ·rw[hy]at h4;exact ak h4
 ·rw[Bool.or_eq_true]at h5;exact h5.imp id ak
 ·rw[he]at h6;simp only[au,Bool.false_or,af,aW]at h6;refine⟨h6.1,h6.2.1, ?_⟩;have h:=h6.2.2;generalize (P.underlying t).map _=o at h ⊢;cases o with
  |none=>cases h
  |some b=>exact congrArg some h
 ·rw[hu]at h9;exact ak h9
 ·rw[hb]at h10;exact ak h10
 ·rw[hk]at h11;exact avz h11 hj
theorem tok:TOk prog tt:=TOk.of_all (by repeat' first|exact trivial|refine⟨tkN, ?_, ?_⟩)
def azY (P:Program):Bool:=P.funcs.toList.all fun fn=>fn.body.isNone|| !(fn.name== "runtime.NumGoroutine")
theorem apy {P:Program} (h:azY P=true):IK P:=fun f fn c hf hb=>by
 have h1:=List.all_eq_true.1 h fn (by have:=Array.mem_of_getElem? hf;simpa using this);simpa [hb] using h1
theorem Nu:IK prog:=apy (by kernel_rfl)
theorem mixed:prog.follows .mixedOrders=true:=by kernel_rfl
noncomputable def sg0 (g:FuncId):Option Sum:=bif Nat.beq g 234 then some aij else none
theorem aqm: ∀g s,sg0 g=some s->dU prog g s:=fun g s h=>by
 unfold sg0 at h;rw[cond_eq_ite]at h;split at h
 ·rename_i hg
  obtain rfl:g=234:=ak hg;cases h;exact(acT func234 (by kernel_rfl) (by kernel_rfl) (by kernel_rfl) (by kernel_rfl))
 cases h
def amu:Go.Shelf.Ren:=⟨fun|240=>110|276=>155|n=>n,fun|0=>0|4=>4|9=>9|20=>20|37=>86|70=>106|72=>108|164=>200|n=>n,fun n=>n⟩
theorem afJ:Go.Proofs.Lays.n240 prog amu:={
 mixed:=mixed,
 f240:=(func110).trans (by kernel_rfl),
 f276:=(func155).trans (by kernel_rfl),
 t0:=underlying0,a0:=isAgg0,z0:=sizeOf0,v0:=zeroValue0,
 t4:=underlying4,a4:=isAgg4,z4:=sizeOf4,v4:=zeroValue4,
 t9:=underlying9,a9:=isAgg9,z9:=sizeOf9,v9:=zeroValue9,
 t20:=underlying20,a20:=isAgg20,z20:=sizeOf20,v20:=zeroValue20,
 t70:=underlying106,a70:=isAgg106,z70:=sizeOf106,v70:=zeroValue106,
 t72:=underlying108,a72:=isAgg108,z72:=sizeOf108,v72:=zeroValue108,
 t164:=underlying200,a164:=isAgg200,z164:=sizeOf200,v164:=zeroValue200}
theorem aA9:Go.Proofs.Builder.X72 prog amu:={sizeBuilder:=by kernel_rfl,liesBuilder:=by kernel_rfl}
theorem KC (g:FuncId) (h:Gq g=true):Au prog g:=by
 simp only[Gq,af]at h;obtain rfl:g=110:=ak h.1;exact fun w b hs hf=>⟨AL Nu func110 (show f110.body=some ((f110.body).getD .skip) by kernel_rfl) _ _,fun h0=>Any.Builder_copyCheck_used afJ aA9 b w h0,fun h0=>Any.Builder_copyCheck_fresh afJ aA9 b w h0 hs hf⟩
noncomputable def amI:Env:={P:=prog,T:=tt,cl:=true,kp:=fun _ _=>none,sg:=sg0,lp:=fun _ _=>none,bf:=Gq}
theorem Vt: ∀E,rO prog E->ac9 E:=fun E h f k iY bd hr=>avh h f k iY bd hr
theorem afO:dB amI:=⟨tok,mixed,Nu,aqm,fun f fn c _ _=>ja (fun _=>rfl) (fun _=>rfl) c,Vt _ fun f fn c _ _=>ja (fun _=>rfl) (fun _=>rfl) c,KC,fun _ _ h=>by cases h⟩
abbrev IJ:Ty:=(.pair (.int .i64) (.pair (.int .i64) .unit))
def ww (l:List IJ.den):Option (List IJ.den):=bif eH l 16 then some l else none
theorem ZT (xs:List IJ.den):lF amI 1000000 (.call 83 [.lst IJ xs false]) ⟨[],[],[],0⟩ (fun v st=>jk true [(.list IJ,true)] (N7 1 v) st.hp)=(bif eH xs 16 then some (xs,())else none):=by kernel_rfl
theorem ZU:lF amI 1000000 (.call 83 [.lst IJ [] true]) ⟨[],[],[],0⟩ (fun v st=>match v,st.hp with|.nils,[]=>some ()|_,_=>none)=some ():=by kernel_rfl
def ql (l:List IJ.den):Option (List IJ.den×Unit):=match ww l with|some y=>some (y,())|none=>none
def BX:Sum:=⟨[.list IJ],[(.list IJ,true)],fun x=>ql x.1⟩
theorem zn:dU prog 83 BX:=by
 have base:=CE afO (e:=IJ) (e2:=IJ) (g:=83) (f:=ww) (show 0<IJ.size by decide) (show 0<IJ.size by decide) (fun xs y h=>by
  unfold ww at h;rw[ZT];cases hf:eH xs 16 with
  |true=>rw[hf]at h;cases h;rfl
  |false=>rw[hf]at h;cases h) fun y h=>by
  have e:ww []=some []:=rfl;rw[e]at h;cases h;exact⟨rfl,ZU⟩
 intro w bar args' x y hp hb hd hy;refine base w bar args' x y hp hb hd ?_;have hy:ql x.1=some y:=hy;unfold ql at hy;cases hc:ww x.1 with
 |none=>rw[hc]at hy;cases hy
 |some z=>rw[hc]at hy;simp only[hc];exact hy
abbrev xk:Ty:=(.pair .str (.pair .bool .unit))
def vM (l:List xk.den):Option (List xk.den):=bif eH l 24 then some l else none
theorem Wn (xs:List xk.den):lF amI 1000000 (.call 183 [.lst xk xs false]) ⟨[],[],[],0⟩ (fun v st=>jk true [(.list xk,true)] (N7 1 v) st.hp)=(bif eH xs 24 then some (xs,())else none):=by kernel_rfl
theorem Wp:lF amI 1000000 (.call 183 [.lst xk [] true]) ⟨[],[],[],0⟩ (fun v st=>match v,st.hp with|.nils,[]=>some ()|_,_=>none)=some ():=by kernel_rfl
def qQ (l:List xk.den):Option (List xk.den×Unit):=match vM l with|some y=>some (y,())|none=>none
def yw:Sum:=⟨[.list xk],[(.list xk,true)],fun x=>qQ x.1⟩
theorem wZ:dU prog 183 yw:=by
 have base:=CE afO (e:=xk) (e2:=xk) (g:=183) (f:=vM) (show 0<xk.size by decide) (show 0<xk.size by decide) (fun xs y h=>by
  unfold vM at h;rw[Wn];cases hf:eH xs 24 with
  |true=>rw[hf]at h;cases h;rfl
  |false=>rw[hf]at h;cases h) fun y h=>by
  have e:vM []=some []:=rfl;rw[e]at h;cases h;exact⟨rfl,Wp⟩
 intro w bar args' x y hp hb hd hy;refine base w bar args' x y hp hb hd ?_;have hy:qQ x.1=some y:=hy;unfold qQ at hy;cases hc:vM x.1 with
 |none=>rw[hc]at hy;cases hy
 |some z=>rw[hc]at hy;simp only[hc];exact hy
noncomputable def sg1 (g:FuncId):Option Sum:=bif Nat.beq g 83 then some BX else bif Nat.beq g 183 then some yw else sg0 g
theorem YV: ∀g s,sg1 g=some s->dU prog g s:=fun g s h=>by
 unfold sg1 at h;rw[cond_eq_ite]at h;split at h
 ·rename_i hg
  obtain rfl:g=83:=ak hg;cases h;exact zn
 rw[cond_eq_ite]at h;split at h
 ·rename_i hg
  obtain rfl:g=183:=ak hg;cases h;exact wZ
 exact aqm g s h
noncomputable def aD4:Env:={P:=prog,T:=tt,cl:=true,kp:=fun _ _=>none,sg:=sg1,lp:=fun _ _=>none,bf:=Gq}
theorem aDM:dB aD4:=⟨tok,mixed,Nu,YV,fun f fn c _ _=>ja (fun _=>rfl) (fun _=>rfl) c,Vt _ fun f fn c _ _=>ja (fun _=>rfl) (fun _=>rfl) c,KC,fun _ _ h=>by cases h⟩
end
section
open Go.ChangeShapes Go.WideShapes Go.RowKit
end
section
open Tryz
open Go.RowKit
theorem QF {E:Env} {f:FuncId} {c:Code} {k:dM} {l la lb:SP} {ex exb:Ex} {D:Nat} {lp:Nat->l.den->Option (la.den⊕lb.den)}
  (st:{γ:Type}->(l.den->Option γ)->(la.den->Option γ)->(lb.den->Option γ)->l.den->Option γ)
  (hk:E.kp f (cZ c)=some k:=by kernel_rfl) (h0: ∀v,lp 0 v=none:=by intro _;rfl) (hs: ∀n v,lp (n+1) v=st (lp n) (fun e=>some (.inl e)) (fun r=>some (.inr r)) v:=by intro _ _;rfl)
  (h1: ∀{R:Type} (d n:Nat) (K:Ex->St->Option R) (v:l.den),iter (some k) (vz E (d+D) f c) (n+1) (jL l v) K=st (fun v=>iter (some k) (vz E (d+D) f c) n (jL l v) K) (fun e=>K ex (jL la e)) (fun r=>K exb (jL lb r)) v:=by intro _ d n K v;kernel_rfl)
  (h2: ∀{γ δ:Type} (x:l.den->Option γ) (y:la.den->Option γ) (z:lb.den->Option γ) (v:l.den) (K:γ->Option δ),bz (st x y z v) K=st (fun v=>bz (x v) K) (fun e=>bz (y e) K) (fun r=>bz (z r) K) v):
  eQ E f c (iD k l la lb ex (fun v=>lp bP v) D exb):=by
 refine akF hk fun R d K v o h=>⟨bP, ?_⟩;have it: ∀(n:Nat) (v:l.den),iter (some k) (vz E (d+D) f c) n (jL l v) K=bz (lp n v) fun o=>dL o (fun a=>K ex (jL la a)) fun b=>K exb (jL lb b):=by
  intro n
  induction n with
  |zero=>intro v;rw[h0];rfl
  |succ n ih=>intro v;rw[h1,hs,h2,funext ih];rfl
 exact(it bP v).trans (congrArg (fun o=>bz o _) h)
theorem oG {E:Env} {f:FuncId} {c:Code} {k:dM} {l la lb:SQ} {ex exb:Ex} {D:Nat} {lp:Nat->l.den->Option (la.den⊕lb.den)}
  (st:{γ:Type}->(l.den->Option γ)->(la.den->Option γ)->(lb.den->Option γ)->l.den->Option γ)
  (hk:E.kp f (cZ c)=some k:=by kernel_rfl) (h0: ∀v,lp 0 v=none:=by intro _;rfl) (hs: ∀n v,lp (n+1) v=st (lp n) (fun e=>some (.inl e)) (fun r=>some (.inr r)) v:=by intro _ _;rfl)
  (h1: ∀{R:Type} (d n:Nat) (K:Ex->St->Option R) (v:l.den),iter (some k) (vz E (d+D) f c) (n+1) (ku l v) K=st (fun v=>iter (some k) (vz E (d+D) f c) n (ku l v) K) (fun e=>K ex (ku la e)) (fun r=>K exb (ku lb r)) v:=by intro _ d n K v;kernel_rfl)
  (h2: ∀{γ δ:Type} (x:l.den->Option γ) (y:la.den->Option γ) (z:lb.den->Option γ) (v:l.den) (K:γ->Option δ),bz (st x y z v) K=st (fun v=>bz (x v) K) (fun e=>bz (y e) K) (fun r=>bz (z r) K) v):
  eQ E f c (fO k l la lb ex (fun v=>lp bP v) D exb):=by
 refine aet hk fun R d K v o h=>⟨bP, ?_⟩;have it: ∀(n:Nat) (v:l.den),iter (some k) (vz E (d+D) f c) n (ku l v) K=bz (lp n v) fun o=>dL o (fun a=>K ex (ku la a)) fun b=>K exb (ku lb b):=by
  intro n
  induction n with
  |zero=>intro v;rw[h0];rfl
  |succ n ih=>intro v;rw[h1,hs,h2,funext ih];rfl
 exact(it bP v).trans (congrArg (fun o=>bz o _) h)
theorem aEd {E:Env} (hE:dB E) {g:FuncId} {s:Sum} (hn:news s.rs<=1) (h: ∀x,N9 E g s.ps s.rs x=s.f x):dU E.P g s:=
 Iw hE hn fun x y hy=>(h x).trans hy
theorem fL {E:Env} {f:FuncId} {c:Code} {L:dC} (h1:E.lp f (cZ c)=some L) (h2:eQ E f c L): ∀L',E.lp f (cZ c)=some L'->eQ E f c L':=fun L' h=>by
 simp_all
theorem fC {E:Env} {f:FuncId} {c:Code} {L:dC} (h1:E.lp f (800000+cZ c)=some L) (h2:qO E f c L): ∀L',E.lp f (800000+cZ c)=some L'->qO E f c L':=fun L' h=>by
 simp_all
theorem aC {α:Type} {p:α->Prop} {a:α} {l:List α} (h:p a/\ ∀x∈l,p x): ∀x∈a::l,p x:=List.forall_mem_cons.2 h
theorem aN {α:Type} {p:α->Prop}: ∀x∈([]:List α),p x:=fun _ h=>absurd h List.not_mem_nil
theorem aDa {E:Env} (hE:dB E) {g:FuncId} {s:gY} (h: ∀x y,avj E g s.bt s.cs s.ps s.rs x y=s.f x y):eX E.P g s:=acS hE fun x y _ hy=>(h x y).trans hy
theorem wY {P:Program} {g:FuncId} {s:gY} (h: ∀x y,s.f x y=none):eX P g s:=fun W0 c x y z _ _ _ _ args' _ hz=>nomatch (show(none:Option _)=some z from(h x y).symm.trans hz)
theorem aD {α:Type} {p:α->Prop} {a:α} {l:List α} (h:p a) (h2: ∀x∈l,p x): ∀x∈a::l,p x:=aC ⟨h,h2⟩
theorem fM {E:Env} {f:FuncId} {c:Code} {L:dC} (h2:eQ E f c L) (h1:E.lp f (cZ c)=some L:=by kernel_rfl): ∀L',E.lp f (cZ c)=some L'->eQ E f c L':=fL h1 h2
theorem sA {E:Env} (hE:dB E) {g:FuncId} {s:Sum} (hn:news s.rs<=1:=by decide) (h: ∀x,N9 E g s.ps s.rs x=s.f x:=by intro x;kernel_rfl):dU E.P g s:=aEd hE hn h
theorem sB {E:Env} (hE:dB E) {g:FuncId} {s:gY} (h: ∀x y,avj E g s.bt s.cs s.ps s.rs x y=s.f x y:=by intro x y;kernel_rfl):eX E.P g s:=aDa hE h
theorem wK {E:Env} {f:FuncId} {c:Code} (l:List Code) (h: ∀d∈l,∀L,E.lp f (cZ d)=some L->eQ E f d L) (hl:jf c=l:=by kernel_rfl) (k:Xw E f c=true:=by kernel_rfl) (hrf: ∀id,E.rf f id=false:=by intro _;rfl):dO E f c:=aeu c hrf (by rw[hl];exact h) k
theorem eA {f:FuncId} {sg:List (FuncId×Sum)} {kp:List (Nat×dM)} {lp:List (Nat×dC)} {sb:List (FuncId×gY)} (fn:Func) (hs: ∀e∈sg,dU prog e.1 e.2) (hl:dO (fZ prog tt f sg kp lp sb) f (fn.body.getD .skip):=by exact ja (fun _=>rfl) (fun _=>rfl) _) (hf:prog.funcs[f]? =some fn:=by kernel_rfl) (hb:fn.body=some (fn.body.getD .skip):=by kernel_rfl) (hx: ∀e∈sb,eX prog e.1 e.2:=by simp):dB (fZ prog tt f sg kp lp sb):=anK tok mixed Nu hs hf hb hl Vt KC hx
theorem eB {sg:List (FuncId×Sum)} {kp:List (FuncId×Nat×dM)} {lp:List (FuncId×Nat×dC)} {rf:List FuncId} {sb:List (FuncId×gY)} (hs: ∀e∈sg,dU prog e.1 e.2) (fs:List FuncId) (hl: ∀g∈fs,∃fn c,prog.funcs[g]? =some fn/\fn.body=some c/\dO (eu prog tt sg kp lp rf sb) g c) (hx: ∀e∈sb,eX prog e.1 e.2:=by simp) (hall:(lp.all fun e=>fs.any fun g=>Nat.beq e.1 g)=true:=by kernel_rfl) (hall2:(rf.all fun e=>fs.any fun g=>Nat.beq e g)=true:=by kernel_rfl):dB (eu prog tt sg kp lp rf sb):=aj1 tok mixed Nu hs fs hall hall2 hl Vt KC hx
end
section
open Tryz
open Go.RowKit
def Gf (x0:List jJ) (x1:Bool) (x2 x3:Int):Option (Zm×(Unit)):=bif(gI x0 (ed .i64 (bC x0) 1))then bif(qi (dA (ed .i64 (bC x0) 1)) x0)then some (((ik x0 (dA (ed .i64 (bC x0) 1)) (x3,((dI x0 (0,(0,())) (dA (ed .i64 (bC x0) 1))).2.1,()))),(x1,(x2,()))),())else none else none
def aii:gY:=⟨137,tzC,[cu],[],fun x y=>Gf x.1 x.2.1 x.2.2.1 y.1⟩
noncomputable def aBE:Env:=eu prog tt [] [] [] []
theorem anD:dB aBE:=eB aN [] aN
theorem Sv:eX prog 80 aii:=sB anD
def Hm (x0:List jJ) (x1:Bool) (x2:Int):Option (Zm×(Unit)):=bif(iw 1 (bC x0))then bif(fF (bC x0) 0 (ed .i64 (bC x0) 1))then some (((takeN x0 (dA (ed .i64 (bC x0) 1))),(x1,(x2,()))),())else none else some ((x0,(x1,(x2,()))),())
def Sz:gY:=⟨137,tzC,[],[],fun x y=>Hm x.1 x.2.1 x.2.2.1⟩
noncomputable def aBF:Env:=eu prog tt [] [] [] []
theorem anE:dB aBF:=eB aN [] aN
theorem Am:eX prog 81 Sz:=sB anE
def afU (x0:List jJ) (x1:Bool) (x2:Int):Option (Zm×BZ):=bif(gI x0 (Bf (ed .i64 (bC x0) 2) 0))then bif(qi (dA (Bf (ed .i64 (bC x0) 2) 0)) x0)then some ((x0,(x1,(x2,()))),((dI x0 (0,(0,())) (dA (Bf (ed .i64 (bC x0) 2) 0))).1,()))else none else none
def aqI:gY:=⟨137,tzC,[],[cu],fun x y=>afU x.1 x.2.1 x.2.2.1⟩
noncomputable def axJ:Env:=eu prog tt [] [] [] []
theorem aiR:dB axJ:=eB aN [] aN
theorem ala:eX prog 118 aqI:=sB aiR
def aaG (x0:List jJ) (x1:Bool) (x2 x3:Int):Option (Zm×oW):=bif(bM x3 40)then bz (Gf x0 x1 x2 3) fun y0=>some ((y0.1.1,(true,(y0.1.2.2.1,()))),(true,()))else bif(bM x3 123)then bz (afU x0 x1 x2) fun y0=>bif(bM y0.2.1 5)then bif(bM y0.2.1 5)then bz (Gf y0.1.1 y0.1.2.1 y0.1.2.2.1 8) fun y1=>some ((y1.1.1,(y1.1.2.1,(y1.1.2.2.1,()))),(true,()))else bz (Gf y0.1.1 y0.1.2.1 y0.1.2.2.1 7) fun y1=>some ((y1.1.1,(y1.1.2.1,(y1.1.2.2.1,()))),(true,()))else bif(bM y0.2.1 8)then bz (Gf y0.1.1 y0.1.2.1 y0.1.2.2.1 8) fun y1=>some ((y1.1.1,(y1.1.2.1,(y1.1.2.2.1,()))),(true,()))else bz (Gf y0.1.1 y0.1.2.1 y0.1.2.2.1 7) fun y1=>some ((y1.1.1,(y1.1.2.1,(y1.1.2.2.1,()))),(true,()))else bif(bM x3 36)then bz (Hm x0 x1 x2) fun y0=>some ((y0.1.1,(y0.1.2.1,(y0.1.2.2.1,()))),(true,()))else bz (Hm x0 x1 x2) fun y0=>some ((y0.1.1,(y0.1.2.1,(y0.1.2.2.1,()))),(false,()))
def awX:gY:=⟨137,tzC,[.int .u8],[.bool],fun x y=>aaG x.1 x.2.1 x.2.2.1 y.1⟩
noncomputable def aBD:Env:=eu prog tt [] [] [] [] [(80,aii),(81,Sz),(118,aqI)]
theorem anC:dB aBD:=eB aN [] aN (hx:=(aD Sv (aD Am (aD ala aN))))
theorem arU:eX prog 79 awX:=sB anC
def wE (x0:List jJ) (x1:Bool) (x2 x3:Int):Option (Zm×(Unit)):=bif(bM x3 x3)then bif(bM x2 x2)then bif(eH (bT x0 [(x3,(x2,()))]) 16)then bif(bM x3 x3)then bif(bM x2 x2)then bif((bM x3 x3)&&((bM x2 x2)&&true))then some (((bT x0 [(x3,(x2,()))]),(x1,(x2,()))),())else none else none else none else none else none else none
def Md:gY:=⟨137,tzC,[cu],[],fun x y=>wE x.1 x.2.1 x.2.2.1 y.1⟩
noncomputable def axL:Env:=eu prog tt [] [] [] []
theorem aiT:dB axL:=eB aN [] aN
theorem Aj:eX prog 120 Md:=sB aiT
def Qd (x0:List jJ) (x1:Bool) (x2 x3:Int):Option (Zm×oW):=bif(bM x3 92)then bz (wE x0 x1 x2 13) fun y0=>some ((y0.1.1,(y0.1.2.1,(y0.1.2.2.1,()))),(true,()))else bif(bM x3 36)then bz (wE x0 x1 x2 12) fun y0=>some ((y0.1.1,(y0.1.2.1,(y0.1.2.2.1,()))),(true,()))else bif(bM x3 96)then bz (wE x0 x1 x2 6) fun y0=>some ((y0.1.1,(y0.1.2.1,(y0.1.2.2.1,()))),(true,()))else some ((x0,(x1,(x2,()))),(false,()))
def Zg:gY:=⟨137,tzC,[.int .u8],[.bool],fun x y=>Qd x.1 x.2.1 x.2.2.1 y.1⟩
noncomputable def ax2:Env:=eu prog tt [] [] [] [] [(120,Md)]
theorem aje:dB ax2:=eB aN [] aN (hx:=(aD Aj aN))
theorem MC:eX prog 163 Zg:=sB aje
noncomputable def ZG:Code:=(f123.body).getD .skip
noncomputable def xn:Code:=cB (cB (cB (cB (cB (cB (cB (cA (cA (cB (ZG))))))))))
noncomputable def xq:Code:=cB (cB (ZG))
noncomputable def xu:Code:=cB (cA (cB (cA (cB (cB (ZG))))))
noncomputable def xw:Code:=cB (cB (cB (cA (cB (cA (cB (cB (ZG))))))))
def xG:dM:=⟨[0,18,900011],[],[0],[],[2],[]⟩
def xH:dM:=⟨[0,900012],[],[2],[],[2],[]⟩
def xI:dM:=⟨[33,34,900020],[],[],[],[2],[]⟩
def xJ:dM:=⟨[42,900026],[],[],[],[2],[]⟩
def DW:SP:=⟨us [.v (.int .u8),.u,.u,.u,.u,.u,.u,.u,.u,.u,.u,.u,.u,.u,.u,.u,.u,.u,.v .bool] 29,[]⟩
def qE:SP:=⟨us [.v (.int .u8)] 47,[]⟩
def qG:SP:=⟨us [.u,.u,.v cu] 45,[]⟩
def BK {γ:Type} (kE kR:Int->Option γ) (v0:Int) (v1:Bool):Option γ:=bif v1 then kR 5 else kE v0
def kN (v0:Int) (v1:Bool):Option (qE.den⊕qG.den):=BK (fun e0=>some (.inl ((e0,()),()))) (fun r0=>some (.inr ((r0,()),()))) v0 v1
noncomputable def JF:dC:=iD xG DW qE qG (.exit 999999) (fun v=>kN v.1.1 v.1.2.1) 6
def DZ:SP:=⟨[.u,.u,.u,.u,.u,.u,.u,.u,.u,.u,.u,.u,.u,.u,.u,.u,.u,.u,.u,.u,.u,.u,.u,.u,.u,.u,.u,.u,.u,.u,.u,.u,.u,.u,.u,.u,.u,.u,.u,.u,.u,.u,.v .bool,.u,.u,.u,.u,.u],[]⟩
def uV:SP:=⟨us [] 48,[]⟩
def uZ:SP:=⟨us [.u,.u,.v cu] 45,[]⟩
def BN {γ:Type} (kE:Option γ) (kR:Int->Option γ) (v0:Bool):Option γ:=bif v0 then kR 4 else kE
def kP (v0:Bool):Option (uV.den⊕uZ.den):=BN (some (.inl ((),()))) (fun r0=>some (.inr ((r0,()),()))) v0
noncomputable def JI:dC:=iD xJ DZ uV uZ (.exit 999999) (fun v=>kP v.1.1) 12
def DY:SP:=⟨us [.u,.u,.u,.u,.u,.u,.u,.u,.u,.u,.u,.u,.u,.u,.u,.u,.u,.u,.u,.u,.u,.u,.u,.u,.u,.u,.u,.u,.u,.u,.u,.u,.u,.v (.int .u8),.v .bool] 13,[]⟩
def uU:SP:=⟨us [] 48,[]⟩
def uY:SP:=⟨us [.u,.u,.v cu] 45,[]⟩
def BM {γ:Type} (kE:Option γ) (kR:Int->Option γ) (v0:Int) (v1:Bool):Option γ:=bif v1 then kR 3 else bif(bM v0 92)then bz (kP (bM v0 92)) fun y0=>dL y0 (fun a1=>kE) (fun b1=>kR b1.1.1)else bif(bM v0 39)then bz (kP (bM v0 39)) fun y0=>dL y0 (fun a1=>kE) (fun b1=>kR b1.1.1)else bif(bM v0 34)then bz (kP (bM v0 34)) fun y0=>dL y0 (fun a1=>kE) (fun b1=>kR b1.1.1)else bif(bM v0 96)then bz (kP (bM v0 96)) fun y0=>dL y0 (fun a1=>kE) (fun b1=>kR b1.1.1)else bz (kP (bM v0 36)) fun y0=>dL y0 (fun a1=>kE) (fun b1=>kR b1.1.1)
def jq (v0:Int) (v1:Bool):Option (uU.den⊕uY.den):=BM (some (.inl ((),()))) (fun r0=>some (.inr ((r0,()),()))) v0 v1
noncomputable def JH:dC:=iD xI DY uU uY (.exit 999999) (fun v=>jq v.1.1 v.1.2.1) 18
def DX:SP:=⟨us [.v (.int .u8)] 47,[]⟩
def uT:SP:=⟨[],[]⟩
def uX:SP:=⟨us [.u,.u,.v cu] 45,[]⟩
def BL {γ:Type} (kE:Option γ) (kR:Int->Option γ) (v0:Int):Option γ:=bif(bM v0 124)then bz (jq v0 (bM v0 124)) fun y0=>dL y0 (fun a1=>kR 0) (fun b1=>kR b1.1.1)else bif(bM v0 38)then bz (jq v0 (bM v0 38)) fun y0=>dL y0 (fun a1=>kR 0) (fun b1=>kR b1.1.1)else bif(bM v0 59)then bz (jq v0 (bM v0 59)) fun y0=>dL y0 (fun a1=>kR 0) (fun b1=>kR b1.1.1)else bif(bM v0 60)then bz (jq v0 (bM v0 60)) fun y0=>dL y0 (fun a1=>kR 0) (fun b1=>kR b1.1.1)else bif(bM v0 62)then bz (jq v0 (bM v0 62)) fun y0=>dL y0 (fun a1=>kR 0) (fun b1=>kR b1.1.1)else bif(bM v0 40)then bz (jq v0 (bM v0 40)) fun y0=>dL y0 (fun a1=>kR 0) (fun b1=>kR b1.1.1)else bz (jq v0 (bM v0 41)) fun y0=>dL y0 (fun a1=>kR 0) (fun b1=>kR b1.1.1)
def uH (v0:Int):Option (uT.den⊕uX.den):=BL (some (.inl ((),()))) (fun r0=>some (.inr ((r0,()),()))) v0
noncomputable def JG:dC:=iD xH DX uT uX (.exit 0) (fun v=>uH v.1.1) 24
def Jg (y0:qE.den⊕qG.den):Option BZ:=dL y0 (fun a1=>bz (uH a1.1.1) fun y2=>dL y2 (fun a3=>none) (fun b3=>some (b3.1.1,()))) (fun b1=>some (b1.1.1,()))
def Og (x0:Int):Option BZ:=bif(leI 65 x0)then bif(leI x0 90)then bz (kN x0 (leI x0 90)) fun y0=>Jg y0 else bz (kN x0 (bM x0 95)) fun y0=>Jg y0 else bz (kN x0 (bM x0 95)) fun y0=>Jg y0
def afX (x0:Int):Option BZ:=bif(bM x0 10)then some (2,())else bif(leI 48 x0)then bif(leI x0 57)then some (6,())else bif(leI 97 x0)then bif(leI x0 122)then bz (kN x0 (leI x0 122)) fun y0=>Jg y0 else Og x0 else Og x0 else bif(leI 97 x0)then bif(leI x0 122)then bz (kN x0 (leI x0 122)) fun y0=>Jg y0 else Og x0 else Og x0
def Gj (x0:Int):Option BZ:=bif(bM x0 32)then bif(bM x0 32)then some (1,())else afX x0 else bif(bM x0 9)then some (1,())else afX x0
def Ey:Sum:=⟨[.int .u8],Zw,fun x=>Gj x.1⟩
noncomputable def pG:Env:=fZ prog tt 123 [] [(800011,xG),(800012,xH),(800020,xI),(800026,xJ)] [(800011,JF),(800026,JI),(800020,JH),(800012,JG)]
theorem RQ {R:Type} (d:Nat) (K:Ex->St->Option R) (v0:Int) (v1:Bool):
  iter (some xG) (yD (vz pG (d+6) 123 xn)) 1 (jL DW ((v0,v1,()),())) K=
   BK (fun e0=>K (.exit 999999) (jL qE ((e0,()),()))) (fun r0=>K .ret (jL qG ((r0,()),()))) v0 v1:=by kernel_rfl
theorem Xa {R:Type} (d:Nat) (K:Ex->St->Option R) (v0:Int) (v1:Bool):
  iter (some xG) (yD (vz pG (d+6) 123 xn)) 1 (jL DW ((v0,v1,()),())) K=bz (kN v0 v1) fun o=>dL o (fun a=>K (.exit 999999) (jL qE a)) fun b=>K .ret (jL qG b):=by
  rw[RQ];simp only[kN,BK,dm,dn,bu,dh,dw]
  try simp only[dL]
theorem Xx:qO pG 123 xn JF:=Dh (by kernel_rfl) fun R d K v o h=>⟨1,(Xa d K (v.1.1) (v.1.2.1)).trans (congrArg (fun o=>bz o _) h)⟩
theorem RV {R:Type} (d:Nat) (K:Ex->St->Option R) (v0:Bool):
  iter (some xJ) (yD (vz pG (d+12) 123 xw)) 1 (jL DZ ((v0,()),())) K=
   BN (K (.exit 999999) (jL uV ((),()))) (fun r0=>K .ret (jL uZ ((r0,()),()))) v0:=by kernel_rfl
theorem Xd {R:Type} (d:Nat) (K:Ex->St->Option R) (v0:Bool):
  iter (some xJ) (yD (vz pG (d+12) 123 xw)) 1 (jL DZ ((v0,()),())) K=bz (kP v0) fun o=>dL o (fun a=>K (.exit 999999) (jL uV a)) fun b=>K .ret (jL uZ b):=by
  rw[RV];simp only[kP,BN,dm,dn,bu,dh,dw]
  try simp only[dL]
theorem XA:qO pG 123 xw JI:=Dh (by kernel_rfl) fun R d K v o h=>⟨1,(Xd d K (v.1.1)).trans (congrArg (fun o=>bz o _) h)⟩
theorem RU {R:Type} (d:Nat) (K:Ex->St->Option R) (v0:Int) (v1:Bool):
  iter (some xI) (yD (vz pG (d+18) 123 xu)) 1 (jL DY ((v0,v1,()),())) K=
   BM (K (.exit 999999) (jL uU ((),()))) (fun r0=>K .ret (jL uY ((r0,()),()))) v0 v1:=by kernel_rfl
theorem Xc {R:Type} (d:Nat) (K:Ex->St->Option R) (v0:Int) (v1:Bool):
  iter (some xI) (yD (vz pG (d+18) 123 xu)) 1 (jL DY ((v0,v1,()),())) K=bz (jq v0 v1) fun o=>dL o (fun a=>K (.exit 999999) (jL uU a)) fun b=>K .ret (jL uY b):=by
  rw[RU];simp only[jq,BM,dm,dn,bu,dh,dw]
  try simp only[dL]
theorem Xz:qO pG 123 xu JH:=Dh (by kernel_rfl) fun R d K v o h=>⟨1,(Xc d K (v.1.1) (v.1.2.1)).trans (congrArg (fun o=>bz o _) h)⟩
theorem RS {R:Type} (d:Nat) (K:Ex->St->Option R) (v0:Int):
  iter (some xH) (yD (vz pG (d+24) 123 xq)) 1 (jL DX ((v0,()),())) K=
   BL (K (.exit 0) (jL uT ((),()))) (fun r0=>K .ret (jL uX ((r0,()),()))) v0:=by kernel_rfl
theorem Xb {R:Type} (d:Nat) (K:Ex->St->Option R) (v0:Int):
  iter (some xH) (yD (vz pG (d+24) 123 xq)) 1 (jL DX ((v0,()),())) K=bz (uH v0) fun o=>dL o (fun a=>K (.exit 0) (jL uT a)) fun b=>K .ret (jL uX b):=by
  rw[RS];simp only[uH,BL,dm,dn,bu,dh,dw]
  try simp only[dL]
theorem Xy:qO pG 123 xq JG:=Dh (by kernel_rfl) fun R d K v o h=>⟨1,(Xb d K (v.1.1)).trans (congrArg (fun o=>bz o _) h)⟩
theorem aza:jf ZG=[]:=by kernel_rfl
theorem axy:EZ pG 123 ZG=[xn,xq,xu,xw]:=by kernel_rfl
theorem azl:dO pG 123 ZG:=xN ZG (fun x _ hx=>absurd (show false=true from hx) (by decide)) (by rw[aza];exact aN) (A7 (by rw[axy];exact(aD (fC (by kernel_rfl) (Xx)) (aD (fC (by kernel_rfl) (Xy)) (aD (fC (by kernel_rfl) (Xz)) (aD (fC (by kernel_rfl) (XA)) aN))))))
theorem aiW:dB pG:=eA f123 aN (azl)
theorem rF:dU prog 123 Ey:=sA aiW
def Gm (x0:Int):Option oW:=bz (Gj x0) fun y0=>bif(bM y0.1 1)then bif(bM y0.1 1)then some (true,())else some (false,())else bif(bM y0.1 2)then bif(bM y0.1 2)then some (true,())else some (false,())else bif(bM y0.1 3)then some (true,())else some (false,())
def afs:Sum:=⟨[.int .u8],NT,fun x=>Gm x.1⟩
noncomputable def ax3:Env:=fZ prog tt 164 [(123,Ey)] [] []
theorem ajf:dB ax3:=eA f164 (aD rF aN)
theorem VJ:dU prog 164 afs:=sA ajf
def Jf (x4:Int) (x0:List jJ) (x2:Int):Option (Zm×(Unit)):=bz (Gm x4) fun y0=>some ((x0,(y0.1,(x2,()))),())
def UH (x0:List jJ) (x1:Bool) (x2 x3 x4:Int):Option (Zm×(Unit)):=bif(bM x4 92)then bz (wE x0 x1 x2 13) fun y0=>some ((y0.1.1,(y0.1.2.1,(y0.1.2.2.1,()))),())else bif(bM x4 35)then bif x1 then bz (wE x0 x1 x2 14) fun y0=>some ((y0.1.1,(y0.1.2.1,(y0.1.2.2.1,()))),())else Jf x4 x0 x2 else bif(bM x4 40)then bif(!(bM x3 0))then bz (wE x0 x1 x2 2) fun y0=>bz (Gm x4) fun y1=>some ((y0.1.1,(y1.1,(y0.1.2.2.1,()))),())else Jf x4 x0 x2 else bif(bM x4 41)then bif(!(bM x3 0))then bz (Hm x0 x1 x2) fun y0=>some ((y0.1.1,((!(bM x3 1)),(y0.1.2.2.1,()))),())else some ((x0,((!(bM x3 1)),(x2,()))),())else bif(bM x4 39)then bz (wE x0 x1 x2 4) fun y0=>bz (Gm x4) fun y1=>some ((y0.1.1,(y1.1,(y0.1.2.2.1,()))),())else bif(bM x4 34)then bz (wE x0 x1 x2 5) fun y0=>bz (Gm x4) fun y1=>some ((y0.1.1,(y1.1,(y0.1.2.2.1,()))),())else bif(bM x4 36)then bif(bM x4 36)then bz (Qd x0 x1 x2 x4) fun y0=>bz (Gm x4) fun y1=>some ((y0.1.1,(y1.1,(y0.1.2.2.1,()))),())else Jf x4 x0 x2 else bif(bM x4 96)then bz (Qd x0 x1 x2 x4) fun y0=>bz (Gm x4) fun y1=>some ((y0.1.1,(y1.1,(y0.1.2.2.1,()))),())else Jf x4 x0 x2
def aqJ:gY:=⟨137,tzC,[cu,.int .u8],[],fun x y=>UH x.1 x.2.1 x.2.2.1 y.1 y.2.1⟩
noncomputable def axK:Env:=eu prog tt [(164,afs)] [] [] [] [(81,Sz),(120,Md),(163,Zg)]
theorem aiS:dB axK:=eB (aD VJ aN) [] aN (hx:=(aD Am (aD Aj (aD MC aN))))
theorem alb:eX prog 119 aqJ:=sB aiS
def afV (x0:List jJ) (x1:Bool) (x2 x3 x4:Int):Option (Zm×(Unit)):=bz (Qd x0 x1 x2 x4) fun y0=>bif y0.2.1 then some ((y0.1.1,(y0.1.2.1,(y0.1.2.2.1,()))),())else bif(bM x4 40)then bz (wE y0.1.1 y0.1.2.1 y0.1.2.2.1 10) fun y1=>some ((y1.1.1,(y1.1.2.1,(y1.1.2.2.1,()))),())else bif(bM x4 41)then bif(bM x3 10)then bz (Hm y0.1.1 y0.1.2.1 y0.1.2.2.1) fun y1=>some ((y1.1.1,(y1.1.2.1,(y1.1.2.2.1,()))),())else bif(bM x4 41)then bz (Gf y0.1.1 y0.1.2.1 y0.1.2.2.1 11) fun y1=>some ((y1.1.1,(y1.1.2.1,(y1.1.2.2.1,()))),())else some ((y0.1.1,(y0.1.2.1,(y0.1.2.2.1,()))),())else bif(bM x4 41)then bz (Gf y0.1.1 y0.1.2.1 y0.1.2.2.1 11) fun y1=>some ((y1.1.1,(y1.1.2.1,(y1.1.2.2.1,()))),())else some ((y0.1.1,(y0.1.2.1,(y0.1.2.2.1,()))),())
def aqL:gY:=⟨137,tzC,[cu,.int .u8],[],fun x y=>afV x.1 x.2.1 x.2.2.1 y.1 y.2.1⟩
noncomputable def axM:Env:=eu prog tt [] [] [] [] [(80,aii),(81,Sz),(120,Md),(163,Zg)]
theorem aiU:dB axM:=eB aN [] aN (hx:=(aD Sv (aD Am (aD Aj (aD MC aN)))))
theorem alc:eX prog 121 aqL:=sB aiU
def WN (x4 x3:Int) (y0:(Zm×oW)):Option (Zm×(Unit)):=bif(bM x4 39)then bif(bM x3 7)then bz (wE y0.1.1 y0.1.2.1 y0.1.2.2.1 4) fun y1=>some ((y1.1.1,(y1.1.2.1,(y1.1.2.2.1,()))),())else some ((y0.1.1,(y0.1.2.1,(y0.1.2.2.1,()))),())else some ((y0.1.1,(y0.1.2.1,(y0.1.2.2.1,()))),())
def WO (x4:Int) (y0:(Zm×oW)) (x3:Int):Option (Zm×(Unit)):=bif(bM x4 34)then bz (wE y0.1.1 y0.1.2.1 y0.1.2.2.1 5) fun y1=>some ((y1.1.1,(y1.1.2.1,(y1.1.2.2.1,()))),())else bif(bM x4 125)then bif(!(bM x3 5))then bz (Hm y0.1.1 y0.1.2.1 y0.1.2.2.1) fun y1=>some ((y1.1.1,(y1.1.2.1,(y1.1.2.2.1,()))),())else WN x4 x3 y0 else WN x4 x3 y0
def afW (x0:List jJ) (x1:Bool) (x2 x3 x4:Int):Option (Zm×(Unit)):=bz (Qd x0 x1 x2 x4) fun y0=>bif y0.2.1 then some ((y0.1.1,(y0.1.2.1,(y0.1.2.2.1,()))),())else bif(bM x4 34)then bif(bM x3 5)then bz (Hm y0.1.1 y0.1.2.1 y0.1.2.2.1) fun y1=>some ((y1.1.1,(y1.1.2.1,(y1.1.2.2.1,()))),())else WO x4 y0 x3 else WO x4 y0 x3
def aqM:gY:=⟨137,tzC,[cu,.int .u8],[],fun x y=>afW x.1 x.2.1 x.2.2.1 y.1 y.2.1⟩
noncomputable def axN:Env:=eu prog tt [] [] [] [] [(81,Sz),(120,Md),(163,Zg)]
theorem aiV:dB axN:=eB aN [] aN (hx:=(aD Am (aD Aj (aD MC aN))))
theorem ald:eX prog 122 aqM:=sB aiV
def Ho (x3:Int) (x0:List jJ) (x1:Bool) (x2 x4:Int):Option (Zm×(Unit)):=bif(bM x3 13)then bz (Hm x0 x1 x2) fun y0=>bif y0.1.2.1 then some ((y0.1.1,((bM x4 10),(y0.1.2.2.1,()))),())else some ((y0.1.1,(false,(y0.1.2.2.1,()))),())else bif(bM x3 4)then bif(bM x4 39)then bz (Hm x0 x1 x2) fun y0=>some ((y0.1.1,(y0.1.2.1,(y0.1.2.2.1,()))),())else some ((x0,(x1,(x2,()))),())else bif(bM x3 14)then bif(bM x4 10)then bz (Hm x0 x1 x2) fun y0=>some ((y0.1.1,(true,(y0.1.2.2.1,()))),())else some ((x0,(x1,(x2,()))),())else bif(bM x3 6)then bif(bM x4 96)then bz (Hm x0 x1 x2) fun y0=>some ((y0.1.1,(y0.1.2.1,(y0.1.2.2.1,()))),())else bif(bM x4 92)then bz (wE x0 x1 x2 13) fun y0=>some ((y0.1.1,(y0.1.2.1,(y0.1.2.2.1,()))),())else some ((x0,(x1,(x2,()))),())else bif(bM x3 9)then bif(bM x3 9)then bz (afV x0 x1 x2 x3 x4) fun y0=>some ((y0.1.1,(y0.1.2.1,(y0.1.2.2.1,()))),())else bz (afW x0 x1 x2 x3 x4) fun y0=>some ((y0.1.1,(y0.1.2.1,(y0.1.2.2.1,()))),())else bif(bM x3 10)then bz (afV x0 x1 x2 x3 x4) fun y0=>some ((y0.1.1,(y0.1.2.1,(y0.1.2.2.1,()))),())else bz (afW x0 x1 x2 x3 x4) fun y0=>some ((y0.1.1,(y0.1.2.1,(y0.1.2.2.1,()))),())
def aaH (x0:List jJ) (x1:Bool) (x2 x3 x4:Int):Option (Zm×(Unit)):=bif(bM x3 0)then bif(bM x3 0)then bz (UH x0 x1 x2 x3 x4) fun y0=>some ((y0.1.1,(y0.1.2.1,(y0.1.2.2.1,()))),())else Ho x3 x0 x1 x2 x4 else bif(bM x3 1)then bif(bM x3 1)then bz (UH x0 x1 x2 x3 x4) fun y0=>some ((y0.1.1,(y0.1.2.1,(y0.1.2.2.1,()))),())else Ho x3 x0 x1 x2 x4 else bif(bM x3 2)then bz (UH x0 x1 x2 x3 x4) fun y0=>some ((y0.1.1,(y0.1.2.1,(y0.1.2.2.1,()))),())else Ho x3 x0 x1 x2 x4
def awY:gY:=⟨137,tzC,[cu,.int .u8],[],fun x y=>aaH x.1 x.2.1 x.2.2.1 y.1 y.2.1⟩
noncomputable def aBG:Env:=eu prog tt [] [] [] [] [(81,Sz),(119,aqJ),(120,Md),(121,aqL),(122,aqM)]
theorem anF:dB aBG:=eB aN [] aN (hx:=(aD Am (aD alb (aD Aj (aD alc (aD ald aN))))))
theorem arV:eX prog 82 awY:=sB anF
noncomputable def b45:Code:=(f45.body).getD .skip
noncomputable def afI:Code:=cA (cA (cA (cB (cB (cA (b45))))))
def aoZ:dM:=⟨[0,1,100002],[],[0],[],[],[]⟩
def ay0:dM:=⟨[0,1],[],[],[],[],[]⟩
def ahd:SQ:=⟨us [.ptr 0 0,.v (.int .u8)] 63,[[.ptr 0 0]],[.arr 2000002 EG,.box 0 137 [.slc 2000002,.v .bool,.v cu],.arr 1 EG]⟩
def aeQ:SQ:=⟨us [.ptr 0 0] 64,[[.ptr 0 0]],[.arr 2000002 EG,.box 0 137 [.slc 2000002,.v .bool,.v cu],.arr 1 EG]⟩
def ae3:SQ:=⟨us [] 65,[[.ptr 0 0]],[]⟩
def afl {γ:Type} (rec:Int->(List jJ)->Bool->Int->(List jJ)->Option γ) (kE:(List jJ)->Bool->Int->(List jJ)->Option γ) (kR:Option γ) (v0:Int) (v1:List jJ) (v2:Bool) (v3:Int) (v4:List jJ):Option γ:=bif(gI v1 (ed .i64 (bC v1) 1))then bif(qi (dA (ed .i64 (bC v1) 1)) v1)then bif(bM (dI v1 (0,(0,())) (dA (ed .i64 (bC v1) 1))).1 12)then bz (aaG v1 v2 v3 v0) fun y0=>bif y0.2.1 then kE y0.1.1 y0.1.2.1 y0.1.2.2.1 v4 else rec v0 y0.1.1 y0.1.2.1 y0.1.2.2.1 v4 else bif(bM (dI v1 (0,(0,())) (dA (ed .i64 (bC v1) 1))).1 3)then bif(bM v0 40)then bz (Gf v1 v2 v3 9) fun y0=>kE y0.1.1 false y0.1.2.2.1 v4 else bz (Gf v1 v2 v3 1) fun y0=>rec v0 y0.1.1 y0.1.2.1 y0.1.2.2.1 v4 else bif(bM (dI v1 (0,(0,())) (dA (ed .i64 (bC v1) 1))).1 11)then bif(bM v0 41)then bz (Hm v1 v2 v3) fun y0=>kE y0.1.1 y0.1.2.1 y0.1.2.2.1 v4 else bz (Gf v1 v2 v3 9) fun y0=>rec v0 y0.1.1 y0.1.2.1 y0.1.2.2.1 v4 else bz (aaH v1 v2 v3 (dI v1 (0,(0,())) (dA (ed .i64 (bC v1) 1))).1 v0) fun y0=>kE y0.1.1 y0.1.2.1 y0.1.2.2.1 v4 else none else none
def aew:Nat->Int->(List jJ)->Bool->Int->(List jJ)->Option (aeQ.den⊕ae3.den)
 |0,_,_,_,_,_=>none
 |n+1,v0,v1,v2,v3,v4=>afl (aew n) (fun e0 e1 e2 e3=>some (.inl ((),((),()),(e0,(e1,e2,()),e3,())))) (some (.inr ((),((),()),()))) v0 v1 v2 v3 v4
def azJ (n:Nat) (v:ahd.den):=aew n v.1.1 v.2.2.1 v.2.2.2.1.1 v.2.2.2.1.2.1 v.2.2.2.2.1
noncomputable def aeC:dC:=fO aoZ ahd aeQ ae3 (.exit 0) (azJ bP) 6
def Ox:SQ:=⟨us [.ptr 0 0,.v (.int .u8)] 63,[[.ptr 0 0]],[.box 0 137 [.slc 1,.v .bool,.v cu],.arr 1 EG]⟩
def Q5:SQ:=⟨us [.ptr 0 0] 64,[[.ptr 0 0]],[.box 0 137 [.slc 1,.v .bool,.v cu],.arr 1 EG]⟩
def Q9:SQ:=⟨us [] 65,[[.ptr 0 0]],[]⟩
def Et {γ:Type} (rec:Int->Bool->Int->(List jJ)->Option γ) (kE:Bool->Int->(List jJ)->Option γ) (kR:Option γ) (v0:Int) (v1:Bool) (v2:Int) (v3:List jJ):Option γ:=bif(gI v3 (ed .i64 (bC v3) 1))then bif(qi (dA (ed .i64 (bC v3) 1)) v3)then bif(bM (dI v3 (0,(0,())) (dA (ed .i64 (bC v3) 1))).1 12)then bz (aaG v3 v1 v2 v0) fun y0=>bif y0.2.1 then kE y0.1.2.1 y0.1.2.2.1 y0.1.1 else rec v0 y0.1.2.1 y0.1.2.2.1 y0.1.1 else bif(bM (dI v3 (0,(0,())) (dA (ed .i64 (bC v3) 1))).1 3)then bif(bM v0 40)then bz (Gf v3 v1 v2 9) fun y0=>kE false y0.1.2.2.1 y0.1.1 else bz (Gf v3 v1 v2 1) fun y0=>rec v0 y0.1.2.1 y0.1.2.2.1 y0.1.1 else bif(bM (dI v3 (0,(0,())) (dA (ed .i64 (bC v3) 1))).1 11)then bif(bM v0 41)then bz (Hm v3 v1 v2) fun y0=>kE y0.1.2.1 y0.1.2.2.1 y0.1.1 else bz (Gf v3 v1 v2 9) fun y0=>rec v0 y0.1.2.1 y0.1.2.2.1 y0.1.1 else bz (aaH v3 v1 v2 (dI v3 (0,(0,())) (dA (ed .i64 (bC v3) 1))).1 v0) fun y0=>kE y0.1.2.1 y0.1.2.2.1 y0.1.1 else none else none
def zU:Nat->Int->Bool->Int->(List jJ)->Option (Q5.den⊕Q9.den)
 |0,_,_,_,_=>none
 |n+1,v0,v1,v2,v3=>Et (zU n) (fun e0 e1 e2=>some (.inl ((),((),()),((e0,e1,()),e2,())))) (some (.inr ((),((),()),()))) v0 v1 v2 v3
def apf (n:Nat) (v:Ox.den):=zU n v.1.1 v.2.2.1.1 v.2.2.1.2.1 v.2.2.2.1
noncomputable def QK:dC:=fO aoZ Ox Q5 Q9 (.exit 0) (apf bP) 12
def akf (x0:List jJ) (x1:Bool) (x2 x3:Int):Option (Zm×(Unit)):=bif(bM (bC x0) 0)then bz (aew bP x3 [(0,(0,()))] true 0 x0) fun y0=>dL y0 (fun a1=>some ((a1.2.2.1,(a1.2.2.2.1.1,((bU .i64 a1.2.2.2.1.2.1 1),()))),())) (fun b1=>none)else bz (zU bP x3 x1 x2 x0) fun y0=>dL y0 (fun a1=>some ((a1.2.2.2.1,(a1.2.2.1.1,((bU .i64 a1.2.2.1.2.1 1),()))),())) (fun b1=>none)
def aig:gY:=⟨137,tzC,[.int .u8],[],fun x y=>akf x.1 x.2.1 x.2.2.1 y.1⟩
noncomputable def aaf:Env:=eu prog tt [] [(45,2,aoZ),(45,600001,ay0)] [(45,2,jK aeC QK)] [] [(79,awX),(80,aii),(81,Sz),(82,awY)]
def aqc {γ:Type} (a:ahd.den->Option γ) (b:aeQ.den->Option γ) (c:ae3.den->Option γ) (v:ahd.den):Option γ:=afl (fun v0 v1 v2 v3 v4=>a ((v0,()),((),()),(v1,(v2,v3,()),v4,()))) (fun e0 e1 e2 e3=>b ((),((),()),(e0,(e1,e2,()),e3,()))) (c ((),((),()),())) v.1.1 v.2.2.1 v.2.2.2.1.1 v.2.2.2.1.2.1 v.2.2.2.2.1
theorem az8:eQ aaf 45 afI aeC:=oG (aqc) (h2:=by intros;simp only[aqc,afl,dm,dn,bu,dh,dw])
def acs {γ:Type} (a:Ox.den->Option γ) (b:Q5.den->Option γ) (c:Q9.den->Option γ) (v:Ox.den):Option γ:=Et (fun v0 v1 v2 v3=>a ((v0,()),((),()),((v1,v2,()),v3,()))) (fun e0 e1 e2=>b ((),((),()),((e0,e1,()),e2,()))) (c ((),((),()),())) v.1.1 v.2.2.1.1 v.2.2.1.2.1 v.2.2.2.1
theorem apC:eQ aaf 45 afI QK:=oG (acs) (h2:=by intros;simp only[acs,Et,dm,dn,bu,dh,dw])
theorem aCH:dO aaf 45 b45:=wK [afI] (aD (fun L h=>by rw[show(aaf).lp 45 (cZ afI)=some (jK aeC QK) by kernel_rfl]at h;cases h;exact qZ az8 apC) aN)
theorem anf:dB aaf:=eB aN [45] (aD ⟨f45,b45,by kernel_rfl,by kernel_rfl,aCH⟩ aN) (hx:=(aD arU (aD Sv (aD Am (aD arV aN)))))
theorem Sr:eX prog 45 aig:=sB anf
def UI (x0:Int):Option BZ:=bif(bM x0 3)then some (1,())else bif(bM x0 11)then some (9,())else some (x0,())
def aqU:Sum:=⟨[cu],Zw,fun x=>UI x.1⟩
noncomputable def axU:Env:=fZ prog tt 152 [] [] []
theorem ai5:dB axU:=eA f152 aN
theorem alk:dU prog 152 aqU:=sA ai5
noncomputable def asr:Code:=(f102.body).getD .skip
noncomputable def al7:Code:=cA (cA (cB (cA (cB (asr)))))
noncomputable def al8:Code:=cA (cA (cB (cB (cB (asr)))))
def aoG:dM:=⟨[0,1,2,6,100002],[],[0,1],[],[],[]⟩
def aoH:dM:=⟨[0,77,78,79,100009],[],[],[],[],[]⟩
def XF:SQ:=⟨us [.ptr 0 0,.v (.list EG),.v cu,.u,.u,.u,.v cu] 141,[[.ptr 0 0]],[.box 0 158 [.slc 1,.slc 2],.arr 1 Ub,.arr 2 cu]⟩
def X0:SQ:=⟨us [.ptr 0 0,.v (.list EG)] 146,[[.ptr 0 0]],[.box 0 158 [.slc 1,.slc 2],.arr 1 Ub,.arr 2 cu]⟩
def Yn:SQ:=⟨us [] 148,[[.ptr 0 0]],[]⟩
def jc (v4:gW) (v2:Int):=dI v4 0 (dA (ed .i64 v2 1))
def vU (v3:List iQ) (v4:gW) (v2 v1:Int):=ik v3 (dA (jc v4 v2)) ((dI v3 (0,(0,(0,(0,(false,()))))) (dA (jc v4 v2))).1,((dI v3 (0,(0,(0,(0,(false,()))))) (dA (jc v4 v2))).2.1,((bU .i64 v1 1),((dI v3 (0,(0,(0,(0,(false,()))))) (dA (jc v4 v2))).2.2.2.1,((dI v3 (0,(0,(0,(0,(false,()))))) (dA (jc v4 v2))).2.2.2.2.1,())))))
def vV (v3:List iQ) (v4:gW) (v2 v1:Int):=dI (vU v3 v4 v2 v1) (0,(0,(0,(0,(false,()))))) (dA (jc v4 v2))
def FN {γ:Type} (v3:List iQ) (v4:gW) (v2 v1:Int) (rec:(List jJ)->Int->Int->(List iQ)->gW->Option γ) (v0:List jJ):Option γ:=bif(gI v3 (jc v4 v2))then bif(qi (dA (jc v4 v2)) v3)then bif(gI (vU v3 v4 v2 v1) (jc v4 v2))then bif(qi (dA (jc v4 v2)) (vU v3 v4 v2 v1))then bif(fF (bC v4) 0 (ed .i64 v2 1))then rec v0 v1 (ed .i64 v2 1) (ik (vU v3 v4 v2 v1) (dA (jc v4 v2)) ((vV v3 v4 v2 v1).1,((vV v3 v4 v2 v1).2.1,((vV v3 v4 v2 v1).2.2.1,((vV v3 v4 v2 v1).2.2.2.1,(false,())))))) (takeN v4 (dA (ed .i64 v2 1)))else none else none else none else none else none
def OD {γ:Type} (rec:(List jJ)->Int->Int->(List iQ)->gW->Option γ) (kE:(List jJ)->(List iQ)->gW->Option γ) (kR:Option γ) (v0:List jJ) (v1 v2:Int) (v3:List iQ) (v4:gW):Option γ:=bif(iw 0 v2)then bif(gI v4 (ed .i64 v2 1))then bif(qi (dA (ed .i64 v2 1)) v4)then bif(leI v2 (bC v0))then bif(gI v0 (ed .i64 v2 1))then bif(gI v3 (jc v4 v2))then bif(qi (dA (jc v4 v2)) v3)then bif(bM (dN v0 (0,(0,())) (ed .i64 v2 1)).2.1 (dI v3 (0,(0,(0,(0,(false,()))))) (dA (jc v4 v2))).2.1)then kE v0 v3 v4 else FN v3 v4 v2 v1 rec v0 else none else none else none else FN v3 v4 v2 v1 rec v0 else none else none else kE v0 v3 v4
def Ju:Nat->(List jJ)->Int->Int->(List iQ)->gW->Option (X0.den⊕Yn.den)
 |0,_,_,_,_,_=>none
 |n+1,v0,v1,v2,v3,v4=>OD (Ju n) (fun e0 e1 e2=>some (.inl ((e0,()),((),()),((),e1,e2,())))) (some (.inr ((),((),()),()))) v0 v1 v2 v3 v4
def aub (n:Nat) (v:XF.den):=Ju n v.1.1 v.1.2.1 v.1.2.2.1 v.2.2.2.1 v.2.2.2.2.1
noncomputable def agG:dC:=fO aoG XF X0 Yn (.exit 0) (aub bP) 6
def XG:SQ:=⟨us [.ptr 0 0,.u,.u,.u,.u,.u,.u,.u,.u,.u,.u,.u,.u,.u,.u,.u,.u,.u,.u,.u,.u,.u,.u,.u,.u,.u,.u,.u,.u,.u,.u,.u,.u,.u,.u,.u,.u,.u,.u,.u,.u,.u,.u,.u,.u,.u,.u,.u,.u,.u,.u,.u,.u,.u,.u,.u,.u,.u,.u,.u,.u,.u,.u,.u,.u,.u,.u,.u,.u,.u,.u,.u,.u,.u,.u,.u,.u,.v (.list EG),.v cu,.v cu] 68,[[.ptr 0 0]],[.box 0 158 [.slc 1,.slc 2],.arr 1 Ub,.arr 2 cu]⟩
def X3:SQ:=⟨us [] 148,[[.ptr 0 0]],[.box 0 158 [.slc 1,.slc 2],.arr 1 Ub,.arr 2 cu]⟩
def Yo:SQ:=⟨us [] 148,[[.ptr 0 0]],[]⟩
def jW (v3:List iQ) (v4:gW) (v2:Int):=dI v3 (0,(0,(0,(0,(false,()))))) (dA (dI v4 0 (dA v2)))
def lN (v0:List jJ) (v2:Int):=bM (dN v0 (0,(0,())) v2).2.1 (dN v0 (0,(0,())) v2).2.1
def lQ (v0:List jJ) (v2:Int):=bM (dN v0 (0,(0,())) v2).1 (dN v0 (0,(0,())) v2).1
def BJ {γ:Type} (rec:(List jJ)->Int->Int->(List iQ)->gW->Option γ) (kE:(List iQ)->gW->Option γ) (kR:Option γ) (v0:List jJ) (v1 v2:Int) (v3:List iQ) (v4:gW):Option γ:=bif(iw v2 v1)then bif(gI v0 v2)then bif(iw v2 (bC v4))then bif(gI v4 v2)then bif(qi (dA v2) v4)then bz (UI (dN v0 (0,(0,())) v2).1) fun y0=>bif(gI v3 (dI v4 0 (dA v2)))then bif(qi (dA (dI v4 0 (dA v2))) v3)then bif(gI (ik v3 (dA (dI v4 0 (dA v2))) (y0.1,((jW v3 v4 v2).2.1,((jW v3 v4 v2).2.2.1,((jW v3 v4 v2).2.2.2.1,((jW v3 v4 v2).2.2.2.2.1,())))))) (dI v4 0 (dA v2)))then bif((eqN (dA (dI v4 0 (dA v2))) (dA (dI v4 0 (dA v2))))&&true)then rec v0 v1 (bU .i64 v2 1) (ik v3 (dA (dI v4 0 (dA v2))) (y0.1,((jW v3 v4 v2).2.1,((jW v3 v4 v2).2.2.1,((jW v3 v4 v2).2.2.2.1,((jW v3 v4 v2).2.2.2.2.1,())))))) v4 else none else none else none else none else none else none else bif(iw 0 v2)then bif(gI v4 (ed .i64 v2 1))then bif(qi (dA (ed .i64 v2 1)) v4)then bif(eH (bT v4 [(bC v3)]) 8)then bif(bM (bC v3) (bC v3))then bz (UI (dN v0 (0,(0,())) v2).1) fun y0=>bif(lQ v0 v2)then bif(lN v0 v2)then bif(bM (dI v4 0 (dA (ed .i64 v2 1))) (dI v4 0 (dA (ed .i64 v2 1))))then bif(((lQ v0 v2)&&true)&&((bM y0.1 y0.1)&&true))then bif(eH (bT v3 [(y0.1,((dN v0 (0,(0,())) v2).2.1,(0,((dI v4 0 (dA (ed .i64 v2 1))),(true,())))))]) 40)then bif(lQ v0 v2)then bif(lN v0 v2)then bif(bM (dI v4 0 (dA (ed .i64 v2 1))) (dI v4 0 (dA (ed .i64 v2 1))))then bif((bM y0.1 y0.1)&&((lN v0 v2)&&((bM 0 0)&&((bM (dI v4 0 (dA (ed .i64 v2 1))) (dI v4 0 (dA (ed .i64 v2 1))))&&((Oc true true)&&true)))))then rec v0 v1 (bU .i64 v2 1) (bT v3 [(y0.1,((dN v0 (0,(0,())) v2).2.1,(0,((dI v4 0 (dA (ed .i64 v2 1))),(true,())))))]) (bT v4 [(bC v3)])else none else none else none else none else none else none else none else none else none else none else none else none else none else bif(eH (bT v4 [(bC v3)]) 8)then bif(bM (bC v3) (bC v3))then bz (UI (dN v0 (0,(0,())) v2).1) fun y0=>bif(lQ v0 v2)then bif(lN v0 v2)then bif(bM (-1) (-1))then bif(((lQ v0 v2)&&true)&&((bM y0.1 y0.1)&&true))then bif(eH (bT v3 [(y0.1,((dN v0 (0,(0,())) v2).2.1,(0,((-1),(true,())))))]) 40)then bif(lQ v0 v2)then bif(lN v0 v2)then bif(bM (-1) (-1))then bif((bM y0.1 y0.1)&&((lN v0 v2)&&((bM 0 0)&&((bM (-1) (-1))&&((Oc true true)&&true)))))then rec v0 v1 (bU .i64 v2 1) (bT v3 [(y0.1,((dN v0 (0,(0,())) v2).2.1,(0,((-1),(true,())))))]) (bT v4 [(bC v3)])else none else none else none else none else none else none else none else none else none else none else none else none else kE v3 v4
def rU:Nat->(List jJ)->Int->Int->(List iQ)->gW->Option (X3.den⊕Yo.den)
 |0,_,_,_,_,_=>none
 |n+1,v0,v1,v2,v3,v4=>BJ (rU n) (fun e0 e1=>some (.inl ((),((),()),((),e0,e1,())))) (some (.inr ((),((),()),()))) v0 v1 v2 v3 v4
def auc (n:Nat) (v:XG.den):=rU n v.1.1 v.1.2.1 v.1.2.2.1 v.2.2.2.1 v.2.2.2.2.1
noncomputable def agH:dC:=fO aoH XG X3 Yo (.exit 2) (auc bP) 12
def aap (x0:List iQ) (x1:gW) (x2:List jJ) (x3:Int):Option (((List iQ)×gW×Unit)×(Unit)):=bif(fF (bC x2) 1 (bC x2))then bz (Ju bP (sub x2 1 (bC x2)) x3 (bC x1) x0 x1) fun y0=>dL y0 (fun a1=>bz (rU bP a1.1.1 (bC a1.1.1) 0 a1.2.2.2.1 a1.2.2.2.2.1) fun y2=>dL y2 (fun a3=>some ((a3.2.2.2.1,(a3.2.2.2.2.1,())),())) (fun b3=>none)) (fun b1=>none)else none
def aqD:gY:=⟨158,[(.list Ub,true),(.list cu,true)],[.list EG,cu],[],fun x y=>aap x.1 x.2.1 y.1 y.2.1⟩
noncomputable def Wy:Env:=eu prog tt [(152,aqU)] [(102,2,aoG),(102,9,aoH)] [(102,2,agG),(102,9,agH)] []
def ahA {γ:Type} (a:XF.den->Option γ) (b:X0.den->Option γ) (c:Yn.den->Option γ) (v:XF.den):Option γ:=OD (fun v0 v1 v2 v3 v4=>a ((v0,v1,v2,()),((),()),((),v3,v4,()))) (fun e0 e1 e2=>b ((e0,()),((),()),((),e1,e2,()))) (c ((),((),()),())) v.1.1 v.1.2.1 v.1.2.2.1 v.2.2.2.1 v.2.2.2.2.1
theorem auz:eQ Wy 102 al7 agG:=oG (ahA) (h2:=by intros;simp only[ahA,OD,dm,dn,bu,dh,dw,jc,vU,vV,FN])
def ahB {γ:Type} (a:XG.den->Option γ) (b:X3.den->Option γ) (c:Yo.den->Option γ) (v:XG.den):Option γ:=BJ (fun v0 v1 v2 v3 v4=>a ((v0,v1,v2,()),((),()),((),v3,v4,()))) (fun e0 e1=>b ((),((),()),((),e0,e1,()))) (c ((),((),()),())) v.1.1 v.1.2.1 v.1.2.2.1 v.2.2.2.1 v.2.2.2.2.1
theorem auA:eQ Wy 102 al8 agH:=oG (ahB) (h2:=by intros;simp only[ahB,BJ,dm,dn,bu,dh,dw,jW,lN,lQ])
theorem azg:dO Wy 102 asr:=wK [al7,al8] (aD (fM (auz)) (aD (fM (auA)) aN))
theorem aiJ:dB Wy:=eB (aD alk aN) [102] (aD ⟨f102,asr,by kernel_rfl,by kernel_rfl,azg⟩ aN)
theorem ak5:eX prog 102 aqD:=sB aiJ
def aaq (x0:Int):Option oW:=bz (Gj x0) fun y0=>some ((bM y0.1 5),())
def aqT:Sum:=⟨[.int .u8],NT,fun x=>aaq x.1⟩
noncomputable def axS:Env:=fZ prog tt 149 [(123,Ey)] [] []
theorem ai3:dB axS:=eA f149 (aD rF aN)
theorem alj:dU prog 149 aqT:=sA ai3
def aar (x0:Int):Option oW:=bz (Gj x0) fun y0=>some ((bM y0.1 6),())
def afq:Sum:=⟨[.int .u8],NT,fun x=>aar x.1⟩
noncomputable def axT:Env:=fZ prog tt 151 [(123,Ey)] [] []
theorem ai4:dB axT:=eA f151 (aD rF aN)
theorem VH:dU prog 151 afq:=sA ai4
noncomputable def Ph:Code:=(f148.body).getD .skip
noncomputable def AB:Code:=cA (cA (cA (cB (cB (cB (cA (cB (Ph))))))))
def Hw:dM:=⟨[0,1,2,7,107000004],[],[7],[],[6],[]⟩
def atp:dM:=⟨[0,1],[],[],[],[],[]⟩
def atq:dM:=⟨[0,1],[],[],[],[],[]⟩
def aa0:dM:=⟨[0,1,2,7],[],[],[],[],[]⟩
def Bg:SQ:=⟨us [.v .str,.v cu,.fn 150 [],.u,.u,.u,.u,.v cu] 25,[[.v .str,.v cu,.u,.u,.u,.u,.u,.u,.u,.v .str,.v cu,.u],[]],[]⟩
def D6:SQ:=⟨us [.u,.u,.u,.u,.u,.u,.u,.v cu] 25,[[.v .str,.v cu,.u,.u,.u,.u,.u,.u,.u,.v .str,.v cu,.u],[]],[]⟩
def Ed:SQ:=⟨us [] 33,[[.v .str,.v cu,.u,.u,.u,.u,.u,.u,.u,.v .str,.v cu,.u],[]],[]⟩
def yf {γ:Type} (rec:bK->Int->Int->bK->Int->bK->Int->Option γ) (kE:Int->bK->Int->bK->Int->Option γ) (kR:bK->Int->bK->Int->Option γ) (v0:bK) (v1 v2:Int) (v3:bK) (v4:Int) (v5:bK) (v6:Int):Option γ:=bif(iw (bU .i64 v1 v2) (bC v0))then bif(gI v0 (bU .i64 v1 v2))then bz (aaq (bV v0 (bU .i64 v1 v2))) fun y0=>bif y0.1 then rec v0 v1 (bU .i64 v2 1) v3 v4 v5 v6 else bz (aar (bV v0 (bU .i64 v1 v2))) fun y1=>bif(!y1.1)then kE v2 v3 v4 v5 v6 else rec v0 v1 (bU .i64 v2 1) v3 v4 v5 v6 else none else kE v2 v3 v4 v5 v6
def nH:Nat->bK->Int->Int->bK->Int->bK->Int->Option (D6.den⊕Ed.den)
 |0,_,_,_,_,_,_,_=>none
 |n+1,v0,v1,v2,v3,v4,v5,v6=>yf (nH n) (fun e0 e1 e2 e3 e4=>some (.inl ((e0,()),((e1,e2,e3,e4,()),(),()),()))) (fun r0 r1 r2 r3=>some (.inr ((),((r0,r1,r2,r3,()),(),()),()))) v0 v1 v2 v3 v4 v5 v6
def abI (n:Nat) (v:Bg.den):=nH n v.1.1 v.1.2.1 v.1.2.2.1 v.2.1.1.1 v.2.1.1.2.1 v.2.1.1.2.2.1 v.2.1.1.2.2.2.1
noncomputable def DI:dC:=fO Hw Bg D6 Ed (.exit 0) (abI bP) 6
def uM:SQ:=⟨us [.v .str,.v cu,.fn 149 [],.u,.u,.u,.u,.v cu] 25,[[.v .str,.v cu,.u,.u,.u,.v .str,.v cu,.u,.u,.u,.u,.u],[]],[]⟩
def yM:SQ:=⟨us [.u,.u,.u,.u,.u,.u,.u,.v cu] 25,[[.v .str,.v cu,.u,.u,.u,.v .str,.v cu,.u,.u,.u,.u,.u],[]],[]⟩
def yS:SQ:=⟨us [] 33,[[.v .str,.v cu,.u,.u,.u,.v .str,.v cu,.u,.u,.u,.u,.u],[]],[]⟩
def rZ {γ:Type} (rec:bK->Int->Int->bK->Int->bK->Int->Option γ) (kE:Int->bK->Int->bK->Int->Option γ) (kR:bK->Int->bK->Int->Option γ) (v0:bK) (v1 v2:Int) (v3:bK) (v4:Int) (v5:bK) (v6:Int):Option γ:=bif(iw (bU .i64 v1 v2) (bC v0))then bif(gI v0 (bU .i64 v1 v2))then bz (aaq (bV v0 (bU .i64 v1 v2))) fun y0=>bif(!y0.1)then kE v2 v3 v4 v5 v6 else rec v0 v1 (bU .i64 v2 1) v3 v4 v5 v6 else none else kE v2 v3 v4 v5 v6
def mG:Nat->bK->Int->Int->bK->Int->bK->Int->Option (yM.den⊕yS.den)
 |0,_,_,_,_,_,_,_=>none
 |n+1,v0,v1,v2,v3,v4,v5,v6=>rZ (mG n) (fun e0 e1 e2 e3 e4=>some (.inl ((e0,()),((e1,e2,e3,e4,()),(),()),()))) (fun r0 r1 r2 r3=>some (.inr ((),((r0,r1,r2,r3,()),(),()),()))) v0 v1 v2 v3 v4 v5 v6
def Tu (n:Nat) (v:uM.den):=mG n v.1.1 v.1.2.1 v.1.2.2.1 v.2.1.1.1 v.2.1.1.2.1 v.2.1.1.2.2.1 v.2.1.1.2.2.2.1
noncomputable def yF:dC:=fO Hw uM yM yS (.exit 0) (Tu bP) 12
def WM (x1:Int) (x0:bK):Option BZ:=bif(bM 0 0)then some (0,())else bif(iw x1 0)then some (0,())else bif(leI (bC x0) x1)then some (0,())else bz (nH bP x0 x1 0 x0 x1 x0 x1) fun y0=>dL y0 (fun a1=>some (a1.1.1,())) (fun b1=>none)
def Qa (x0:bK) (x1:Int):Option BZ:=bif(iw x1 0)then WM x1 x0 else bif(leI (bC x0) x1)then WM x1 x0 else bz (mG bP x0 x1 0 x0 x1 x0 x1) fun y0=>dL y0 (fun a1=>bif(bM a1.1.1 0)then some (0,())else bif(iw a1.2.1.1.2.1 0)then some (0,())else bif(leI (bC a1.2.1.1.1) a1.2.1.1.2.1)then some (0,())else bz (nH bP a1.2.1.1.1 a1.2.1.1.2.1 0 a1.2.1.1.1 a1.2.1.1.2.1 a1.2.1.1.1 a1.2.1.1.2.1) fun y2=>dL y2 (fun a3=>some (a3.1.1,())) (fun b3=>none)) (fun b1=>none)
def Zd:Sum:=⟨[.str,cu],Zw,fun x=>Qa x.1 x.2.1⟩
noncomputable def PU:Env:=eu prog tt [(149,aqT),(151,afq)] [(148,4,Hw),(101,600001,atp),(101,600003,atq),(148,600006,aa0)] [(148,4,jK DI yF)] []
def NH {γ:Type} (a:Bg.den->Option γ) (b:D6.den->Option γ) (c:Ed.den->Option γ) (v:Bg.den):Option γ:=yf (fun v0 v1 v2 v3 v4 v5 v6=>a ((v0,v1,v2,()),((v3,v4,v5,v6,()),(),()),())) (fun e0 e1 e2 e3 e4=>b ((e0,()),((e1,e2,e3,e4,()),(),()),())) (fun r0 r1 r2 r3=>c ((),((r0,r1,r2,r3,()),(),()),())) v.1.1 v.1.2.1 v.1.2.2.1 v.2.1.1.1 v.2.1.1.2.1 v.2.1.1.2.2.1 v.2.1.1.2.2.2.1
theorem abU:eQ PU 148 AB DI:=oG (NH) (h2:=by intros;simp only[NH,yf,dm,dn,bu,dh,dw])
def Gz {γ:Type} (a:uM.den->Option γ) (b:yM.den->Option γ) (c:yS.den->Option γ) (v:uM.den):Option γ:=rZ (fun v0 v1 v2 v3 v4 v5 v6=>a ((v0,v1,v2,()),((v3,v4,v5,v6,()),(),()),())) (fun e0 e1 e2 e3 e4=>b ((e0,()),((e1,e2,e3,e4,()),(),()),())) (fun r0 r1 r2 r3=>c ((),((r0,r1,r2,r3,()),(),()),())) v.1.1 v.1.2.1 v.1.2.2.1 v.2.1.1.1 v.2.1.1.2.1 v.2.1.1.2.2.1 v.2.1.1.2.2.2.1
theorem TF:eQ PU 148 AB yF:=oG (Gz) (h2:=by intros;simp only[Gz,rZ,dm,dn,bu,dh,dw])
theorem aem:dO PU 148 Ph:=wK [AB] (aD (fun L h=>by rw[show(PU).lp 148 (cZ AB)=some (jK DI yF) by kernel_rfl]at h;cases h;exact qZ abU TF) aN)
theorem aiI:dB PU:=eB (aD alj (aD VH aN)) [148] (aD ⟨f148,Ph,by kernel_rfl,by kernel_rfl,aem⟩ aN)
theorem Mc:dU prog 101 Zd:=sA aiI
noncomputable def Pi:Code:=(f148.body).getD .skip
noncomputable def Py:Code:=cA (cA (cA (cB (cB (cB (cA (cB (Pi))))))))
def Qp:dM:=⟨[0,1,2,7,107000004],[],[7],[],[6],[]⟩
def att:dM:=⟨[0,1],[],[],[],[],[]⟩
def aa2:dM:=⟨[0,1,2,7],[],[],[],[],[]⟩
def Bh:SQ:=⟨us [.v .str,.v cu,.fn 151 [],.u,.u,.u,.u,.v cu] 25,[[.v .str,.v cu,.u,.u,.u,.v .str,.v cu,.u],[]],[]⟩
def D7:SQ:=⟨us [.u,.u,.u,.u,.u,.u,.u,.v cu] 25,[[.v .str,.v cu,.u,.u,.u,.v .str,.v cu,.u],[]],[]⟩
def Ee:SQ:=⟨us [] 33,[[.v .str,.v cu,.u,.u,.u,.v .str,.v cu,.u],[]],[]⟩
def yg {γ:Type} (rec:bK->Int->Int->bK->Int->bK->Int->Option γ) (kE:Int->bK->Int->bK->Int->Option γ) (kR:bK->Int->bK->Int->Option γ) (v0:bK) (v1 v2:Int) (v3:bK) (v4:Int) (v5:bK) (v6:Int):Option γ:=bif(iw (bU .i64 v1 v2) (bC v0))then bif(gI v0 (bU .i64 v1 v2))then bz (aar (bV v0 (bU .i64 v1 v2))) fun y0=>bif(!y0.1)then kE v2 v3 v4 v5 v6 else rec v0 v1 (bU .i64 v2 1) v3 v4 v5 v6 else none else kE v2 v3 v4 v5 v6
def pV:Nat->bK->Int->Int->bK->Int->bK->Int->Option (D7.den⊕Ee.den)
 |0,_,_,_,_,_,_,_=>none
 |n+1,v0,v1,v2,v3,v4,v5,v6=>yg (pV n) (fun e0 e1 e2 e3 e4=>some (.inl ((e0,()),((e1,e2,e3,e4,()),(),()),()))) (fun r0 r1 r2 r3=>some (.inr ((),((r0,r1,r2,r3,()),(),()),()))) v0 v1 v2 v3 v4 v5 v6
def abJ (n:Nat) (v:Bh.den):=pV n v.1.1 v.1.2.1 v.1.2.2.1 v.2.1.1.1 v.2.1.1.2.1 v.2.1.1.2.2.1 v.2.1.1.2.2.2.1
noncomputable def Nh:dC:=fO Qp Bh D7 Ee (.exit 0) (abJ bP) 6
def zN (x0:bK) (x1:Int):Option BZ:=bif(iw x1 0)then some (0,())else bif(leI (bC x0) x1)then some (0,())else bz (pV bP x0 x1 0 x0 x1 x0 x1) fun y0=>dL y0 (fun a1=>some (a1.1.1,())) (fun b1=>none)
def Ze:Sum:=⟨[.str,cu],Zw,fun x=>zN x.1 x.2.1⟩
noncomputable def adt:Env:=eu prog tt [(151,afq)] [(148,4,Qp),(125,600001,att),(148,600006,aa2)] [(148,4,Nh)] []
def NI {γ:Type} (a:Bh.den->Option γ) (b:D7.den->Option γ) (c:Ee.den->Option γ) (v:Bh.den):Option γ:=yg (fun v0 v1 v2 v3 v4 v5 v6=>a ((v0,v1,v2,()),((v3,v4,v5,v6,()),(),()),())) (fun e0 e1 e2 e3 e4=>b ((e0,()),((e1,e2,e3,e4,()),(),()),())) (fun r0 r1 r2 r3=>c ((),((r0,r1,r2,r3,()),(),()),())) v.1.1 v.1.2.1 v.1.2.2.1 v.2.1.1.1 v.2.1.1.2.1 v.2.1.1.2.2.1 v.2.1.1.2.2.2.1
theorem abV:eQ adt 148 Py Nh:=oG (NI) (h2:=by intros;simp only[NI,yg,dm,dn,bu,dh,dw])
theorem aen:dO adt 148 Pi:=wK [Py] (aD (fM (abV)) aN)
theorem aiY:dB adt:=eB (aD VH aN) [148] (aD ⟨f148,Pi,by kernel_rfl,by kernel_rfl,aen⟩ aN)
theorem Me:dU prog 125 Ze:=sA aiY
def UF (x0:bK) (x1:Int):Option BZ:=bz (Qa x0 x1) fun y0=>bif(iw 0 y0.1)then some (y0.1,())else bif(iw x1 0)then some (0,())else bif(leI (bC x0) x1)then some (0,())else bif(gI x0 x1)then bif(bM (bV x0 x1) 64)then bif(bM (bV x0 x1) 64)then some (1,())else bz (zN x0 x1) fun y1=>some ((HY y1.1 1),())else bif(bM (bV x0 x1) 42)then bif(bM (bV x0 x1) 42)then some (1,())else bz (zN x0 x1) fun y1=>some ((HY y1.1 1),())else bif(bM (bV x0 x1) 35)then bif(bM (bV x0 x1) 35)then some (1,())else bz (zN x0 x1) fun y1=>some ((HY y1.1 1),())else bif(bM (bV x0 x1) 63)then bif(bM (bV x0 x1) 63)then some (1,())else bz (zN x0 x1) fun y1=>some ((HY y1.1 1),())else bif(bM (bV x0 x1) 45)then bif(bM (bV x0 x1) 45)then some (1,())else bz (zN x0 x1) fun y1=>some ((HY y1.1 1),())else bif(bM (bV x0 x1) 36)then bif(bM (bV x0 x1) 36)then some (1,())else bz (zN x0 x1) fun y1=>some ((HY y1.1 1),())else bif(bM (bV x0 x1) 33)then some (1,())else bz (zN x0 x1) fun y1=>some ((HY y1.1 1),())else none
def aqE:Sum:=⟨[.str,cu],Zw,fun x=>UF x.1 x.2.1⟩
noncomputable def axG:Env:=fZ prog tt 103 [(101,Zd),(125,Ze)] [] []
theorem aiK:dB axG:=eA f103 (aD Mc (aD Me aN))
theorem ak6:dU prog 103 aqE:=sA aiK
noncomputable def b68:Code:=(f68.body).getD .skip
noncomputable def avN:Code:=cA (cA (cB (cA (cB (cB (cB (b68)))))))
noncomputable def amr:Code:=cA (cA (cB (cA (cB (cB (cB (cB (b68))))))))
def awd:dM:=⟨[0,3,4,12,13,100004],[(100000900,.pair (.list .unit) Ub),(100000901,.pair (.list .unit) cu)],[0,3],[],[2],[(2,Ub)]⟩
def ao0:dM:=⟨[0,3,31,32,100010],[],[3],[],[2],[(2,Ub)]⟩
def ay3:dM:=⟨[0,3],[],[],[],[],[]⟩
def ay4:dM:=⟨[0,3,4,5,12,13],[],[],[],[],[]⟩
def ahh:SP:=⟨us [.v .str,.u,.u,.ptr 1000009 0,.ptr 2000004 0,.u,.u,.u,.u,.u,.u,.u,.v cu,.v cu] 65,[.box 2000004 137 [.slc 2000002,.v .bool,.v cu],.arr 2000002 EG,.arr 1502009 cu,.arr 1500009 Ub,.box 1000009 158 [.slc 1500009,.slc 1502009]]⟩
def aeU:SP:=⟨us [.v .str,.u,.u,.ptr 1000009 0] 75,[.arr 1502009 cu,.arr 1500009 Ub,.box 1000009 158 [.slc 1500009,.slc 1502009]]⟩
def ae7:SP:=⟨us [.u,.u,.v Uc] 76,[]⟩
def Y9 {γ:Type} (rec:bK->Int->Int->Bool->Int->(List jJ)->gW->(List iQ)->Option γ) (kE:bK->gW->(List iQ)->Option γ) (kR:(List iQ)->Option γ) (v0:bK) (v1 v2:Int) (v3:Bool) (v4:Int) (v5:List jJ) (v6:gW) (v7:List iQ):Option γ:=bif(iw v2 v1)then bif(gI v0 v2)then bz (akf v5 v3 v4 (bV v0 v2)) fun y0=>bif(bM (bC y0.1.1) 0)then bz (aap v7 v6 [(0,(0,()))] v2) fun y1=>rec v0 v1 (bU .i64 v2 1) y0.1.2.1 y0.1.2.2.1 y0.1.1 y1.1.2.1 y1.1.1 else bz (ql y0.1.1) fun y1=>bz (aap v7 v6 y1.1 v2) fun y2=>rec v0 v1 (bU .i64 v2 1) y0.1.2.1 y0.1.2.2.1 y0.1.1 y2.1.2.1 y2.1.1 else none else kE v0 v6 v7
def QB:Nat->bK->Int->Int->Bool->Int->(List jJ)->gW->(List iQ)->Option (aeU.den⊕ae7.den)
 |0,_,_,_,_,_,_,_,_=>none
 |n+1,v0,v1,v2,v3,v4,v5,v6,v7=>Y9 (QB n) (fun e0 e1 e2=>some (.inl ((e0,()),(e1,e2,(),())))) (fun r0=>some (.inr ((r0,()),()))) v0 v1 v2 v3 v4 v5 v6 v7
def azN (n:Nat) (v:ahh.den):=QB n v.1.1 v.1.2.1 v.1.2.2.1 v.2.1.1 v.2.1.2.1 v.2.2.1 v.2.2.2.1 v.2.2.2.2.1
noncomputable def apq:dC:=iD awd ahh aeU ae7 (.exit 0) (azN bP) 6
def XZ:SP:=⟨us [.v .str,.u,.u,.ptr 1000009 0,.u,.u,.u,.u,.u,.u,.u,.u,.u,.u,.u,.u,.u,.u,.u,.u,.u,.u,.u,.u,.u,.u,.u,.u,.u,.u,.u,.v cu,.v cu] 46,[.arr 1502009 cu,.arr 1500009 Ub,.box 1000009 158 [.slc 1500009,.slc 1502009]]⟩
def Ym:SP:=⟨us [.u,.u,.u,.ptr 1000009 0] 75,[.arr 1502009 cu,.arr 1500009 Ub,.box 1000009 158 [.slc 1500009,.slc 1502009]]⟩
def YI:SP:=⟨us [.u,.u,.v Uc] 76,[]⟩
def eU (v4:List iQ) (v2:Int):=dI v4 (0,(0,(0,(0,(false,()))))) (dA v2)
def jG (v4:List iQ) (v2:Int) (v0:bK):=ik v4 (dA v2) ((eU v4 v2).1,((eU v4 v2).2.1,((bC v0),((eU v4 v2).2.2.2.1,((eU v4 v2).2.2.2.2.1,())))))
def fH (v4:List iQ) (v2:Int) (v0:bK):=dI (jG v4 v2 v0) (0,(0,(0,(0,(false,()))))) (dA v2)
def O1 {γ:Type} (rec:bK->Int->Int->gW->(List iQ)->Option γ) (kE:gW->(List iQ)->Option γ) (kR:(List iQ)->Option γ) (v0:bK) (v1 v2:Int) (v3:gW) (v4:List iQ):Option γ:=bif(iw v2 v1)then bif(gI v4 v2)then bif(qi (dA v2) v4)then bif(eU v4 v2).2.2.2.2.1 then bif(qi (dA v2) v4)then bif(qi (dA v2) (jG v4 v2 v0))then bif(bM (fH v4 v2 v0).1 12)then bif(qi (dA v2) (jG v4 v2 v0))then bif(qi (dA v2) (jG v4 v2 v0))then bz (UF v0 (bU .i64 (fH v4 v2 v0).2.1 1)) fun y0=>bif(qi (dA v2) (jG v4 v2 v0))then bif((eqN (dA v2) (dA v2))&&true)then bif((eqN (dA v2) (dA v2))&&true)then bif(qi (dA v2) (ik (jG v4 v2 v0) (dA v2) ((fH v4 v2 v0).1,((fH v4 v2 v0).2.1,((bU .i64 (bU .i64 (fH v4 v2 v0).2.1 1) y0.1),((fH v4 v2 v0).2.2.2.1,((fH v4 v2 v0).2.2.2.2.1,())))))))then bif((eqN (dA v2) (dA v2))&&true)then rec v0 v1 (bU .i64 v2 1) v3 (ik (ik (jG v4 v2 v0) (dA v2) ((fH v4 v2 v0).1,((fH v4 v2 v0).2.1,((bU .i64 (bU .i64 (fH v4 v2 v0).2.1 1) y0.1),((fH v4 v2 v0).2.2.2.1,((fH v4 v2 v0).2.2.2.2.1,())))))) (dA v2) ((dI (ik (jG v4 v2 v0) (dA v2) ((fH v4 v2 v0).1,((fH v4 v2 v0).2.1,((bU .i64 (bU .i64 (fH v4 v2 v0).2.1 1) y0.1),((fH v4 v2 v0).2.2.2.1,((fH v4 v2 v0).2.2.2.2.1,())))))) (0,(0,(0,(0,(false,()))))) (dA v2)).1,((dI (ik (jG v4 v2 v0) (dA v2) ((fH v4 v2 v0).1,((fH v4 v2 v0).2.1,((bU .i64 (bU .i64 (fH v4 v2 v0).2.1 1) y0.1),((fH v4 v2 v0).2.2.2.1,((fH v4 v2 v0).2.2.2.2.1,())))))) (0,(0,(0,(0,(false,()))))) (dA v2)).2.1,((dI (ik (jG v4 v2 v0) (dA v2) ((fH v4 v2 v0).1,((fH v4 v2 v0).2.1,((bU .i64 (bU .i64 (fH v4 v2 v0).2.1 1) y0.1),((fH v4 v2 v0).2.2.2.1,((fH v4 v2 v0).2.2.2.2.1,())))))) (0,(0,(0,(0,(false,()))))) (dA v2)).2.2.1,((dI (ik (jG v4 v2 v0) (dA v2) ((fH v4 v2 v0).1,((fH v4 v2 v0).2.1,((bU .i64 (bU .i64 (fH v4 v2 v0).2.1 1) y0.1),((fH v4 v2 v0).2.2.2.1,((fH v4 v2 v0).2.2.2.2.1,())))))) (0,(0,(0,(0,(false,()))))) (dA v2)).2.2.2.1,(false,()))))))else none else none else none else none else none else none else none else rec v0 v1 (bU .i64 v2 1) v3 (jG v4 v2 v0)else none else none else bif(qi (dA v2) v4)then bif(bM (eU v4 v2).1 12)then bif(qi (dA v2) v4)then bif(qi (dA v2) v4)then bz (UF v0 (bU .i64 (eU v4 v2).2.1 1)) fun y0=>bif(qi (dA v2) v4)then bif((eqN (dA v2) (dA v2))&&true)then bif((eqN (dA v2) (dA v2))&&true)then bif(qi (dA v2) (ik v4 (dA v2) ((eU v4 v2).1,((eU v4 v2).2.1,((bU .i64 (bU .i64 (eU v4 v2).2.1 1) y0.1),((eU v4 v2).2.2.2.1,((eU v4 v2).2.2.2.2.1,())))))))then bif((eqN (dA v2) (dA v2))&&true)then rec v0 v1 (bU .i64 v2 1) v3 (ik (ik v4 (dA v2) ((eU v4 v2).1,((eU v4 v2).2.1,((bU .i64 (bU .i64 (eU v4 v2).2.1 1) y0.1),((eU v4 v2).2.2.2.1,((eU v4 v2).2.2.2.2.1,())))))) (dA v2) ((dI (ik v4 (dA v2) ((eU v4 v2).1,((eU v4 v2).2.1,((bU .i64 (bU .i64 (eU v4 v2).2.1 1) y0.1),((eU v4 v2).2.2.2.1,((eU v4 v2).2.2.2.2.1,())))))) (0,(0,(0,(0,(false,()))))) (dA v2)).1,((dI (ik v4 (dA v2) ((eU v4 v2).1,((eU v4 v2).2.1,((bU .i64 (bU .i64 (eU v4 v2).2.1 1) y0.1),((eU v4 v2).2.2.2.1,((eU v4 v2).2.2.2.2.1,())))))) (0,(0,(0,(0,(false,()))))) (dA v2)).2.1,((dI (ik v4 (dA v2) ((eU v4 v2).1,((eU v4 v2).2.1,((bU .i64 (bU .i64 (eU v4 v2).2.1 1) y0.1),((eU v4 v2).2.2.2.1,((eU v4 v2).2.2.2.2.1,())))))) (0,(0,(0,(0,(false,()))))) (dA v2)).2.2.1,((dI (ik v4 (dA v2) ((eU v4 v2).1,((eU v4 v2).2.1,((bU .i64 (bU .i64 (eU v4 v2).2.1 1) y0.1),((eU v4 v2).2.2.2.1,((eU v4 v2).2.2.2.2.1,())))))) (0,(0,(0,(0,(false,()))))) (dA v2)).2.2.2.1,(false,()))))))else none else none else none else none else none else none else none else rec v0 v1 (bU .i64 v2 1) v3 v4 else none else none else none else kE v3 v4
def Fh:Nat->bK->Int->Int->gW->(List iQ)->Option (Ym.den⊕YI.den)
 |0,_,_,_,_,_=>none
 |n+1,v0,v1,v2,v3,v4=>O1 (Fh n) (fun e0 e1=>some (.inl ((),(e0,e1,(),())))) (fun r0=>some (.inr ((r0,()),()))) v0 v1 v2 v3 v4
def auu (n:Nat) (v:XZ.den):=Fh n v.1.1 v.1.2.1 v.1.2.2.1 v.2.1 v.2.2.1
noncomputable def agZ:dC:=iD ao0 XZ Ym YI (.exit 2) (auu bP) 12
def akh (x0:bK):Option ((List iQ)×Unit):=bz (QB bP x0 (bC x0) 0 true 0 [(0,(0,()))] [] []) fun y0=>dL y0 (fun a1=>bz (Fh bP a1.1.1 (bC a1.2.2.1) 0 a1.2.1 a1.2.2.1) fun y2=>dL y2 (fun a3=>some (a3.2.2.1,())) (fun b3=>some (b3.1.1,()))) (fun b1=>some (b1.1.1,()))
def aih:Sum:=⟨[.str],[(.list Ub,false)],fun x=>akh x.1⟩
noncomputable def afR:Env:=eu prog tt [(83,BX),(103,aqE)] [(68,4,awd),(68,10,ao0),(68,600002,ay3),(68,600007,ay4)] [(68,4,apq),(68,10,agZ)] [] [(45,aig),(102,aqD)]
def aqg {γ:Type} (a:ahh.den->Option γ) (b:aeU.den->Option γ) (c:ae7.den->Option γ) (v:ahh.den):Option γ:=Y9 (fun v0 v1 v2 v3 v4 v5 v6 v7=>a ((v0,v1,v2,()),((v3,v4,()),v5,v6,v7,(),()))) (fun e0 e1 e2=>b ((e0,()),(e1,e2,(),()))) (fun r0=>c ((r0,()),())) v.1.1 v.1.2.1 v.1.2.2.1 v.2.1.1 v.2.1.2.1 v.2.2.1 v.2.2.2.1 v.2.2.2.2.1
theorem aAc:eQ afR 68 avN apq:=QF (aqg) (h2:=by intros;simp only[aqg,Y9,dm,dn,bu,dh,dw])
def ahT {γ:Type} (a:XZ.den->Option γ) (b:Ym.den->Option γ) (c:YI.den->Option γ) (v:XZ.den):Option γ:=O1 (fun v0 v1 v2 v3 v4=>a ((v0,v1,v2,()),(v3,v4,(),()))) (fun e0 e1=>b ((),(e0,e1,(),()))) (fun r0=>c ((r0,()),())) v.1.1 v.1.2.1 v.1.2.2.1 v.2.1 v.2.2.1
theorem auS:eQ afR 68 amr agZ:=QF (ahT) (h2:=by intros;simp only[ahT,O1,dm,dn,bu,dh,dw,eU,jG,fH])
theorem aCL:dO afR 68 b68:=wK [avN,amr] (aD (fM (aAc)) (aD (fM (auS)) aN))
theorem ant:dB afR:=eB (aD zn (aD ak6 aN)) [68] (aD ⟨f68,b68,by kernel_rfl,by kernel_rfl,aCL⟩ aN) (hx:=(aD Sr (aD ak5 aN)))
theorem Su:dU prog 68 aih:=sA ant
def aop (x0:List jJ) (x1:Bool) (x2:Int):Option (Zm×oW):=bif x1 then some ((x0,(x1,(x2,()))),(true,()))else some ((x0,(x1,(x2,()))),((bM (bC x0) 0),()))
def awM:gY:=⟨137,tzC,[],[.bool],fun x y=>aop x.1 x.2.1 x.2.2.1⟩
noncomputable def aBv:Env:=eu prog tt [] [] [] []
theorem ang:dB aBv:=eB aN [] aN
theorem arI:eX prog 47 awM:=sB ang
noncomputable def b22:Code:=(f22.body).getD .skip
noncomputable def avF:Code:=cA (cA (cB (cA (cB (cB (b22))))))
def av3:dM:=⟨[0,4,8,9,100003],[],[4],[],[2,3],[(2,EG)]⟩
def ayS:dM:=⟨[0],[],[],[],[],[]⟩
def ayT:dM:=⟨[4],[],[],[],[],[]⟩
def ag8:SP:=⟨us [.v .str,.u,.u,.u,.ptr 2000004 0,.u,.u,.u,.v cu,.v cu] 12,[.box 2000004 137 [.slc 2000002,.v .bool,.v cu],.arr 2000002 EG]⟩
def aeM:SP:=⟨us [.u,.u,.u,.u,.ptr 2000004 0] 17,[.box 2000004 137 [.slc 2000002,.v .bool,.v cu],.arr 2000002 EG]⟩
def aeZ:SP:=⟨us [.u,.u,.v (.list EG),.v .bool] 18,[]⟩
def Y2 {γ:Type} (rec:bK->Int->Int->Bool->Int->(List jJ)->Option γ) (kE:Bool->Int->(List jJ)->Option γ) (kR:(List jJ)->Bool->Option γ) (v0:bK) (v1 v2:Int) (v3:Bool) (v4:Int) (v5:List jJ):Option γ:=bif(iw v2 v1)then bif(gI v0 v2)then bz (akf v5 v3 v4 (bV v0 v2)) fun y0=>rec v0 v1 (bU .i64 v2 1) y0.1.2.1 y0.1.2.2.1 y0.1.1 else none else kE v3 v4 v5
def QA:Nat->bK->Int->Int->Bool->Int->(List jJ)->Option (aeM.den⊕aeZ.den)
 |0,_,_,_,_,_,_=>none
 |n+1,v0,v1,v2,v3,v4,v5=>Y2 (QA n) (fun e0 e1 e2=>some (.inl ((),((e0,e1,()),e2,())))) (fun r0 r1=>some (.inr ((r0,r1,()),()))) v0 v1 v2 v3 v4 v5
def azE (n:Nat) (v:ag8.den):=QA n v.1.1 v.1.2.1 v.1.2.2.1 v.2.1.1 v.2.1.2.1 v.2.2.1
noncomputable def aph:dC:=iD av3 ag8 aeM aeZ (.exit 0) (azE bP) 6
def akc (x0:bK):Option ((List jJ)×Bool×Unit):=bz (QA bP x0 (bC x0) 0 true 0 [(0,(0,()))]) fun y0=>dL y0 (fun a1=>bif(bM (bC a1.2.2.1) 0)then bz (aop a1.2.2.1 a1.2.1.1 a1.2.1.2.1) fun y2=>some ([(0,(0,()))],(y2.2.1,()))else bz (ql a1.2.2.1) fun y2=>bz (aop a1.2.2.1 a1.2.1.1 a1.2.1.2.1) fun y3=>some (y2.1,(y3.2.1,()))) (fun b1=>some (b1.1.1,(b1.1.2.1,())))
def ah6:Sum:=⟨[.str],[(.list EG,false),(.bool,false)],fun x=>akc x.1⟩
noncomputable def amS:Env:=eu prog tt [(83,BX)] [(22,3,av3),(22,600001,ayS),(22,600007,ayT)] [(22,3,aph)] [] [(45,aig),(47,awM)]
def ap7 {γ:Type} (a:ag8.den->Option γ) (b:aeM.den->Option γ) (c:aeZ.den->Option γ) (v:ag8.den):Option γ:=Y2 (fun v0 v1 v2 v3 v4 v5=>a ((v0,v1,v2,()),((v3,v4,()),v5,()))) (fun e0 e1 e2=>b ((),((e0,e1,()),e2,()))) (fun r0 r1=>c ((r0,r1,()),())) v.1.1 v.1.2.1 v.1.2.2.1 v.2.1.1 v.2.1.2.1 v.2.2.1
theorem az3:eQ amS 22 avF aph:=QF (ap7) (h2:=by intros;simp only[ap7,Y2,dm,dn,bu,dh,dw])
theorem aCz:dO amS 22 b22:=wK [avF] (aD (fM (az3)) aN)
theorem amT:dB amS:=eB (aD zn aN) [22] (aD ⟨f22,b22,by kernel_rfl,by kernel_rfl,aCz⟩ aN) (hx:=(aD Sr (aD arI aN)))
theorem Sj:dU prog 22 ah6:=sA amT
def age (x0:List jJ) (x1:Bool) (x2 x3:Int):Option (Zm×oW):=bz (Gm x3) fun y0=>bif(!y0.1)then some ((x0,(x1,(x2,()))),(false,()))else bif(bM (bC x0) 1)then some ((x0,(x1,(x2,()))),(true,()))else bif(bM (bC x0) 2)then bif(gI x0 1)then bif(qi (dA 1) x0)then bif(bM (dI x0 (0,(0,())) (dA 1)).1 12)then some ((x0,(x1,(x2,()))),((!(bM x3 40)),()))else some ((x0,(x1,(x2,()))),(false,()))else none else none else some ((x0,(x1,(x2,()))),(false,()))
def arc:gY:=⟨137,tzC,[.int .u8],[.bool],fun x y=>age x.1 x.2.1 x.2.2.1 y.1⟩
noncomputable def ayc:Env:=eu prog tt [(164,afs)] [] [] []
theorem ajw:dB ayc:=eB (aD VJ aN) [] aN
theorem alA:eX prog 211 arc:=sB ajw
noncomputable def axq:Code:=(f189.body).getD .skip
noncomputable def amh:Code:=cA (cA (cA (cB (cB (cB (axq))))))
def aoQ:dM:=⟨[0,1,5,100004],[],[1],[],[4],[]⟩
def atx:dM:=⟨[0,1],[],[],[],[],[]⟩
def XP:SP:=⟨us [.v .str,.v cu,.u,.u,.u,.ptr 2000004 0] 27,[.box 2000004 137 [.slc 2000002,.v .bool,.v cu],.arr 2000002 EG]⟩
def Yb:SP:=⟨us [.u,.v cu] 31,[]⟩
def Yx:SP:=⟨us [.u,.u,.u,.u,.v cu] 28,[]⟩
def OQ {γ:Type} (rec:bK->Int->Bool->Int->(List jJ)->Option γ) (kE kR:Int->Option γ) (v0:bK) (v1:Int) (v2:Bool) (v3:Int) (v4:List jJ):Option γ:=bif(iw v1 (bC v0))then bif(gI v0 v1)then bz (age v4 v2 v3 (bV v0 v1)) fun y0=>bif y0.2.1 then kR v1 else bif(gI v0 v1)then bz (akf y0.1.1 y0.1.2.1 y0.1.2.2.1 (bV v0 v1)) fun y1=>rec v0 (bU .i64 v1 1) y1.1.2.1 y1.1.2.2.1 y1.1.1 else none else none else kE v1
def Jy:Nat->bK->Int->Bool->Int->(List jJ)->Option (Yb.den⊕Yx.den)
 |0,_,_,_,_,_=>none
 |n+1,v0,v1,v2,v3,v4=>OQ (Jy n) (fun e0=>some (.inl ((e0,()),()))) (fun r0=>some (.inr ((r0,()),()))) v0 v1 v2 v3 v4
def aul (n:Nat) (v:XP.den):=Jy n v.1.1 v.1.2.1 v.2.1.1 v.2.1.2.1 v.2.2.1
noncomputable def agQ:dC:=iD aoQ XP Yb Yx (.exit 0) (aul bP) 6
def aay (x0:bK) (x1:Int):Option BZ:=bif(iw x1 0)then some ((-1),())else bif(iw (bC x0) x1)then some ((-1),())else bz (Jy bP x0 x1 true 0 [(0,(0,()))]) fun y0=>dL y0 (fun a1=>some (a1.1.1,())) (fun b1=>some (b1.1.1,()))
def aq5:Sum:=⟨[.str,cu],Zw,fun x=>aay x.1 x.2.1⟩
noncomputable def adz:Env:=eu prog tt [] [(189,4,aoQ),(189,600003,atx)] [(189,4,agQ)] [] [(45,aig),(211,arc)]
def ahK {γ:Type} (a:XP.den->Option γ) (b:Yb.den->Option γ) (c:Yx.den->Option γ) (v:XP.den):Option γ:=OQ (fun v0 v1 v2 v3 v4=>a ((v0,v1,()),((v2,v3,()),v4,()))) (fun e0=>b ((e0,()),())) (fun r0=>c ((r0,()),())) v.1.1 v.1.2.1 v.2.1.1 v.2.1.2.1 v.2.2.1
theorem auJ:eQ adz 189 amh agQ:=QF (ahK) (h2:=by intros;simp only[ahK,OQ,dm,dn,bu,dh,dw])
theorem azr:dO adz 189 axq:=wK [amh] (aD (fM (auJ)) aN)
theorem ajm:dB adz:=eB aN [189] (aD ⟨f189,axq,by kernel_rfl,by kernel_rfl,azr⟩ aN) (hx:=(aD Sr (aD alA aN)))
theorem alv:dU prog 189 aq5:=sA ajm
def Ji (x0:Int):Option Zv:=bif(bM x0 9)then some ([41,41],())else bif(bM x0 13)then bif(bM x0 13)then some ([10],())else some ([],())else bif(bM x0 14)then some ([10],())else some ([],())
def agh (x0:Int):Option Zv:=bif(bM x0 1)then bif(bM x0 1)then some ([41],())else Ji x0 else bif(bM x0 3)then bif(bM x0 3)then some ([41],())else Ji x0 else bif(bM x0 2)then bif(bM x0 2)then some ([41],())else Ji x0 else bif(bM x0 10)then bif(bM x0 10)then some ([41],())else Ji x0 else bif(bM x0 11)then some ([41],())else Ji x0
def agf (x0:Int):Option Zv:=bif(bM x0 4)then some ([39],())else bif(bM x0 5)then some ([34],())else bif(bM x0 6)then some ([96],())else bif(bM x0 7)then bif(bM x0 7)then some ([125],())else agh x0 else bif(bM x0 8)then some ([125],())else agh x0
def ard:Sum:=⟨[cu],tzF,fun x=>agf x.1⟩
noncomputable def ayd:Env:=fZ prog tt 213 [] [] []
theorem ajx:dB ayd:=eA f213 aN
theorem alB:dU prog 213 ard:=sA ajx
noncomputable def V4:Code:=(f190.body).getD .skip
noncomputable def Pj:Code:=(f228.body).getD .skip
noncomputable def Pz:Code:=cA (cA (cB (Pj)))
def Qq:dM:=⟨[0,1,3,168000001],[],[],[],[],[]⟩
def atZ:dM:=⟨[2,5],[],[],[],[],[]⟩
def aty:dM:=⟨[2,3,5],[],[],[],[],[]⟩
def aa5:dM:=⟨[0,1,3],[],[],[],[],[]⟩
def Bi:SQ:=⟨us [.yld 1700014,.ptr 2000001 0,.u,.v cu] 15,[us [.u,.u,.v .str,.u,.u,.ptr 1000005 0] 15,[.yld 1700014],[]],[.lp 1700014 190 (us [.u,.u,.v .str,.u,.u,.ptr 1000005 0] 15) [14] 5 0 none,.box 2000001 53 [.v (.list EG)],.box 1000005 86 [.slc 1500005],.arr 1500005 (.int .u8)]⟩
def D8:SQ:=⟨us [] 19,[us [.u,.u,.v .str,.u,.u,.ptr 1000005 0] 15,[.yld 1700014],[]],[.lp 1700014 190 (us [.u,.u,.v .str,.u,.u,.ptr 1000005 0] 15) [14] 5 0 none,.box 2000001 53 [.v (.list EG)],.box 1000005 86 [.slc 1500005],.arr 1500005 (.int .u8)]⟩
def Ef:SQ:=⟨us [] 19,[us [.u,.u,.v .str,.u,.u,.ptr 1000005 0] 15,[.yld 1700014],[]],[]⟩
def uh {γ:Type} (rec:Int->bK->bK->(List jJ)->gW->Option γ) (kE:bK->bK->(List jJ)->gW->Option γ) (kR:bK->Option γ) (v0:Int) (v1 v2:bK) (v3:List jJ) (v4:gW):Option γ:=bif(leI 0 v0)then bif(gI v3 v0)then bz (agf (dN v3 (0,(0,())) v0).1) fun y0=>bif(eH (bT v4 (bI y0.1)) 1)then bif(bM (dN v3 (0,(0,())) v0).1 (dN v3 (0,(0,())) v0).1)then rec (ed .i64 v0 1) v1 v2 v3 (bT v4 (bI y0.1))else none else none else none else kE v1 v2 v3 v4
def pW:Nat->Int->bK->bK->(List jJ)->gW->Option (D8.den⊕Ef.den)
 |0,_,_,_,_,_=>none
 |n+1,v0,v1,v2,v3,v4=>uh (pW n) (fun e0 e1 e2 e3=>some (.inl ((),((e0,()),(),(),()),((e1,()),(e2,()),(),e3,())))) (fun r0=>some (.inr ((),((r0,()),(),(),()),()))) v0 v1 v2 v3 v4
def abK (n:Nat) (v:Bi.den):=pW n v.1.1 v.2.1.1.1 v.2.2.1.1 v.2.2.2.1.1 v.2.2.2.2.2.1
noncomputable def Nj:dC:=fO Qq Bi D8 Ef (.exit 0) (abK bP) 6
def agc (x0:bK):Option Zv:=bz (akc x0) fun y0=>bz (pW bP (ed .i64 (bC y0.1) 1) [] [] y0.1 []) fun y1=>dL y1 (fun a2=>some ((ofBytes a2.2.2.2.2.2.1),())) (fun b2=>none)
def aq7:Sum:=⟨[.str],tzF,fun x=>agc x.1⟩
noncomputable def WA:Env:=eu prog tt [(22,ah6),(213,ard)] [(228,1,Qq),(190,500005,atZ),(190,600003,aty),(228,600003,aa5)] [(228,1,Nj)] [190]
def NJ {γ:Type} (a:Bi.den->Option γ) (b:D8.den->Option γ) (c:Ef.den->Option γ) (v:Bi.den):Option γ:=uh (fun v0 v1 v2 v3 v4=>a ((v0,()),((v1,()),(),(),()),((v2,()),(v3,()),(),v4,()))) (fun e0 e1 e2 e3=>b ((),((e0,()),(),(),()),((e1,()),(e2,()),(),e3,()))) (fun r0=>c ((),((r0,()),(),(),()),())) v.1.1 v.2.1.1.1 v.2.2.1.1 v.2.2.2.1.1 v.2.2.2.2.2.1
theorem abW:eQ WA 228 Pz Nj:=oG (NJ) (h2:=by intros;simp only[NJ,uh,dm,dn,bu,dh,dw])
theorem azc:jf V4=[]:=by kernel_rfl
theorem aAv:jA V4=[(cA (cA (cB (cA (cB (cB (cB (V4))))))),cB (cA (cB (cA (cB (cB (cB (V4))))))))]:=by kernel_rfl
theorem azs:dO WA 190 V4:=pU V4 (by rw[aAv];exact(aD (fun _=>(show qJ 190 5=some (cA (cA (cB (cA (cB (cB (cB (V4))))))),cB (cA (cB (cA (cB (cB (cB (V4)))))))) by kernel_rfl)) aN)) (by rw[azc];exact aN)
theorem aeo:dO WA 228 Pj:=wK [Pz] (aD (fM (abW)) aN)
theorem ajn:dB WA:=eB (aD Sj (aD alB aN)) [190,228] (aD ⟨f190,V4,by kernel_rfl,by kernel_rfl,azs⟩ (aD ⟨f228,Pj,by kernel_rfl,by kernel_rfl,aeo⟩ aN))
theorem alx:dU prog 190 aq7:=sA ajn
def avY (x0:Int):Option Zv:=bif(bM x0 10)then some ([62,124],())else bif(bM x0 11)then some ([60],())else bif(bM x0 12)then some ([62],())else bif(bM x0 13)then some ([38],())else bif(bM x0 14)then some ([59],())else bif(bM x0 15)then some ([124],())else bif(bM x0 16)then some ([40],())else bif(bM x0 17)then some ([41],())else some ([],())
def aq9:Sum:=⟨[cu],tzF,fun x=>avY x.1⟩
noncomputable def aya:Env:=fZ prog tt 198 [] [] []
theorem aju:dB aya:=eA f198 aN
theorem alz:dU prog 198 aq9:=sA aju
def af7 (x0:Int):Option Zv:=bif(bM x0 1)then some ([38,38],())else bif(bM x0 2)then some ([124,124],())else bif(bM x0 3)then some ([59,59],())else bif(bM x0 4)then some ([60,60],())else bif(bM x0 5)then some ([60,60,45],())else bif(bM x0 6)then some ([62,62],())else bif(bM x0 7)then some ([60,38],())else bif(bM x0 8)then some ([62,38],())else bif(bM x0 9)then some ([60,62],())else bz (avY x0) fun y0=>some (y0.1,())
def aqY:Sum:=⟨[cu],tzF,fun x=>af7 x.1⟩
noncomputable def ax1:Env:=fZ prog tt 162 [(198,aq9)] [] []
theorem ajd:dB ax1:=eA f162 (aD alz aN)
theorem alp:dU prog 162 aqY:=sA ajd
noncomputable def aA2:Code:=(f116.body).getD .skip
noncomputable def amc:Code:=cA (cA (cB (cA (cB (cB (aA2))))))
def aoL:dM:=⟨[0,3,100004],[],[],[],[2],[]⟩
def XK:SP:=⟨us [.v .str,.u,.u,.v cu] 11,[]⟩
def X7:SP:=⟨us [] 15,[]⟩
def Yt:SP:=⟨us [.u,.u,.v cu] 12,[]⟩
def J5 {γ:Type} (rec:bK->Int->Option γ) (kE:Option γ) (kR:Int->Option γ) (v0:bK) (v1:Int):Option γ:=bif(leI v1 17)then bz (af7 v1) fun y0=>bif(gU y0.1 v0)then kR v1 else rec v0 (bU .i64 v1 1)else kE
def A8:Nat->bK->Int->Option (X7.den⊕Yt.den)
 |0,_,_=>none
 |n+1,v0,v1=>J5 (A8 n) (some (.inl ((),()))) (fun r0=>some (.inr ((r0,()),()))) v0 v1
def aug (n:Nat) (v:XK.den):=A8 n v.1.1 v.1.2.1
noncomputable def agL:dC:=iD aoL XK X7 Yt (.exit 0) (aug bP) 6
def Je (x0:bK):Option BZ:=bif(gU x0 [])then some (0,())else bz (A8 bP x0 1) fun y0=>dL y0 (fun a1=>some (0,())) (fun b1=>some (b1.1.1,()))
def RZ:Sum:=⟨[.str],Zw,fun x=>Je x.1⟩
noncomputable def ads:Env:=fZ prog tt 116 [(162,aqY)] [(4,aoL)] [(4,agL)]
def ahF {γ:Type} (a:XK.den->Option γ) (b:X7.den->Option γ) (c:Yt.den->Option γ) (v:XK.den):Option γ:=J5 (fun v0 v1=>a ((v0,v1,()),())) (b ((),())) (fun r0=>c ((r0,()),())) v.1.1 v.1.2.1
theorem auE:eQ ads 116 amc agL:=QF (ahF) (h2:=by intros;simp only[ahF,J5,dm,dn,bu,dh,dw])
theorem azk:dO ads 116 aA2:=wK [amc] (aD (fM (auE)) aN)
theorem aiQ:dB ads:=eA f116 (aD alp aN) (azk)
theorem FQ:dU prog 116 RZ:=sA aiQ
noncomputable def aA3:Code:=(f184.body).getD .skip
noncomputable def amf:Code:=cA (cA (cA (cB (cB (cB (cA (cB (aA3))))))))
def aoO:dM:=⟨[0,1,4,5,100004],[],[4,5],[],[4,5],[]⟩
def XN:SP:=⟨us [.v .str,.v cu,.u,.u,.v cu,.v cu] 35,[]⟩
def X9:SP:=⟨us [.u,.u,.u,.u,.v cu,.v cu] 35,[]⟩
def Yv:SP:=⟨us [.u,.u,.u,.u,.v cu,.v cu] 35,[]⟩
def OM {γ:Type} (rec:bK->Int->Int->Int->Option γ) (kE kR:Int->Int->Option γ) (v0:bK) (v1 v2 v3:Int):Option γ:=bif(iw 0 v3)then bif(fF (bC v0) v1 (bU .i64 v1 v3))then bz (Je (sub v0 v1 (bU .i64 v1 v3))) fun y0=>bif(!(bM y0.1 0))then kE y0.1 v3 else rec v0 v1 y0.1 (ed .i64 v3 1)else none else kE v2 v3
def Jv:Nat->bK->Int->Int->Int->Option (X9.den⊕Yv.den)
 |0,_,_,_,_=>none
 |n+1,v0,v1,v2,v3=>OM (Jv n) (fun e0 e1=>some (.inl ((e0,e1,()),()))) (fun r0 r1=>some (.inr ((r0,r1,()),()))) v0 v1 v2 v3
def auj (n:Nat) (v:XN.den):=Jv n v.1.1 v.1.2.1 v.1.2.2.1 v.1.2.2.2.1
noncomputable def agO:dC:=iD aoO XN X9 Yv (.exit 0) (auj bP) 6
def agb (x0:bK) (x1:Int):Option jJ:=bif(iw x1 0)then some (0,(0,()))else bif(leI (bC x0) x1)then some (0,(0,()))else bif(gI x0 x1)then bz (Gj (bV x0 x1)) fun y0=>bif(!(bM y0.1 3))then some (0,(0,()))else bz (Jv bP x0 x1 0 (HY 3 (ed .i64 (bC x0) x1))) fun y1=>dL y1 (fun a2=>some (a2.1.1,(a2.1.2.1,()))) (fun b2=>some (b2.1.1,(b2.1.2.1,())))else none
def aq2:Sum:=⟨[.str,cu],tzH,fun x=>agb x.1 x.2.1⟩
noncomputable def adx:Env:=fZ prog tt 184 [(116,RZ),(123,Ey)] [(4,aoO)] [(4,agO)]
def ahI {γ:Type} (a:XN.den->Option γ) (b:X9.den->Option γ) (c:Yv.den->Option γ) (v:XN.den):Option γ:=OM (fun v0 v1 v2 v3=>a ((v0,v1,v2,v3,()),())) (fun e0 e1=>b ((e0,e1,()),())) (fun r0 r1=>c ((r0,r1,()),())) v.1.1 v.1.2.1 v.1.2.2.1 v.1.2.2.2.1
theorem auH:eQ adx 184 amf agO:=QF (ahI) (h2:=by intros;simp only[ahI,OM,dm,dn,bu,dh,dw])
theorem azp:dO adx 184 aA3:=wK [amf] (aD (fM (auH)) aN)
theorem ajh:dB adx:=eA f184 (aD FQ (aD rF aN)) (azp)
theorem alr:dU prog 184 aq2:=sA ajh
def afZ (x0 x1:bK):Option oW:=bif(leI (bC x1) (bC x0))then bif(fF (bC x0) 0 (bC x1))then some ((gU (sub x0 0 (bC x1)) x1),())else none else some (false,())
def aqO:Sum:=⟨[.str,.str],NT,fun x=>afZ x.1 x.2.1⟩
noncomputable def axO:Env:=fZ prog tt 127 [] [] []
theorem aiZ:dB axO:=eA f127 aN
theorem alf:dU prog 127 aqO:=sA aiZ
def adV (x0 x1:bK):Option oW:=bz (afZ x0 x1) fun y0=>some (y0.1,())
def arZ:Sum:=⟨[.str,.str],NT,fun x=>adV x.1 x.2.1⟩
noncomputable def aBK:Env:=fZ prog tt 89 [(127,aqO)] [] []
theorem anJ:dB aBK:=eA f89 (aD alf aN)
theorem acR:dU prog 89 arZ:=sA anJ
def aau (x0:bK) (x1:Int):Option oW:=bif(fF (bC x0) x1 (bC x0))then bz (adV (sub x0 x1 (bC x0)) [92,10]) fun y0=>some (y0.1,())else none
def aft:Sum:=⟨[.str,cu],NT,fun x=>aau x.1 x.2.1⟩
noncomputable def ax4:Env:=fZ prog tt 185 [(89,arZ)] [] []
theorem aji:dB ax4:=eA f185 (aD acR aN)
theorem VK:dU prog 185 aft:=sA aji
noncomputable def aA4:Code:=(f186.body).getD .skip
noncomputable def amg:Code:=cA (cA (cA (cB (aA4))))
def aoP:dM:=⟨[0,1,100001],[],[1],[],[4],[]⟩
def XO:SP:=⟨us [.v .str,.v cu] 23,[]⟩
def Ya:SP:=⟨us [.u,.v cu] 23,[]⟩
def Yw:SP:=⟨us [.u,.u,.u,.u,.v cu] 20,[]⟩
def OO {γ:Type} (rec:bK->Int->Option γ) (kE kR:Int->Option γ) (v0:bK) (v1:Int):Option γ:=bif(iw v1 (bC v0))then bif(gI v0 v1)then bz (Gj (bV v0 v1)) fun y0=>bif(bM y0.1 1)then rec v0 (bU .i64 v1 1)else bz (aau v0 v1) fun y1=>bif y1.1 then rec v0 (bU .i64 v1 2)else kR v1 else none else kE v1
def Jw:Nat->bK->Int->Option (Ya.den⊕Yw.den)
 |0,_,_=>none
 |n+1,v0,v1=>OO (Jw n) (fun e0=>some (.inl ((e0,()),()))) (fun r0=>some (.inr ((r0,()),()))) v0 v1
def auk (n:Nat) (v:XO.den):=Jw n v.1.1 v.1.2.1
noncomputable def agP:dC:=iD aoP XO Ya Yw (.exit 0) (auk bP) 6
def aav (x0:bK) (x1:Int):Option BZ:=bz (Jw bP x0 x1) fun y0=>dL y0 (fun a1=>some (a1.1.1,())) (fun b1=>some (b1.1.1,()))
def aq3:Sum:=⟨[.str,cu],Zw,fun x=>aav x.1 x.2.1⟩
noncomputable def ady:Env:=fZ prog tt 186 [(123,Ey),(185,aft)] [(1,aoP)] [(1,agP)]
def ahJ {γ:Type} (a:XO.den->Option γ) (b:Ya.den->Option γ) (c:Yw.den->Option γ) (v:XO.den):Option γ:=OO (fun v0 v1=>a ((v0,v1,()),())) (fun e0=>b ((e0,()),())) (fun r0=>c ((r0,()),())) v.1.1 v.1.2.1
theorem auI:eQ ady 186 amg agP:=QF (ahJ) (h2:=by intros;simp only[ahJ,OO,dm,dn,bu,dh,dw])
theorem azq:dO ady 186 aA4:=wK [amg] (aD (fM (auI)) aN)
theorem ajj:dB ady:=eA f186 (aD rF (aD VK aN)) (azq)
theorem als:dU prog 186 aq3:=sA ajj
def agi (x0:bK) (x1:Int):Option BZ:=some ((ibW x0 x1),())
def arh:Sum:=⟨[.str,.int .u8],Zw,fun x=>agi x.1 x.2.1⟩
noncomputable def ayh:Env:=fZ prog tt 219 [(234,aij)] [] []
theorem ajC:dB ayh:=eA Tryz.f219 (aD (acT func234 (by kernel_rfl) (by kernel_rfl) (by kernel_rfl) (by kernel_rfl)) aN)
theorem alD:dU prog 219 arh:=sA ajC
def aaB (x0:bK) (x1:Int):Option BZ:=bz (agi x0 x1) fun y0=>some (y0.1,())
def afw:Sum:=⟨[.str,.int .u8],Zw,fun x=>aaB x.1 x.2.1⟩
noncomputable def ayb:Env:=fZ prog tt 210 [(219,arh)] [] []
theorem ajv:dB ayb:=eA f210 (aD alD aN)
theorem VN:dU prog 210 afw:=sA ajv
def aaw (x0:bK) (x1:Int):Option (Int×Bool×Unit):=bif(fF (bC x0) x1 (bC x0))then bz (aaB (sub x0 x1 (bC x0)) 10) fun y0=>bif(leI 0 y0.1)then some ((bU .i64 x1 y0.1),(true,()))else some ((bC x0),(false,()))else none
def afu:Sum:=⟨[.str,cu],[(.int .i64,false),(.bool,false)],fun x=>aaw x.1 x.2.1⟩
noncomputable def ax5:Env:=fZ prog tt 187 [(210,afw)] [] []
theorem ajk:dB ax5:=eA f187 (aD VN aN)
theorem VL:dU prog 187 afu:=sA ajk
def aax (x0:bK) (x1:Int):Option BZ:=bz (zN x0 x1) fun y0=>bif(iw x1 (bU .i64 x1 y0.1))then bif(iw (bU .i64 x1 y0.1) (bC x0))then bif(gI x0 (bU .i64 x1 y0.1))then bif(bM (bV x0 (bU .i64 x1 y0.1)) 60)then some ((bU .i64 x1 y0.1),())else bif(gI x0 (bU .i64 x1 y0.1))then bif(bM (bV x0 (bU .i64 x1 y0.1)) 62)then some ((bU .i64 x1 y0.1),())else some (x1,())else none else none else some (x1,())else some (x1,())
def aq4:Sum:=⟨[.str,cu],Zw,fun x=>aax x.1 x.2.1⟩
noncomputable def ax6:Env:=fZ prog tt 188 [(125,Ze)] [] []
theorem ajl:dB ax6:=eA f188 (aD Me aN)
theorem alu:dU prog 188 aq4:=sA ajl
def WP (x0:bK) (x1:Int) (y0:jJ):Option (qh×Unit):=bif(gI x0 x1)then bif(bM (bV x0 x1) 10)then some ((2,(x1,((bU .i64 x1 1),(false,())))),())else bif(gI x0 x1)then bif(bM (bV x0 x1) 35)then bz (aaw x0 x1) fun y2=>some ((3,(x1,(y2.1,(false,())))),())else bif(iw 0 y0.2.1)then some ((4,(x1,((bU .i64 x1 y0.2.1),(false,())))),())else bz (aax x0 x1) fun y2=>bif(iw x1 y2.1)then bz (aax x0 x1) fun y3=>some ((5,(x1,(y3.1,(false,())))),())else bz (aay x0 x1) fun y3=>bif(fF (bC x0) x1 y3.1)then bz (agc (sub x0 x1 y3.1)) fun y4=>some ((6,(x1,(y3.1,((!(gU y4.1 [])),())))),())else none else none else none
def af0 (x0:bK) (x1:Int):Option (qh×Unit):=bz (agb x0 x1) fun y0=>bif(gI x0 x1)then bz (Gj (bV x0 x1)) fun y1=>bif(bM y1.1 1)then bif(bM y1.1 1)then bz (aav x0 x1) fun y2=>some ((1,(x1,(y2.1,(false,())))),())else WP x0 x1 y0 else bz (aau x0 x1) fun y2=>bif y2.1 then bz (aav x0 x1) fun y3=>some ((1,(x1,(y3.1,(false,())))),())else WP x0 x1 y0 else none
def aqR:Sum:=⟨[.str,cu],[(.pair cu (.pair cu (.pair cu (.pair .bool .unit))),false)],fun x=>af0 x.1 x.2.1⟩
noncomputable def axQ:Env:=fZ prog tt 146 [(123,Ey),(184,aq2),(185,aft),(186,aq3),(187,afu),(188,aq4),(189,aq5),(190,aq7)] [] []
theorem ai1:dB axQ:=eA f146 (aD rF (aD alr (aD VK (aD als (aD VL (aD alu (aD alv (aD alx aN))))))))
theorem alh:dU prog 146 aqR:=sA ai1
noncomputable def aA5:Code:=(Tryz.f224.body).getD .skip
noncomputable def amk:Code:=cA (cA (cA (cB (aA5))))
def aoT:dM:=⟨[0,1,100001],[],[0],[],[4],[]⟩
def XT:SP:=⟨us [.v .str,.v (.int .u8)] 15,[]⟩
def Yf:SP:=⟨us [.v .str] 16,[]⟩
def YB:SP:=⟨us [.u,.u,.u,.u,.v .str] 12,[]⟩
def OV {γ:Type} (rec:bK->Int->Option γ) (kE kR:bK->Option γ) (v0:bK) (v1:Int):Option γ:=bif(iw 0 (bC v0))then bif(gI v0 0)then bif(bM (bV v0 0) v1)then bif(fF (bC v0) 1 (bC v0))then rec (sub v0 1 (bC v0)) v1 else none else kE v0 else none else kE v0
def JB:Nat->bK->Int->Option (Yf.den⊕YB.den)
 |0,_,_=>none
 |n+1,v0,v1=>OV (JB n) (fun e0=>some (.inl ((e0,()),()))) (fun r0=>some (.inr ((r0,()),()))) v0 v1
def auo (n:Nat) (v:XT.den):=JB n v.1.1 v.1.2.1
noncomputable def agT:dC:=iD aoT XT Yf YB (.exit 0) (auo bP) 6
def agj (x0:bK) (x1:Int):Option Zv:=bz (JB bP x0 x1) fun y0=>dL y0 (fun a1=>some (a1.1.1,())) (fun b1=>some (b1.1.1,()))
def ari:Sum:=⟨[.str,.int .u8],tzF,fun x=>agj x.1 x.2.1⟩
noncomputable def adD:Env:=fZ prog tt 224 [] [(1,aoT)] [(1,agT)]
def ahN {γ:Type} (a:XT.den->Option γ) (b:Yf.den->Option γ) (c:YB.den->Option γ) (v:XT.den):Option γ:=OV (fun v0 v1=>a ((v0,v1,()),())) (fun e0=>b ((e0,()),())) (fun r0=>c ((r0,()),())) v.1.1 v.1.2.1
theorem auM:eQ adD 224 amk agT:=QF (ahN) (h2:=by intros;simp only[ahN,OV,dm,dn,bu,dh,dw])
theorem azw:dO adD 224 aA5:=wK [amk] (aD (fM (auM)) aN)
theorem ajD:dB adD:=eA Tryz.f224 aN (azw)
theorem alE:dU prog 224 ari:=sA ajD
noncomputable def axp:Code:=(f182.body).getD .skip
noncomputable def ame:Code:=cA (cA (cA (cB (cA (cB (axp))))))
def aoN:dM:=⟨[0,1,5,100001],[],[1],[],[6,7],[]⟩
def atw:dM:=⟨[0,5,8,9,10],[],[],[],[],[]⟩
def XM:SP:=⟨us [.v .str,.v cu,.u,.u,.u,.ptr 1000005 0] 33,[.box 1000005 210 [.v .str,.v .bool]]⟩
def Oy:SP:=⟨us [.u,.v cu] 37,[]⟩
def Oz:SP:=⟨us [.u,.u,.u,.u,.u,.u,.v cu,.v .bool] 31,[]⟩
def Ad {γ:Type} (y0:(Int×Bool×Unit)) (v0:bK) (v1:Int) (v2:bK) (kR:Int->Bool->Option γ) (rec:bK->Int->bK->Bool->Option γ) (v3:Bool):Option γ:=bif y0.2.1 then bif(gU (sub v0 v1 y0.1) v2)then kR (bU .i64 y0.1 1) true else rec v0 (bU .i64 y0.1 1) v2 v3 else bif(gU (sub v0 v1 y0.1) v2)then kR y0.1 true else rec v0 y0.1 v2 v3
def OL {γ:Type} (rec:bK->Int->bK->Bool->Option γ) (kE:Int->Option γ) (kR:Int->Bool->Option γ) (v0:bK) (v1:Int) (v2:bK) (v3:Bool):Option γ:=bif(iw v1 (bC v0))then bz (aaw v0 v1) fun y0=>bif(fF (bC v0) v1 y0.1)then bif v3 then bif(gU (sub v0 v1 y0.1) [])then Ad y0 v0 v1 v2 kR rec v3 else bif(gU [9] [])then Ad y0 v0 v1 v2 kR rec v3 else bif(bM (bC [9]) 1)then bif(gI [9] 0)then bif(iw (bV [9] 0) 128)then bif(gI [9] 0)then bz (agj (sub v0 v1 y0.1) (bV [9] 0)) fun y1=>bif y0.2.1 then bif(gU y1.1 v2)then kR (bU .i64 y0.1 1) true else rec v0 (bU .i64 y0.1 1) v2 v3 else bif(gU y1.1 v2)then kR y0.1 true else rec v0 y0.1 v2 v3 else none else none else none else none else Ad y0 v0 v1 v2 kR rec v3 else none else kE v1
def Ba:Nat->bK->Int->bK->Bool->Option (Oy.den⊕Oz.den)
 |0,_,_,_,_=>none
 |n+1,v0,v1,v2,v3=>OL (Ba n) (fun e0=>some (.inl ((e0,()),()))) (fun r0 r1=>some (.inr ((r0,r1,()),()))) v0 v1 v2 v3
def aui (n:Nat) (v:XM.den):=Ba n v.1.1 v.1.2.1 v.2.1.1 v.2.1.2.1
noncomputable def agN:dC:=iD aoN XM Oy Oz (.exit 0) (aui bP) 6
def aga (x0:bK) (x1:Int) (x2:bK×oW):Option (Int×Bool×Unit):=bz (Ba bP x0 x1 x2.1 x2.2.1) fun y0=>dL y0 (fun a1=>some (a1.1.1,(false,()))) (fun b1=>some (b1.1.1,(b1.1.2.1,())))
def aq1:Sum:=⟨[.str,cu,tyG],[(.int .i64,false),(.bool,false)],fun x=>aga x.1 x.2.1 x.2.2.1⟩
noncomputable def adw:Env:=eu prog tt [(187,afu),(224,ari)] [(182,1,aoN),(182,600005,atw)] [(182,1,agN)] []
def ahH {γ:Type} (a:XM.den->Option γ) (b:Oy.den->Option γ) (c:Oz.den->Option γ) (v:XM.den):Option γ:=OL (fun v0 v1 v2 v3=>a ((v0,v1,()),((v2,v3,()),()))) (fun e0=>b ((e0,()),())) (fun r0 r1=>c ((r0,r1,()),())) v.1.1 v.1.2.1 v.2.1.1 v.2.1.2.1
theorem auG:eQ adw 182 ame agN:=QF (ahH) (h2:=by intros;simp only[ahH,OL,dm,dn,bu,dh,dw,Ad])
theorem azo:dO adw 182 axp:=wK [ame] (aD (fM (auG)) aN)
theorem ajg:dB adw:=eB (aD VL (aD alE aN)) [182] (aD ⟨f182,axp,by kernel_rfl,by kernel_rfl,azo⟩ aN)
theorem alq:dU prog 182 aq1:=sA ajg
noncomputable def b31:Code:=(f31.body).getD .skip
noncomputable def avH:Code:=cA (cA (cB (cA (cB (b31)))))
def av5:dM:=⟨[0,1,5,100002],[],[],[],[4],[]⟩
def aha:SP:=⟨us [.v (.int .u8),.v .str,.u,.u,.u,.v cu] 11,[]⟩
def aeO:SP:=⟨us [] 17,[]⟩
def ae1:SP:=⟨us [.u,.u,.u,.u,.v .bool] 12,[]⟩
def RJ {γ:Type} (rec:Int->bK->Int->Option γ) (kE:Option γ) (kR:Bool->Option γ) (v0:Int) (v1:bK) (v2:Int):Option γ:=bif(iw v2 (bC v1))then bif(gI v1 v2)then bif(bM (bV v1 v2) v0)then kR true else rec v0 v1 (bU .i64 v2 1)else none else kE
def Bd:Nat->Int->bK->Int->Option (aeO.den⊕ae1.den)
 |0,_,_,_=>none
 |n+1,v0,v1,v2=>RJ (Bd n) (some (.inl ((),()))) (fun r0=>some (.inr ((r0,()),()))) v0 v1 v2
def azG (n:Nat) (v:aha.den):=Bd n v.1.1 v.1.2.1 v.1.2.2.1
noncomputable def apj:dC:=iD av5 aha aeO ae1 (.exit 0) (azG bP) 6
def Hl (x0:Int) (x1:bK):Option oW:=bz (Bd bP x0 x1 0) fun y0=>dL y0 (fun a1=>some (false,())) (fun b1=>some (b1.1.1,()))
def awF:Sum:=⟨[.int .u8,.str],NT,fun x=>Hl x.1 x.2.1⟩
noncomputable def am0:Env:=fZ prog tt 31 [] [(2,av5)] [(2,apj)]
def ap9 {γ:Type} (a:aha.den->Option γ) (b:aeO.den->Option γ) (c:ae1.den->Option γ) (v:aha.den):Option γ:=RJ (fun v0 v1 v2=>a ((v0,v1,v2,()),())) (b ((),())) (fun r0=>c ((r0,()),())) v.1.1 v.1.2.1 v.1.2.2.1
theorem az5:eQ am0 31 avH apj:=QF (ap9) (h2:=by intros;simp only[ap9,RJ,dm,dn,bu,dh,dw])
theorem aCB:dO am0 31 b31:=wK [avH] (aD (fM (az5)) aN)
theorem am1:dB am0:=eA f31 aN (aCB)
theorem arw:dU prog 31 awF:=sA am1
def aat (x0:Int):Option BZ:=bif(bM x0 32)then some (1,())else bif(bM x0 9)then some (1,())else bif(bM x0 10)then some (2,())else bz (Hl x0 [124,38,59,60,62,40,41]) fun y0=>bif y0.1 then some (3,())else bz (Hl x0 [92,39,34,96,36]) fun y1=>bif y1.1 then some (4,())else bz (Hl x0 [65,66,67,68,69,70,71,72,73,74,75,76,77,78,79,80,81,82,83,84,85,86,87,88,89,90,97,98,99,100,101,102,103,104,105,106,107,108,109,110,111,112,113,114,115,116,117,118,119,120,121,122,95]) fun y2=>bif y2.1 then some (5,())else bz (Hl x0 [48,49,50,51,52,53,54,55,56,57]) fun y3=>bif y3.1 then some (6,())else some (0,())
def awx:Sum:=⟨[.int .u8],Zw,fun x=>aat x.1⟩
noncomputable def aBi:Env:=fZ prog tt 18 [(31,awF)] [] []
theorem amO:dB aBi:=eA f18 (aD arw aN)
theorem aq6:dU prog 18 awx:=sA amO
noncomputable def b9:Code:=(f9.body).getD .skip
noncomputable def aA6:Code:=cA (cA (cB (cA (cB (cB (b9))))))
def aCl:dM:=⟨[0,3,100004],[],[],[],[2],[]⟩
def auU:SP:=⟨us [.v .str,.u,.u,.v cu] 27,[]⟩
def apJ:SP:=⟨us [] 31,[]⟩
def apO:SP:=⟨us [.u,.u,.v .bool] 28,[]⟩
def ah1 {γ:Type} (rec:bK->Int->Option γ) (kE:Option γ) (kR:Bool->Option γ) (v0:bK) (v1:Int):Option γ:=bif(iw v1 (bC v0))then bif(gI v0 v1)then bz (aat (bV v0 v1)) fun y0=>bif(!(bM y0.1 5))then bif(gI v0 v1)then bz (aat (bV v0 v1)) fun y1=>bif(!(bM y1.1 6))then kR false else rec v0 (bU .i64 v1 1)else none else rec v0 (bU .i64 v1 1)else none else kE
def U2:Nat->bK->Int->Option (apJ.den⊕apO.den)
 |0,_,_=>none
 |n+1,v0,v1=>ah1 (U2 n) (some (.inl ((),()))) (fun r0=>some (.inr ((r0,()),()))) v0 v1
def aCP (n:Nat) (v:auU.den):=U2 n v.1.1 v.1.2.1
noncomputable def awi:dC:=iD aCl auU apJ apO (.exit 0) (aCP bP) 6
def fn9 (x0:bK):Option oW:=bif(bM (bC x0) 0)then some (false,())else bif(gI x0 0)then bz (aat (bV x0 0)) fun y0=>bif(!(bM y0.1 5))then some (false,())else bz (U2 bP x0 1) fun y1=>dL y1 (fun a2=>some (true,())) (fun b2=>some (b2.1.1,()))else none
def aC9:Sum:=⟨[.str],NT,fun x=>fn9 x.1⟩
noncomputable def ayz:Env:=fZ prog tt 9 [(18,awx)] [(4,aCl)] [(4,awi)]
def awo {γ:Type} (a:auU.den->Option γ) (b:apJ.den->Option γ) (c:apO.den->Option γ) (v:auU.den):Option γ:=ah1 (fun v0 v1=>a ((v0,v1,()),())) (b ((),())) (fun r0=>c ((r0,()),())) v.1.1 v.1.2.1
theorem aCS:eQ ayz 9 aA6 awi:=QF (awo) (h2:=by intros;simp only[awo,ah1,dm,dn,bu,dh,dw])
theorem aD8:dO ayz 9 b9:=wK [aA6] (aD (fM (aCS)) aN)
theorem asJ:dB ayz:=eA f9 (aD aq6 aN) (aD8)
theorem avt:dU prog 9 aC9:=sA asJ
end
section
open List renaming length_drop → aX
open Go.RowKit
theorem bY {a b:Int} (h1: -9223372036854775808<=a+b) (h2:a+b<=9223372036854775807):bU .i64 a b=a+b:=by
 unfold bU;rw[IntKind.wrap_i64];omega
theorem gG {a b:Int} (h1: -9223372036854775808<=a-b) (h2:a-b<=9223372036854775807):ed .i64 a b=a-b:=by
 unfold ed;rw[IntKind.wrap_i64];omega
theorem aua {a b:Int}:leI a b=true↔a<=b:=by simp[leI]
theorem auv {a b:Int}:iw a b=true↔a<b:=by simp[iw]
theorem asM {a b:Int}:bM a b=true↔a=b:=by simp[bM]
theorem atm {α:Type} {l:List α} {i:Int}:gI l i=true↔0<=i/\i<l.length:=by simp[gI]
theorem auw {α:Type} {l:List α} {i:Nat}:qi i l=true↔i<l.length:=by simp[qi,NZ]
theorem akW {n lo hi:Int}:fF n lo hi=true↔0<=lo/\lo<=hi/\hi<=n:=by simp[fF]
theorem bH {α:Type} {b:Bool} {x y:α} (h:b=true):(bif b then x else y)=x:=by rw[h];rfl
theorem cO {α:Type} {b:Bool} {x y:α} (h:b=false):(bif b then x else y)=y:=by rw[h];rfl
theorem ou {a b:Int} (h:a<=b):leI a b=true:=aua.2 h
theorem Jm {a b:Int} (h:b<a):leI a b=false:=by simp[leI];omega
theorem fJ {a b:Int} (h:a<b):iw a b=true:=auv.2 h
theorem iP {a b:Int} (h:b<=a):iw a b=false:=by simp[iw];omega
theorem CB {a b:Int} (h: ¬a<=b):leI a b=false:=Jm (by omega)
theorem ig {a b:Int} (h: ¬a<b):iw a b=false:=iP (by omega)
theorem dQ {a b:Int} (h:a=b):bM a b=true:=asM.2 h
theorem dK {a b:Int} (h:a≠b):bM a b=false:=by simp[bM];exact h
theorem eP {α:Type} {l:List α} {i:Int} (h:0<=i) (h2:i<l.length):gI l i=true:=atm.2 ⟨h,h2⟩
theorem wM {α:Type} {l:List α} {i:Nat} (h:i<l.length):qi i l=true:=auw.2 h
theorem fK {n lo hi:Int} (h:0<=lo) (h1:lo<=hi) (h2:hi<=n):fF n lo hi=true:=akW.2 ⟨h,h1,h2⟩
theorem bD {α:Type} {l:List α}:bC l=(l.length:Int):=rfl
theorem dJ {n:Nat} (h:n<1000000000000000000000000):n<bP:=by unfold bP;omega
theorem nZ {α:Type} {s:List α} {a b:Int} (ha:0<=a) (hab:a<=b) (h:b<=s.length):(((sub s a b).length:Nat):Int)=b-a:=by
 unfold sub;simp only[aX,List.length_take];omega
theorem qU {α:Type} {l:List α} {d x:α} {i:Int} (h:i=l.length):dN (l++[x]) d i=x:=by
 unfold dN;subst h;simp[List.getD]
end
section
open List renaming length_append → ag, length_singleton → ay
open Go.RowKit
abbrev gm:=List lH
def lo (s:gm):List jJ:=(s.map fun f=>(f.1,f.2,())).reverse
def letter (m:Int):UInt8:=([84,67,80,79,83,68,66,86,73,65,82,69,76,88,35]:bK).getD m.toNat 0
def so (s:gm):bK:=(s.map fun f=>letter f.1).reverse
theorem rQ (f:lH) (s:gm):lo (f::s)=lo s++[(f.1,f.2,())]:=by simp[lo]
theorem mf (s:gm):(lo s).length=s.length:=by simp[lo]
def Cf (b:Int):Bool:=decide (b=32)||decide (b=9)||decide (b=10)||decide (b=124)||decide (b=38)||decide (b=59)||decide (b=60)||decide (b=62)||decide (b=40)||decide (b=41)
def isByte (b:Int):Prop:=0<=b/\b<256
theorem ZM {b:Int} (h:isByte b): ∃n:Fin 256,b=((n.val:Nat):Int):=⟨⟨b.toNat,by have:=h.2;have:=h.1;omega⟩,by have:=h.1;simp;omega⟩
theorem qX (s:bK) (i:Int):isByte (bV s i):=by
 grind [bV,isByte,UInt8.toNat_lt]
theorem aBc: ∀n:Fin 256,Gm ((n.val:Nat):Int)=some (Cf ((n.val:Nat):Int),()):=by decide+kernel
theorem amH {b:Int} (h:isByte b):Gm b=some (Cf b,()):=by
 obtain⟨n,rfl⟩:=ZM h;exact aBc n
theorem U8 {α:Type} {l:List α} (x:α) (h:l.length<1000000):dA (ed .i64 (bC (l++[x])) 1)=l.length:=by
 grind [bD,gG,dA]
theorem L8 {α:Type} {l:List α} (x:α) (h:l.length<1000000):ed .i64 (bC (l++[x])) 1=l.length:=by
 grind [bD,gG]
theorem ahn {s:gm} (hb:s.length<1000000) (fr:Bool) (at_ m:Int):wE (lo s) fr at_ m=some ((lo ((m,at_)::s),(fr,(at_,()))),()):=by
 have h:eH (bT (lo s) [(m,(at_,()))]) 16=true:=by
  simp only[eH,bT,ag,mf,ay,decide_eq_true_eq,ni];omega
 unfold wE;rw[h];simp[bM,bT,rQ]
theorem OA {f g:Int×Int} {r:gm} (hb:(f::g::r).length<1000000) (fr:Bool) (at_:Int):Hm (lo (f::g::r)) fr at_=some ((lo (g::r),(fr,(at_,()))),()):=by
 have hl:(lo (g::r)).length=r.length+1:=by rw[mf];rfl
 have hb':r.length+2<1000000:=by simpa using hb
 unfold Hm;rw[rQ f,L8 _ (by omega),bH (fJ (by grind [bD])),bH (fK (by omega) (by omega) (by rw[bD];simp;omega))];simp[takeN,dA]
theorem ry {f:Int×Int} {r:gm} (hb:(f::r).length<1000000) (fr:Bool) (at_ m:Int):Gf (lo (f::r)) fr at_ m=some ((lo ((m,f.2)::r),(fr,(at_,()))),()):=by
 have hl:(lo r).length=r.length:=mf r;have hb':r.length+1<1000000:=by simpa using hb
 unfold Gf;rw[rQ f,L8 _ (by omega),bH (eP (by omega) (by simp;omega)),bH (wM (by simp[dA]))];simp[dA,dI,ik,rQ]
theorem acd {f g:Int×Int} {r:gm} (hb:(f::g::r).length<1000000) (fr:Bool) (at_:Int):afU (lo (f::g::r)) fr at_=some ((lo (f::g::r),(fr,(at_,()))),(g.1,())):=by
 have hl:(lo r).length=r.length:=mf r;have hb':r.length+2<1000000:=by simpa using hb
 have e:Bf (ed .i64 (bC (lo (f::g::r))) 2) 0=r.length:=by
  grind [bD,gG,mf,Bf]
 unfold afU;rw[e,rQ f,rQ g,bH (eP (by omega) (by simp[hl];omega)),bH (wM (by simp[dA,hl]))];simp_all [dA,dI]
theorem Dj {α:Type} {f:α->α->Bool} (h: ∀x,f x x=true): ∀l:List α,wB f l l=true
 |[]=>rfl
 |x::l=>by simp[wB,h,Dj h l]
theorem PV: ∀(t:Ty) (x:t.den),WB t x x=true
 |.unit,_=>rfl
 |.bool,x=>by simp[WB]
 |.int _,x=>by simp[WB,bM]
 |.str,x=>by simp[WB,gU]
 |.list t,x=>Dj (PV t) x
 |.pair a b,x=>by simp[WB,PV]
theorem mF (t:Ty) (x:List t.den):PW t x x=true:=Dj (PV t) x
theorem fD (x:Int):bM x x=true:=by simp[bM]
theorem lL (x:bK):gU x x=true:=by simp[gU]
theorem nD (x:Bool):Oc x x=true:=by simp[Oc]
end
section
open Go.RowKit
def yE (s:gm) (b at_:Int):Option gm:=if b=92 then some ((13,at_)::s)else if b=36 then some ((12,at_)::s)else if b=96 then some ((6,at_)::s)else none
def Gv (m:Int) (s:gm) (fr:Bool) (b at_:Int):gm×Bool:=if b=92 then((13,at_)::s,fr)else if b=35/\fr=true then((14,at_)::s,fr)else if b=40 then(if m=0 then s else(2,at_)::s,true)else if b=41 then(if m=0 then s else s.tail, !decide (m=1))else if b=39 then((4,at_)::s,false)else if b=34 then((5,at_)::s,false)else if b=36 then((12,at_)::s,false)else if b=96 then((6,at_)::s,false)else(s,Cf b)
def je (m:Int) (s:gm) (fr:Bool) (b at_:Int):gm×Bool:=
 if m=0\/m=1\/m=2 then Gv m s fr b at_
 else if m=13 then(s.tail,fr&&decide (b=10))
 else if m=4 then(if b=39 then s.tail else s,fr)
 else if m=14 then(if b=10 then(s.tail,true)else(s,fr))
 else if m=6 then(if b=96 then s.tail else if b=92 then(13,at_)::s else s,fr)
 else match yE s b at_ with
  |some s'=>(s',fr)
  |none=>
   if m=9\/m=10 then(if b=40 then(10,at_)::s else if b=41 then(if m=10 then s.tail else(11,(s.headD (0,0)).2)::s.tail)else s,fr)
   else(if b=34 then(if m=5 then s.tail else(5,at_)::s)else if b=125/\m≠5 then s.tail else if b=39/\m=7 then(4,at_)::s else s,fr)
def gu (s:gm) (fr:Bool) (b at_:Int):gm×Bool:=
 match s with
 |[]=>([],fr)
 |f::r=>
  if f.1=12 then
   (if b=40 then((3,f.2)::r,true)
   else if b=123 then((if(r.headD (0,0)).1=5\/(r.headD (0,0)).1=8 then 8 else 7,f.2)::r,fr)
   else if b=36 then(r,fr)
   else je (r.headD (0,0)).1 r fr b at_)
  else if f.1=3 then(if b=40 then((9,f.2)::r,false)else je 1 ((1,f.2)::r) fr b at_)
  else if f.1=11 then(if b=41 then(r,fr)else je 9 ((9,f.2)::r) fr b at_)
  else je f.1 (f::r) fr b at_
theorem sV (b:Int):b=10\/b=34\/b=35\/b=36\/b=39\/b=40\/b=41\/b=92\/b=96\/b=123\/b=125\/
  (b≠10/\b≠34/\b≠35/\b≠36/\b≠39/\b≠40/\b≠41/\b≠92/\b≠96/\b≠123/\b≠125):=by omega
theorem iZ (a b:Int):bM a b=decide (a=b):=by
 rfl
def pst (x:gm×Bool) (at_:Int):(List jJ×Bool×Int×Unit):=(lo x.1,(x.2,(at_,())))
theorem afd {m:Int} {f:Int×Int} {r:gm} (hm:m=0\/((m=1\/m=2)/\ ∃g r',r=g::r')) (hb:(f::r).length<1000000) (fr:Bool) {b:Int} (hby:isByte b) (at_:Int):
  UH (lo (f::r)) fr at_ m b=some (pst (Gv m (f::r) fr b at_) at_,()):=by
 have e:=amH hby;rcases hm with rfl|⟨rfl|rfl,g,r,rfl⟩<;>rcases sV b with rfl|rfl|rfl|rfl|rfl|rfl|rfl|rfl|rfl|rfl|rfl|⟨h1,h2,h3,h4,h5,h6,h7,h8,h9,h10,h11⟩<;>cases fr<;>
  simp_all [UH,Qd,Gv,pst,iZ,ahn,OA,Cf,bu,Jf]
theorem avc {m:Int} {f:Int×Int} {r:gm} (hm:m=0\/((m=1\/m=2\/m=4\/m=5\/m=6\/m=7\/m=8\/m=9\/m=10\/m=13\/m=14)/\ ∃g r',r=g::r')) (hb:(f::r).length<1000000) (fr:Bool) {b:Int} (hby:isByte b) (at_:Int):
  aaH (lo (f::r)) fr at_ m b=some (pst (je m (f::r) fr b at_) at_,()):=by
 rcases hm with rfl|⟨rfl|rfl|hm,g,r,rfl⟩
 ·simp[aaH,je,iZ,afd (.inl rfl) hb fr hby at_,pst,bu,Ho]
 ·simp[aaH,je,iZ,afd (.inr ⟨.inl rfl,g,r,rfl⟩) hb fr hby at_,pst,bu,Ho]
 ·simp[aaH,je,iZ,afd (.inr ⟨.inr rfl,g,r,rfl⟩) hb fr hby at_,pst,bu,Ho]
 ·rcases hm with rfl|rfl|rfl|rfl|rfl|rfl|rfl|rfl|rfl<;>rcases sV b with rfl|rfl|rfl|rfl|rfl|rfl|rfl|rfl|rfl|rfl|rfl|⟨h1,h2,h3,h4,h5,h6,h7,h8,h9,h10,h11⟩<;>cases fr<;>
  simp_all [aaH,afV,afW,Qd,je,yE,pst,iZ,ahn,OA,ry,bu,Ho,WN,WO]
def Xq (m:Int):Prop:=m=0\/m=1\/m=2\/m=5\/m=6\/m=7\/m=8\/m=9\/m=10
def jg:gm->Prop
 |[]=>False
 |[f]=>f.1=0
 |f::g::r=>1<=f.1/\f.1<=14/\Xq g.1/\jg (g::r)
theorem aBQ: ∃k,bP=k+2:=by
 simp_all [bP]
theorem abT {l:List jJ} {x:Int×Int×Unit} (h:l.length<1000000):dI (l++[x]) (0,(0,())) (dA (ed .i64 (bC (l++[x])) 1))=x:=by
 rw[U8 x h];simp[dI]
theorem agw {α:Type} {l:List α} {x:α} (h:l.length<1000000):gI (l++[x]) (ed .i64 (bC (l++[x])) 1)=true:=by
 grind [L8,eP]
theorem ag1 {α:Type} {l:List α} {x:α} (h:l.length<1000000):qi (dA (ed .i64 (bC (l++[x])) 1)) (l++[x])=true:=by
 simp_all [U8,wM]
theorem xZ {f:Int×Int} {r:gm} (n:Nat) (hm:f.1=0\/((f.1=1\/f.1=2\/f.1=4\/f.1=5\/f.1=6\/f.1=7\/f.1=8\/f.1=9\/f.1=10\/f.1=13\/f.1=14)/\ ∃g r',r=g::r')) (hb:(f::r).length<1000000) (fr:Bool) {b:Int} (hby:isByte b) (at_:Int):
  zU (n+1) b fr at_ (lo (f::r))=some (.inl ((),((),()),(((je f.1 (f::r) fr b at_).2,at_,()),lo (je f.1 (f::r) fr b at_).1,()))):=by
 have hl:(lo r).length<1000000:=by grind [mf]
 have n12:f.1≠12:=by omega
 have n3:f.1≠3:=by omega
 have n11:f.1≠11:=by omega
 have hp:=avc hm hb fr hby at_;rw[zU,Et];rw[show lo (f::r)=lo r++[(f.1,f.2,())] from rQ f r,agw hl,ag1 hl,abT hl];simp only[cond_true,iZ,n12,n3,n11,decide_false,cond_false];rw[<-rQ,hp,bu];rfl
theorem akG {f:Int×Int} {r:gm} (hg:jg (f::r)) (hl:Xq f.1):f.1=0\/((f.1=1\/f.1=2\/f.1=4\/f.1=5\/f.1=6\/f.1=7\/f.1=8\/f.1=9\/f.1=10\/f.1=13\/f.1=14)/\ ∃g r',r=g::r'):=by
 cases r with
 |nil=>exact .inl hg
 |cons g r=>
  unfold Xq at hl
  grind
theorem adO {s:gm} (hg:jg s) (hb:s.length<1000000) (fr:Bool) {b:Int} (hby:isByte b) {at_:Int} (h0:0<=at_) (h1:at_<1000000000):akf (lo s) fr at_ b=some (pst (gu s fr b at_) (at_+1),()):=by
 obtain⟨k,hk⟩:=aBQ;cases s with
 |nil=>cases hg
 |cons f r=>
 have hl:(lo r).length<1000000:=by grind [mf]
 have hne:bM (bC (lo (f::r))) 0=false:=dK (by rw[bD,mf];simp;omega);have ha:bU .i64 at_ 1=at_+1:=bY (by omega) (by omega);unfold akf;rw[hne,cond_false,hk];by_cases hp:f.1=12\/f.1=3\/f.1=11
 ·cases r with
  |nil=>have:f.1=0:=hg;omega
  |cons g r=>
  have hlow:=akG hg.2.2.2 hg.2.2.1;have hb2:(g::r).length<1000000:=by grind
  rw[show k+2=(k+1)+1 from rfl,zU,Et,show lo (f::g::r)=lo (g::r)++[(f.1,f.2,())] from rQ f _,agw hl,ag1 hl,abT hl,<-rQ];rcases hp with e|e|e
  ·have hd:aaG (lo (f::g::r)) fr at_ b=some ((if b=40 then(lo ((3,f.2)::g::r),(true,(at_,())))else if b=123 then(lo ((if g.1=5\/g.1=8 then 8 else 7,f.2)::g::r),(fr,(at_,())))else(lo (g::r),(fr,(at_,())))),(decide (b=40\/b=123\/b=36),())):=by
    by_cases e1:b=40
    ·subst e1;simp[aaG,iZ,ry hb,bu]
    ·by_cases e2:b=123
     ·subst e2;by_cases e5:g.1=5
      ·simp[aaG,iZ,ry hb,acd hb,bu,e5]
      ·by_cases e8:g.1=8<;>simp[aaG,iZ,ry hb,acd hb,bu,e5,e8]
     ·by_cases e3:b=36<;>simp[aaG,iZ,OA hb,bu,e1,e2,e3]
   simp only[cond_true,iZ,e,decide_true];rw[hd,bu];by_cases e1:b=40\/b=123\/b=36
   ·simp only[e1,decide_true,cond_true,bu,dL,ha];rcases e1 with rfl|rfl|rfl<;>simp[gu,e,pst,ha]
   ·have e1':b≠40/\b≠123/\b≠36:=by omega
    simp only[e1'.1,e1'.2.1,e1'.2.2,or_self,decide_false,cond_false,if_false];simp_all [xZ,bu,dL,gu,pst]
  ·simp only[cond_true,iZ,e,decide_true,show decide ((3:Int)=12)=false from rfl,cond_false];by_cases e1:b=40
   ·simp_all [ry,bu,dL,gu,pst]
   ·simp only[e1,decide_false,cond_false,ry hb,bu];rw[xZ k (f:=(1,f.2)) (.inr ⟨.inl rfl,g,r,rfl⟩) (by simpa using hb) fr hby at_,bu];simp[dL,gu,e,e1,pst,ha]
  ·simp only[cond_true,iZ,e,decide_true,show decide ((11:Int)=12)=false from rfl,show decide ((11:Int)=3)=false from rfl,cond_false];by_cases e1:b=41
   ·simp_all [OA,bu,dL,gu,pst]
   ·simp only[e1,decide_false,cond_false,ry hb,bu];rw[xZ k (f:=(9,f.2)) (.inr ⟨by simp,g,r,rfl⟩) (by simpa using hb) fr hby at_,bu];simp[dL,gu,e,e1,pst,ha]
 ·have hm:f.1=0\/((f.1=1\/f.1=2\/f.1=4\/f.1=5\/f.1=6\/f.1=7\/f.1=8\/f.1=9\/f.1=10\/f.1=13\/f.1=14)/\ ∃g r',r=g::r'):=by
   cases r with
   |nil=>exact .inl hg
   |cons g r=>have h1:=hg.1;have h2:=hg.2.1;grind
  simp_all [xZ,bu,dL,gu,pst]
end
section
open Go.RowKit
end
section
open Go.RowKit
theorem akl {f:Int×Int} {r:gm} (h:jg (f::r)):0<=f.1/\f.1<=14:=by
 cases r with
 |nil=>have:f.1=0:=h;omega
 |cons g r=>have:=h.1;have:=h.2.1;omega
theorem akm {s:gm} (hg:jg s) (hl: ∃f r,s=f::r/\Xq f.1) {m at_:Int} (h1:1<=m) (h2:m<=14):jg ((m,at_)::s):=by
 obtain⟨f,r,rfl,hf⟩:=hl;exact⟨h1,h2,hf,hg⟩
theorem Dw {f:Int×Int} {r:gm} (hg:jg (f::r)) (hr:r≠[]) {m at_:Int} (h1:1<=m) (h2:m<=14):jg ((m,at_)::r):=by
 cases r with
 |nil=>exact absurd rfl hr
 |cons g r=>exact⟨h1,h2,hg.2.2.1,hg.2.2.2⟩
theorem EU {f:Int×Int} {r:gm} (hg:jg (f::r)) (hr:r≠[]):jg r:=by
 cases r with
 |nil=>exact absurd rfl hr
 |cons g r=>exact hg.2.2.2
theorem nP {f:Int×Int} {r:gm} (hg:jg (f::r)) (h:f.1≠0):r≠[]:=by
 rintro rfl;exact h hg
theorem AY {m:Int} {f:Int×Int} {r:gm} (hf:f.1=m) (hg:jg (f::r)) (hm:m≠12/\m≠3/\m≠11) (fr:Bool) (b at_:Int):
  jg (je m (f::r) fr b at_).1/\(je m (f::r) fr b at_).1.length<=(f::r).length+1:=by
 obtain⟨g0,g1⟩:=akl hg;have hr:f.1≠0->r≠[]:=nP hg;have cases_m:m=0\/m=1\/m=2\/m=4\/m=5\/m=6\/m=7\/m=8\/m=9\/m=10\/m=13\/m=14:=by omega
 have push: ∀k,Xq f.1->1<=k->k<=14->jg ((k,at_)::f::r):=fun k hl h1 h2=>akm hg ⟨f,r,rfl,hl⟩ h1 h2;have lowf:m=0\/m=1\/m=2\/m=5\/m=6\/m=7\/m=8\/m=9\/m=10->Xq f.1:=fun h=>by simp_all [Xq]
 have tl:m≠0->jg r:=fun h=>EU hg (hr (by rw[hf];exact h));have st: ∀k,m≠0->1<=k->k<=14->jg ((k,f.2)::r):=fun k h h1 h2=>Dw hg (hr (by rw[hf];exact h)) h1 h2;rcases cases_m with e|e|e|e|e|e|e|e|e|e|e|e<;>subst e<;>rcases sV b with rfl|rfl|rfl|rfl|rfl|rfl|rfl|rfl|rfl|rfl|rfl|⟨h1,h2,h3,h4,h5,h6,h7,h8,h9,h10,h11⟩<;>cases fr<;>
  simp_all [je,Gv,yE]<;>first|omega|(refine⟨?_,by omega⟩;assumption)
end
section
open List renaming drop_eq_getElem_cons → aF, drop_of_length_le → aJ, drop_zero → aS, eq_nil_of_length_eq_zero → bg
open Go.RowKit
theorem good_step {s:gm} (hg:jg s) (fr:Bool) (b at_:Int):jg (gu s fr b at_).1/\(gu s fr b at_).1.length<=s.length+1:=by
 cases s with
 |nil=>cases hg
 |cons f r=>
 simp only[gu];split
 ·rename_i e
  have hr:r≠[]:=nP hg (by omega);have hs: ∀k,1<=k->k<=14->jg ((k,f.2)::r):=fun k h1 h2=>Dw hg hr h1 h2;have ht:=EU hg hr;split
  ·simp_all
  ·split
   ·grind
   ·split
    ·grind
    ·cases r with
     |nil=>exact absurd rfl hr
     |cons g r=>
      have hlow:=hg.2.2.1;have h:=AY rfl ht (by unfold Xq at hlow;omega) fr b at_
      grind
 ·split
  ·rename_i e
   have hr:r≠[]:=nP hg (by omega);split
   ·grind [Dw]
   ·have h:=AY (f:=(1,f.2)) rfl (Dw hg hr (by omega) (by omega)) (by omega) fr b at_
    assumption
  ·split
   ·rename_i e
    have hr:r≠[]:=nP hg (by omega);split
    ·grind [EU]
    ·have h:=AY (f:=(9,f.2)) rfl (Dw hg hr (by omega) (by omega)) (by omega) fr b at_
     assumption
   ·exact AY rfl hg (by omega) fr b at_
def md (s:gm):List Int:=s.map (·.1)
theorem JK (m:Int) {s s':gm} (h:md s=md s') (fr:Bool) (b a a':Int):md (je m s fr b a).1=md (je m s' fr b a').1/\(je m s fr b a).2=(je m s' fr b a').2:=by
 have ht:md s.tail=md s'.tail:=by
  have:=congrArg List.tail h;simpa [md] using this
 have cases_m:m=0\/m=1\/m=2\/m=4\/m=5\/m=6\/m=7\/m=9\/m=10\/m=13\/m=14\/(m≠0/\m≠1/\m≠2/\m≠4/\m≠5/\m≠6/\m≠7/\m≠9/\m≠10/\m≠13/\m≠14):=by omega
 have hc: ∀k (p q:Int),md ((k,p)::s)=md ((k,q)::s'):=fun k p q=>by simp_all [md]
 have hd: ∀k (p q:Int),md ((k,p)::s.tail)=md ((k,q)::s'.tail):=fun k p q=>by simp_all [md]
 rcases cases_m with rfl|rfl|rfl|rfl|rfl|rfl|rfl|rfl|rfl|rfl|rfl|⟨m1,m2,m3,m4,m5,m6,m7,m8,m9,m10,m11⟩<;>rcases sV b with rfl|rfl|rfl|rfl|rfl|rfl|rfl|rfl|rfl|rfl|rfl|⟨h1,h2,h3,h4,h5,h6,h7,h8,h9,h10,h11⟩<;>cases fr<;>
  simp_all [je,Gv,yE]<;>first|exact h|exact ht|exact hc _ _ _|exact hd _ _ _
theorem aux {s s':gm} (h:md s=md s') (fr:Bool) (b a a':Int):md (gu s fr b a).1=md (gu s' fr b a').1/\(gu s fr b a).2=(gu s' fr b a').2:=by
 cases s with
 |nil=>cases s' with
  |nil=>exact⟨rfl,rfl⟩
  |cons _ _=>simp[md]at h
 |cons f r=>cases s' with
  |nil=>simp[md]at h
  |cons f' r'=>
   have h1:f.1=f'.1:=by simp_all [md]
   have h2:md r=md r':=by simp_all [md]
   have h3:(r.headD (0,0)).1=(r'.headD (0,0)).1:=by
    cases r<;>cases r'<;>simp[md]at h2 ⊢;exact h2.1
   have hc: ∀k (p q:Int),md ((k,p)::r)=md ((k,q)::r'):=fun k p q=>by simp_all [md]
   simp only[gu,<-h1,<-h3];split
   ·split
    ·grind
    ·split
     ·grind
     ·split
      ·exact⟨h2,rfl⟩
      grind [JK]
   ·split
    ·split
     ·grind
     grind [JK]
    ·split
     ·split
      ·exact⟨h2,rfl⟩
      grind [JK]
     grind [JK]
def gX (b:UInt8):Int:=(b.toNat:Int)
def iG:bK->Int->gm×Bool->gm×Bool
 |[],_,x=>x
 |b::l,a,x=>iG l (a+1) (gu x.1 x.2 (gX b) a)
def dR:gm×Bool:=([(0,0)],true)
theorem lZ:jg dR.1:=rfl
theorem drop_at {s:List UInt8} {i:Int} (h0:0<=i) (h:i<s.length): ∃b,s.drop i.toNat=b::s.drop (i+1).toNat/\bV s i=gX b:=by
 have hi:i.toNat<s.length:=by omega
 refine⟨s[i.toNat], ?_, ?_⟩
 ·grind [aF]
 simp_all [bV,gX]
theorem aac {s:List UInt8} {i:Int} (h:s.length<=i):s.drop i.toNat=[]:=aJ (by omega)
theorem awn (s:bK) (hs:s.length<=100000): ∀(N:Nat) (i:Int) (x:gm×Bool),(s.length:Int)-i<N->0<=i->i<=s.length->jg x.1->(x.1.length:Int)<=i+1->
  QA N s (bC s) i x.2 i (lo x.1)=some (.inl ((),(((iG (s.drop i.toNat) i x).2,(s.length:Int),()),lo (iG (s.drop i.toNat) i x).1,())))
 |0,i,x,h,_,_,_,_=>by omega
 |N+1,i,x,h,h0,hi,hg,hl=>by
  rw[QA,Y2];by_cases e:i<s.length
  ·obtain⟨b,hd,hb⟩:=drop_at h0 e;rw[bH (fJ (b:=bC s) e),bH (eP h0 e),adO hg (by omega) x.2 (qX s i) h0 (by omega),bu,hd,iG,<-hb];simp only[pst];rw[bY (by omega) (by omega)];have hst:=good_step hg x.2 (bV s i) i;exact awn s hs N (i+1) (gu x.1 x.2 (bV s i) i) (by omega) (by omega) (by omega) hst.1 (by have:=hst.2;omega)
  ·have hi':i=s.length:=by omega
   simp_all [iP,bD,iG]
theorem Dv: ∀(l:bK) (a:Int) (x:gm×Bool),jg x.1->jg (iG l a x).1/\(iG l a x).1.length<=x.1.length+l.length
 |[],a,x,h=>⟨h,by simp[iG]⟩
 |b::l,a,x,h=>by
  have h1:=good_step h x.2 (gX b) a;have h2:=Dv l (a+1) (gu x.1 x.2 (gX b) a) h1.1
  grind [iG]
theorem afG {n:Nat} (h:n<=1000000000):n<bP:=by unfold bP;omega
theorem alX (s:bK) (hs:s.length<=100000):akc s=some (lo (iG s 0 dR).1,((iG s 0 dR).2,())):=by
 have h:=awn s hs bP 0 dR (by have:=afG (n:=s.length) (by omega);omega) (by omega) (by omega) lZ (by simp[dR]);have hg:=Dv s 0 dR lZ;unfold akc;rw[show([(0,(0,()))]:List jJ)=lo dR.1 from rfl,show(true:Bool)=dR.2 from rfl,h,bu];simp only[dL,Int.toNat_zero,aS];have hlen:(lo (iG s 0 dR).1).length≠0:=by
  rw[mf];intro e;rw[bg e]at hg;exact hg.1
 rw[cO (dK (by rw[bD];omega))];have hc:ql (lo (iG s 0 dR).1)=some (lo (iG s 0 dR).1,()):=by
  unfold ql ww;have:eH (lo (iG s 0 dR).1) 16=true:=by
   have:=hg.2;have h1:dR.1.length=1:=rfl;simp only[eH,mf,decide_eq_true_eq,ni];omega
  rw[this];rfl
 rw[hc,bu];cases hf:(iG s 0 dR).2 with
 |true=>simp[aop,bu]
 |false=>simp[aop,bu,iZ,bD,hlen]
end
section
open Bool renaming false_eq_true → ah
open List renaming length_cons → aB
open Nat renaming le_refl → ae
open Go.RowKit
def xy (s:gm) (b:Int):Bool:=Cf b&&(match s with
 |[_]=>true
 |[f,_]=>decide (f.1=12)&& !decide (b=40)
 |_=>false)
def qm:bK->Int->gm×Bool->Nat
 |[],_,_=>0
 |b::l,a,x=>if xy x.1 (gX b)then 0 else qm l (a+1) (gu x.1 x.2 (gX b) a)+1
theorem afM: ∀(l:bK) (a:Int) (x:gm×Bool),qm l a x<=l.length
 |[],_,_=>ae _
 |b::l,a,x=>by
  simp only[qm,aB];split
  ·omega
  ·have:=afM l (a+1) (gu x.1 x.2 (gX b) a);omega
theorem amG {s s':gm} (h:md s=md s') (b:Int):xy s b=xy s' b:=by
 match s,s' with
 |[],[]=>rfl
 |[_],[_]=>rfl
 |[f,_],[f',_]=>simp_all [md,xy]
 |_::_::_::_,_::_::_::_=>rfl
 |[],_::_=>simp[md]at h
 |_::_,[]=>simp[md]at h
 |[_],_::_::_=>simp[md]at h
 |_::_::_,[_]=>simp[md]at h
 |[_,_],_::_::_::_=>simp[md]at h
 |_::_::_::_,[_,_]=>simp[md]at h
theorem Wx: ∀(l:bK) (a a':Int) (x x':gm×Bool),md x.1=md x'.1->x.2=x'.2->qm l a x=qm l a' x'
 |[],_,_,_,_,_,_=>rfl
 |b::l,a,a',x,x',h1,h2=>by
  have hs:=aux h1 x.2 (gX b) a a';simp only[qm,amG h1,<-h2];rw[Wx l (a+1) (a'+1) _ _ hs.1 hs.2]
theorem asE {s:gm} (hg:jg s) (hb:s.length<1000000) (fr:Bool) (at_:Int) {b:Int} (hby:isByte b):age (lo s) fr at_ b=some ((lo s,(fr,(at_,()))),(xy s b,())):=by
 unfold age;rw[amH hby,bu];cases he:Cf b with
 |false=>simp[xy,he]
 |true=>
  match s with
  |[]=>cases hg
  |[f]=>simp[xy,he,iZ,bD,lo]
  |[f,g]=>
   have h1:gI (lo [f,g]) 1=true:=eP (by omega) (by simp[lo]);have h2:qi (dA 1) (lo [f,g])=true:=wM (by simp[lo,dA]);have h3:dI (lo [f,g]) (0,(0,())) (dA 1)=(f.1,f.2,()):=by rfl
   have h4:(lo [f,g]).length=2:=by simp[lo]
   simp only[iZ,bD,h1,h2,h3,h4,cond_true]
   grind [xy]
  |f::g::h::r=>
   grind [mf,iZ,bD,xy]
theorem amF (s:bK) (hs:s.length<=100000): ∀(N:Nat) (i a:Int) (x:gm×Bool),(s.length:Int)-i<N->0<=i->i<=s.length->0<=a->a<=i->jg x.1->(x.1.length:Int)<=a+1->
  ∃o,Jy N s i x.2 a (lo x.1)=some o/\dL o (fun a1=>some (a1.1.1,())) (fun b1=>some (b1.1.1,()))=some (i+qm (s.drop i.toNat) a x,())
 |0,i,a,x,h,_,_,_,_,_,_=>by omega
 |N+1,i,a,x,h,h0,hi,ha0,ha,hg,hl=>by
  rw[Jy,OQ];by_cases e:i<s.length
  ·obtain⟨b,hd,hb⟩:=drop_at h0 e;rw[bH (fJ (b:=bC s) e),bH (eP h0 e),asE hg (by omega) x.2 a (qX s i),bu,hd,qm,<-hb];cases hw:xy x.1 (bV s i)with
   |true=>exact⟨_,rfl,by simp[dL]⟩
   |false=>
    simp only[cond_false,ah,if_false];rw[bH (eP h0 e),adO hg (by omega) x.2 (qX s i) (by omega) (by omega),bu];simp only[pst];rw[bY (by omega) (by omega)];have hst:=good_step hg x.2 (bV s i) a;obtain⟨o,h1,h2⟩:=amF s hs N (i+1) (a+1) (gu x.1 x.2 (bV s i) a) (by omega) (by omega) (by omega) (by omega) (by omega) hst.1 (by have:=hst.2;omega)
    grind
  ·rw[cO (iP (b:=bC s) (by rw[bD];omega)),aac (by omega)];exact⟨_,rfl,by simp[dL,qm]⟩
theorem aAV (s:bK) (hs:s.length<=100000) {i:Int} (h0:0<=i) (hi:i<=s.length):aay s i=some (i+qm (s.drop i.toNat) i dR,()):=by
 obtain⟨o,h1,h2⟩:=amF s hs bP i 0 dR (by have:=afG (n:=s.length) (by omega);omega) h0 hi (by omega) h0 lZ (by simp[dR]);unfold aay;rw[cO (iP h0),cO (iP (a:=bC s) hi),show([(0,(0,()))]:List jJ)=lo dR.1 from rfl,show(true:Bool)=dR.2 from rfl,h1,bu,h2,Wx _ i 0 dR dR rfl rfl]
end
section
open Bool renaming and_eq_true → af, not_true → au
open List renaming drop_eq_getElem_cons → aF, drop_of_length_le → aJ, length_drop → aX, takeWhile_cons → aY
open Go.RowKit
def Oi (c:UInt8):Bool:=(97<=c&&c<=122)||(65<=c&&c<=90)||c==95
def isD (c:UInt8):Bool:=48<=c&&c<=57
def EX (c:UInt8):Bool:=Oi c||isD c
def isP (c:UInt8):Bool:=c==64||c==42||c==35||c==63||c==45||c==36||c==33
def asy:Bool:=(List.range 256).all fun b=>match aaq (b:Int),aar (b:Int),aat (b:Int)with
 |some (x,_),some (y,_),some (k,_)=>(x==Oi (UInt8.ofNat b))&&((y==isD (UInt8.ofNat b))&&((decide (k=5)==Oi (UInt8.ofNat b))&&(decide (k=6)==isD (UInt8.ofNat b))))
 |_,_,_=>false
theorem amv:asy=true:=by kernel_rfl
theorem zC (c:UInt8):aaq (c.toNat:Int)=some (Oi c,())/\aar (c.toNat:Int)=some (isD c,())/\ ∃k,aat (c.toNat:Int)=some (k,())/\bM k 5=Oi c/\bM k 6=isD c:=by
 have h:=List.all_eq_true.1 amv c.toNat (List.mem_range.2 (by have:=c.toNat_lt;omega));have hc:UInt8.ofNat c.toNat=c:=by simp
 rw[hc]at h;split at h
 ·rename_i x u y v k w h1 h2 h3
  simp only[af,beq_iff_eq]at h
  grind [bM]
 ·cases h
def aCT:Bool:=(List.range 256).all fun b=>match Hl (b:Int) [64,42,35,63,45,36,33]with
 |some (x,_)=>(x==isP (UInt8.ofNat b))&&(isP (UInt8.ofNat b)==(bM (b:Int) 64||(bM (b:Int) 42||(bM (b:Int) 35||(bM (b:Int) 63||(bM (b:Int) 45||(bM (b:Int) 36||bM (b:Int) 33)))))))
 |_=>false
theorem aAl:aCT=true:=by kernel_rfl
theorem aAk (c:UInt8):Hl (c.toNat:Int) [64,42,35,63,45,36,33]=some (isP c,())/\isP c=(bM (c.toNat:Int) 64||(bM (c.toNat:Int) 42||(bM (c.toNat:Int) 35||(bM (c.toNat:Int) 63||(bM (c.toNat:Int) 45||(bM (c.toNat:Int) 36||bM (c.toNat:Int) 33)))))):=by
 have h:=List.all_eq_true.1 aAl c.toNat (List.mem_range.2 (by have:=c.toNat_lt;omega));have hc:UInt8.ofNat c.toNat=c:=by simp
 grind
theorem byte_at {s:List UInt8} {i:Nat} (h:i<s.length):bV s (i:Int)=(s[i].toNat:Int):=by
 simp_all [bV]
def runN (s:bK):Nat:=(s.takeWhile EX).length
def Ep (s:bK):Nat:=(s.takeWhile Oi).length
def oL (s:bK):Nat:=(s.takeWhile isD).length
theorem CG (p:UInt8->Bool) (s:bK):(s.takeWhile p).length<=s.length:=by
 induction s with
 |nil=>simp
 |cons c v ih=>grind [aY]
theorem Kv (p:UInt8->Bool): ∀(s:bK) (i:Nat) (h:i<s.length),i<(s.takeWhile p).length->p s[i]=true
 |[],i,h,_=>by simp at h
 |c::v,i,h,h2=>by
  rw[aY]at h2;split at h2
  ·rename_i hc
   match i with
   |0=>exact hc
   |i+1=>exact Kv p v i (by simpa using h) (by simpa using h2)
  ·simp at h2
theorem Cb (p:UInt8->Bool): ∀(s:bK) (h:(s.takeWhile p).length<s.length),p s[(s.takeWhile p).length]=false
 |[],h=>by simp at h
 |c::v,h=>by
  by_cases hc:p c=true
  ·have e:List.takeWhile p (c::v)=c::v.takeWhile p:=by simp_all
   have h':(v.takeWhile p).length<v.length:=by simp_all
   have:=Cb p v h';simp_all
  simp_all
theorem aDH (p:UInt8->Bool) (s:bK) (n:Nat) (hn:n<=s.length) (h1: ∀i (h:i<s.length),i<n->p s[i]=true) (h2: ∀h:n<s.length,p s[n]=false):(s.takeWhile p).length=n:=by
 have a:=CG p s;by_cases c:(s.takeWhile p).length<n
 ·grind [Cb]
 grind [Kv]
def nl (s:bK):Nat:=if Ep s=0 then 0 else runN s
theorem ap5 {s:List UInt8} (h:Ep s≠0):runN s≠0:=by
 unfold Ep at h;unfold runN
 match s with
 |[]=>simp at h
 |c::v=>
  simp_all [aY,EX]
theorem aCR (s:bK):nl s<=s.length:=by
 unfold nl;split
 ·omega
 ·exact CG _ _
theorem V3 {s:List UInt8} (hs:s.length<4000000) {a k:Nat} (h:a+k<s.length): ∃hk:k<(s.drop a).length,bV s (bU .i64 (a:Int) (k:Int))=(((s.drop a)[k]).toNat:Int):=by
 have hk:k<(s.drop a).length:=by grind
 refine⟨hk, ?_⟩;rw[bY (by omega) (by omega),show(a:Int)+(k:Int)=((a+k:Nat):Int) by omega,byte_at h,List.getElem_drop]
theorem awt {s:List UInt8} (hs:s.length<4000000) {at_:Nat} (ha:at_<=s.length) (a:bK) (b:Int) (c:bK) (d:Int): ∀(N k:Nat),s.length-k<N->k<=Ep (s.drop at_)->
  mG N s (at_:Int) (k:Int) a b c d=some (.inl ((((Ep (s.drop at_):Nat):Int),()),((a,b,c,d,()),(),()),()))
 |0,k,h,hk=>by
  omega
 |N+1,k,h,hk=>by
  have hle:=CG Oi (s.drop at_);have hld:=aX (i:=at_) (l:=s);rw[mG,rZ];have hk':k<=((s.drop at_).takeWhile Oi).length:=hk;have e0:bU .i64 (at_:Int) (k:Int)=(at_:Int)+k:=bY (by omega) (by omega);by_cases h1:at_+k<s.length
  ·obtain⟨hkd,hb⟩:=V3 hs h1;rw[hb,e0,bH (fJ (by rw[bD];omega)),bH (eP (by omega) (by omega)),(zC _).1,bu];by_cases h2:k<Ep (s.drop at_)
   ·rw[Kv Oi _ k hkd h2];simp only[au,cond_false];rw[bY (by omega) (by omega),show(k:Int)+1=((k+1:Nat):Int) by omega];exact awt hs ha a b c d N (k+1) (by omega) (by omega)
   ·obtain rfl:k=Ep (s.drop at_):=by omega
    grind [Cb,Ep]
  ·obtain rfl:k=Ep (s.drop at_):=by grind [Ep]
   rw[e0,cO (ig (by rw[bD];omega))]
theorem awu {s:List UInt8} (hs:s.length<4000000) {at_:Nat} (ha:at_<=s.length) (a:bK) (b:Int) (c:bK) (d:Int): ∀(N k:Nat),s.length-k<N->k<=runN (s.drop at_)->
  nH N s (at_:Int) (k:Int) a b c d=some (.inl ((((runN (s.drop at_):Nat):Int),()),((a,b,c,d,()),(),()),()))
 |0,k,h,hk=>by
  omega
 |N+1,k,h,hk=>by
  have hle:=CG EX (s.drop at_);have hld:=aX (i:=at_) (l:=s);rw[nH,yf];have hk':k<=((s.drop at_).takeWhile EX).length:=hk;have e0:bU .i64 (at_:Int) (k:Int)=(at_:Int)+k:=bY (by omega) (by omega);by_cases h1:at_+k<s.length
  ·obtain⟨hkd,hb⟩:=V3 hs h1;have ea:bU .i64 (k:Int) 1=((k+1:Nat):Int):=by grind [bY]
   rw[hb,e0,bH (fJ (by rw[bD];omega)),bH (eP (by omega) (by omega)),(zC _).1,bu,(zC _).2.1];by_cases h2:k<runN (s.drop at_)
   ·have ih:=awu hs ha a b c d N (k+1) (by omega) (by omega);have hn:=Kv EX _ k hkd h2;rw[ea];cases hL:Oi (s.drop at_)[k]with
    |true=>exact ih
    |false=>
     simp_all [EX,bu]
   ·obtain rfl:k=runN (s.drop at_):=by omega
    have:=Cb EX _ hkd;have h3:EX (s.drop at_)[runN (s.drop at_)]=false:=this;simp_all [EX,bu]
  ·obtain rfl:k=runN (s.drop at_):=by grind [runN]
   rw[e0,cO (ig (by rw[bD];omega))]
theorem aws {s:List UInt8} (hs:s.length<4000000) {at_:Nat} (ha:at_<=s.length) (a:bK) (b:Int) (c:bK) (d:Int): ∀(N k:Nat),s.length-k<N->k<=oL (s.drop at_)->
  pV N s (at_:Int) (k:Int) a b c d=some (.inl ((((oL (s.drop at_):Nat):Int),()),((a,b,c,d,()),(),()),()))
 |0,k,h,hk=>by
  omega
 |N+1,k,h,hk=>by
  have hle:=CG isD (s.drop at_);have hld:=aX (i:=at_) (l:=s);rw[pV,yg];have hk':k<=((s.drop at_).takeWhile isD).length:=hk;have e0:bU .i64 (at_:Int) (k:Int)=(at_:Int)+k:=bY (by omega) (by omega);by_cases h1:at_+k<s.length
  ·obtain⟨hkd,hb⟩:=V3 hs h1;rw[hb,e0,bH (fJ (by rw[bD];omega)),bH (eP (by omega) (by omega)),(zC _).2.1,bu];by_cases h2:k<oL (s.drop at_)
   ·rw[Kv isD _ k hkd h2];simp only[au,cond_false];rw[bY (by omega) (by omega),show(k:Int)+1=((k+1:Nat):Int) by omega];exact aws hs ha a b c d N (k+1) (by omega) (by omega)
   ·obtain rfl:k=oL (s.drop at_):=by omega
    grind [Cb,oL]
  ·obtain rfl:k=oL (s.drop at_):=by grind [oL]
   rw[e0,cO (ig (by rw[bD];omega))]
theorem O4 {s:List UInt8} (hs:s.length<4000000) {a:Nat} (ha:a<=s.length):zN s a=some (((oL (s.drop a):Nat):Int),()):=by
 rw[zN,cO (ig (by omega))];by_cases h0:a=s.length
 ·subst h0;rw[bH (ou (by rw[bD];omega)),List.drop_length];rfl
 rw[cO (CB (by rw[bD];omega)),show pV bP s a 0 s a s a=_ from aws hs ha s a s a bP 0 (dJ (by omega)) (by omega),bu];rfl
theorem alW {s:List UInt8} (hs:s.length<4000000) {a:Nat} (ha:a<=s.length):Qa s a=some (((nl (s.drop a):Nat):Int),()):=by
 (rewrite [Qa];delta WM;rw[cO (ig (by omega))])
 by_cases h0:a=s.length
 ·subst h0;rw[bH (ou (by rw[bD];omega)),List.drop_length];rfl
 rw[cO (CB (by rw[bD];omega)),show mG bP s a 0 s a s a=_ from awt hs ha s a s a bP 0 (dJ (by omega)) (by omega),bu];unfold dL;simp only;unfold nl;by_cases h1:Ep (s.drop a)=0
 ·rw[if_pos h1,h1];rfl
 ·rw[if_neg h1,cO (dK (by omega)),cO (ig (by omega)),cO (CB (by rw[bD];omega)),show nH bP s a 0 _ _ _ _=_ from awu hs ha _ _ _ _ bP 0 (dJ (by omega)) (by omega)];rfl
theorem Nc {s:List UInt8} (hs:s.length<4000000): ∀(N k:Nat),s.length-k<N->k<=runN s->
  U2 N s (k:Int)=some (if runN s=s.length then .inl ((),())else .inr ((false,()),()))
 |0,k,h,hk=>by omega
 |N+1,k,h,hk=>by
  have hle:=CG EX s;have hk':k<=(s.takeWhile EX).length:=hk;rw[U2,ah1];by_cases h1:k<s.length
  ·obtain⟨c,hc,h5,h6⟩:=(zC s[k]).2.2;have hin:gI s (k:Int)=true:=eP (by omega) (by omega);rw[bH (fJ (by rw[bD];omega)),hin,byte_at h1,hc,bu,h5];by_cases h2:k<runN s
   ·have ih:=Nc hs N (k+1) (by omega) (by omega);have hn:=Kv EX s k h1 h2;have ea:bU .i64 (k:Int) 1=((k+1:Nat):Int):=by grind [bY]
    rw[ea];cases hL:Oi s[k]with
    |true=>exact ih
    |false=>
     simp_all [EX,bu]
   ·obtain rfl:k=runN s:=by omega
    have:=Cb EX s h1;have h3:EX s[runN s]=false:=this;simp only[EX,Bool.or_eq_false_iff]at h3;rw[h3.1,if_neg (by omega)];simp_all [bu]
  ·obtain rfl:k=runN s:=by grind [runN]
   rw[cO (ig (by rw[bD];omega)),if_pos (by omega)]
theorem WW {s:List UInt8} (h0:s≠[]):Ep s=0↔Oi (s.headD 0)=false:=by
 match s,h0 with
 |c::v,_=>
  simp_all [Ep,aY]
theorem wI {s:List UInt8} (hs:s.length<4000000):fn9 s=some (decide (nl s≠0/\nl s=s.length),()):=by
 rw[fn9];by_cases h0:s=[]
 ·subst h0;rfl
 have hp:0<s.length:=List.length_pos_iff.2 h0;obtain⟨_,_,c,hc1,hc2,hc3⟩:=zC s[0];have hb:bV s 0=(s[0].toNat:Int):=byte_at (i:=0) hp;have hh:s.headD 0=s[0]:=by
  match s,h0 with
  |c::v,_=>rfl
 rw[cO (dK (by rw[bD];omega)),bH (eP (by omega) (by omega)),hb,hc1,bu];simp only;rw[hc2];unfold nl;cases hL:Oi s[0]with
 |false=>
  simp_all [WW]
 |true=>
  have h1:Ep s≠0:=fun h=>by simp_all [WW]
  have h2:=ap5 h1;simp only[au,cond_false];rw[if_neg h1,show U2 bP s 1=_ from Nc hs bP 1 (dJ (by omega)) (by omega)];by_cases h3:runN s=s.length
  ·rw[if_pos h3,decide_eq_true ⟨h2,h3⟩];rfl
  ·rw[if_neg h3,decide_eq_false (fun h=>h3 h.2)];rfl
def prl (s:bK):Nat:=if nl s≠0 then nl s else match s with
 |c::_=>if isP c||isD c then 1 else 0
 |[]=>0
theorem apU (s:bK):prl s<=s.length:=by
 unfold prl
 grind [aCR]
theorem EN {s:List UInt8} {a:Nat} (h:a<s.length):s.drop a=s[a]::s.drop (a+1):=aF h
theorem asl {s:List UInt8} (hs:s.length<4000000) {a:Nat} (ha:a<=s.length):UF s a=some (((prl (s.drop a):Nat):Int),()):=by
 rw[UF,alW hs ha,bu];unfold prl;by_cases e:nl (s.drop a)=0
 ·rw[cO (ig (by omega)),if_neg (by omega),cO (ig (by omega))];by_cases h:a<s.length
  ·rw[cO (CB (by rw[bD];omega)),bH (eP (by omega) (by omega)),byte_at h,O4 hs ha,bu];have hd:HY ((oL (s.drop a):Nat):Int) 1=if isD s[a]then 1 else 0:=by
    grind [oL,EN,aY,HY]
   have hp:=(aAk s[a]).2;rw[hd,EN h]
   grind
  simp_all [ou,bD,aJ]
 ·rw[bH (fJ (by omega)),if_pos e]
end
section
open Bool renaming and_true → az
open List renaming length_append → ag, length_cons → aB
open Nat renaming le_refl → ae
open Go.RowKit
abbrev kH:=Int×Int×Int×Int×Bool×Unit
abbrev uw:=Int×Int×Unit
def dP:kH:=(0,(0,(0,(0,(false,())))))
def dF:uw:=(0,(0,()))
def counts (m:Int):Int:=if m=3 then 1 else if m=11 then 9 else m
theorem ZY (m:Int):UI m=some (counts m,()):=by
 unfold UI counts;simp only[iZ];by_cases h1:m=3
 ·simp[h1]
 ·by_cases h2:m=11<;>simp[h1,h2]
theorem Fv {α:Type} {l:List α} {d x:α} {i:Nat} (h:i<l.length):dI (ik l i x) d i=x:=by
 simp_all [dI,ik]
theorem acx {α:Type} {l:List α} {i:Nat} {x y:α}:ik (ik l i x) i y=ik l i y:=by
 simp_all [ik]
theorem agv {α:Type} {l:List α} {i:Nat} {x:α} {k:Int}:gI (ik l i x) k=gI l k:=by
 simp_all [gI,ik]
theorem ag0 {α:Type} {l:List α} {i k:Nat} {x:α}:qi k (ik l i x)=qi k l:=by
 simp_all [qi,ik]
theorem vC {α:Type} {l:List α} {i:Nat} {x:α}:(ik l i x).length=l.length:=by
 simp_all [ik]
theorem aag (n:Nat):eqN n n=true:=by simp[eqN]
def NQ (L:List kH) (j:Nat) (a:Int):List kH:=ik L j ((dI L dP j).1,(dI L dP j).2.1,a,(dI L dP j).2.2.2.1,false,())
def U7 (L:List kH) (j:Nat) (m:Int):List kH:=ik L j (m,(dI L dP j).2)
theorem FI (L:List kH) (j:Nat) (a:Int):(NQ L j a).length=L.length:=vC
theorem Fj (L:List kH) (j:Nat) (m:Int):(U7 L j m).length=L.length:=vC
def oz (F:List uw) (a:Int):Nat->List kH->List Int->List kH×List Int
 |0,L,H=>(L,H)
 |n+1,L,H=>
  if n+1<=F.length/\(F.getD n dF).2.1=(dI L dP (H.getD n 0).toNat).2.1 then(L,H)
  else oz F a n (NQ L (H.getD n 0).toNat (a+1)) (H.take n)
def zV (F:List uw) (H:List Int):Nat->Nat->List kH->List kH
 |0,_,L=>L
 |k+1,i,L=>zV F H k (i+1) (U7 L (H.getD i 0).toNat (counts (F.getD i dF).1))
theorem acw (F:List uw) {a:Int} (ha0:0<=a) (ha:a<1000000) (hF:F.length<1000000): ∀(N n:Nat) (L:List kH) (H:List Int),n<N->n=H.length->n<1000000->L.length<1000000->
  (∀j∈H,0<=j/\j<L.length)->
  Ju N F a (n:Int) L H=some (.inl ((F,()),((),()),((),(oz F a n L H).1,(oz F a n L H).2,())))
 |0,n,L,H,h,_,_,_,_=>by omega
 |N+1,0,L,H,h,_,_,_,_=>by
  rfl
 |N+1,n+1,L,H,h,hn,hb,hL,hH=>by
  have hlt:n<H.length:=by omega
  have hs:ed .i64 ((n+1:Nat):Int) 1=(n:Int):=by grind [gG]
  have hmem:H.getD n 0∈H:=by simp_all
  obtain⟨hj0,hj1⟩:=hH _ hmem;have hnt:dI H 0 (dA (n:Int))=H.getD n 0:=rfl;have hgt:dN F (0,(0,())) (n:Int)=F.getD n dF:=rfl;have hin:gI L (H.getD n 0)=true:=eP hj0 hj1;have hl:qi (dA (H.getD n 0)) L=true:=wM (by simp only[dA];omega);have hp:fF (bC H) 0 (n:Int)=true:=fK (by omega) (by omega) (by rw[bD];omega);have hsub:sub H 0 (n:Int)=H.take n:=by simp[sub]
  have hat:bU .i64 a 1=a+1:=bY (by omega) (by omega);have hnl:dA (H.getD n 0)<L.length:=by simp only[dA];omega
  have iV: ∀x,dI (ik L (dA (H.getD n 0)) x) (0,(0,(0,(0,(false,()))))) (dA (H.getD n 0))=x:=fun x=>Fv hnl;have go:=acw F ha0 ha hF N n (NQ L (H.getD n 0).toNat (a+1)) (H.take n) (by omega) (by grind) (by omega) (by rw[FI];exact hL)
   (fun j hj=>by grind [FI])
  (rewrite [Ju,OD];delta FN vV vU jc;rw[oz])
  simp only[hs,hnt,hgt,hin,hl,hp,hsub,hat,agv,ag0,iV,acx,cond_true];rw[bH (fJ (by omega)),bH (eP (by omega) (by omega)),bH (wM (by assumption))];by_cases e:n+1<=F.length
  ·rw[bH (ou (by rw[bD];omega)),bH (eP (by omega) (by omega))];by_cases e2:(F.getD n dF).2.1=(dI L dP (H.getD n 0).toNat).2.1
   ·rw[if_pos ⟨e,e2⟩];exact bH (dQ e2)
   ·rw[if_neg (fun h=>e2 h.2)];exact(cO (dK e2)).trans go
  ·rw[cO (CB (by rw[bD];omega)),if_neg (fun h=>e h.1)];exact go
theorem acv (F:List uw) (H:List Int) (hF:F.length<1000000) (hHl:H.length<1000000): ∀(k i N:Nat) (L:List kH),i+k=H.length->H.length<=F.length->L.length<1000000->(∀j∈H,0<=j/\j<L.length)->
  rU (N+k) F (bC F) (i:Int) L H=rU N F (bC F) (H.length:Int) (zV F H k i L) H
 |0,i,N,L,h,_,_,_=>by simp_all [zV]
 |k+1,i,N,L,h,hle,hL,hH=>by
  have hi:i<H.length:=by omega
  have hmem:H.getD i 0∈H:=by simp_all
  obtain⟨hj0,hj1⟩:=hH _ hmem;have hnt:dI H 0 (dA (i:Int))=H.getD i 0:=rfl;have hgt:dN F (0,(0,())) (i:Int)=F.getD i dF:=rfl;have hin:gI L (H.getD i 0)=true:=eP hj0 hj1;have hl:qi (dA (H.getD i 0)) L=true:=wM (by simp only[dA];omega);have go:=acv F H hF hHl k (i+1) N (U7 L (H.getD i 0).toNat (counts (F.getD i dF).1)) (by omega) hle (by rw[Fj];exact hL) (fun j hj=>by grind [Fj])
  (rewrite [show N+(k+1)=(N+k)+1 by omega,rU,BJ];delta lQ lN jW;rw[zV,<-go])
  rw[bH (fJ (by rw[bD];omega)),bH (eP (by omega) (by omega)),bH (fJ (by rw[bD];omega)),bH (eP (by omega) (by omega)),bH (wM (by assumption)),ZY,bu,hnt,hin,hl];simp only[agv,hin,cond_true,aag,az,hgt];rw[bY (by omega) (by omega),show(i:Int)+1=((i+1:Nat):Int) by omega];rfl
theorem Lh (F:List uw) (H:List Int): ∀(k i:Nat) (L:List kH),(zV F H k i L).length=L.length
 |0,_,_=>rfl
 |k+1,i,L=>by rw[zV,Lh F H k,Fj]
theorem LY (F:List uw) (a:Int): ∀(n:Nat) (L:List kH) (H:List Int),(oz F a n L H).1.length=L.length/\(oz F a n L H).2.length<=H.length/\(∀j∈(oz F a n L H).2,j∈H)
 |0,_,H=>⟨rfl,ae _,fun _ h=>h⟩
 |n+1,L,H=>by
  rw[oz];split
  ·simp
  ·have h:=LY F a n (NQ L (H.getD n 0).toNat (a+1)) (H.take n)
   grind [FI]
def YU (L:List kH) (H:List Int) (F:List uw) (a:Int):List kH×List Int:=
 let r:=oz F a H.length L H
 let L2:=zV F r.2 r.2.length 0 r.1
 if F.length=r.2.length then(L2,r.2)
 else(L2++[(counts (F.getD r.2.length dF).1,((F.getD r.2.length dF).2.1,(0,((if r.2.length=0 then-1 else r.2.getD (r.2.length-1) 0),(true,())))))],r.2++[(L2.length:Int)])
theorem aC1 {L:List kH} {H:List Int} {F:List uw} {t:uw} {a:Int} (ha0:0<=a) (ha:a<1000000) (hF:F.length<1000000) (hL:L.length<1000000) (hHl:H.length<1000000) (hH: ∀j∈H,0<=j/\j<L.length)
  (h1:(oz F a H.length L H).2.length<=F.length) (h2:F.length<=(oz F a H.length L H).2.length+1):
  aap L H (t::F) a=some (((YU L H F a).1,((YU L H F a).2,())),()):=by
 have hsl:=LY F a H.length L H;have e1:sub (t::F) 1 (bC (t::F))=F:=by simp[sub,bC]
 have hsh:=acw F ha0 ha hF bP H.length L H (dJ (by omega)) rfl hHl hL hH;unfold aap;rw[bH (fK (by omega) (by rw[bD];simp;omega) (by rw[bD];omega)),e1,bD (l:=H),hsh,bu];simp only[dL];unfold YU;generalize hr:oz F a H.length L H=r at*;have hH2: ∀j∈r.2,0<=j/\j<r.1.length:=fun j hj=>by simp_all
 have hm:=Lh F r.2 r.2.length 0 r.1;obtain⟨K,hK⟩: ∃K,bP=(K+2)+r.2.length:=⟨bP-2-r.2.length,by have:=dJ (n:=r.2.length+2) (by omega);omega⟩;have hmo:=acv F r.2 hF (by omega) r.2.length 0 (K+2) r.1 (by omega) h1 (by omega) hH2;rw[<-hK]at hmo;rw[show(0:Int)=((0:Nat):Int) from rfl,hmo];by_cases e:F.length=r.2.length
 ·(rewrite [rU,BJ];delta lQ lN jW;rw[cO (ig (by rw[bD];omega)),if_pos e,bu])
 ·rw[if_neg e];have hi:r.2.length<F.length:=by omega
  generalize hL2:zV F r.2 r.2.length 0 r.1=L2 at*;have hgt:dN F (0,(0,())) (r.2.length:Int)=F.getD r.2.length dF:=rfl;have hfit: ∀x:kH,eH (bT L2 [x]) 40=true:=fun x=>by simp only[eH,bT,ag,aB,List.length_nil,decide_eq_true_eq,ni];omega
  have hfit2: ∀x:Int,eH (bT r.2 [x]) 8=true:=fun x=>by simp only[eH,bT,ag,aB,List.length_nil,decide_eq_true_eq,ni];omega
  have hend: ∀L' H',(H'.length:Int)=r.2.length+1->rU (K+1) F (bC F) (bU .i64 (r.2.length:Int) 1) L' H'=some (.inl ((),((),()),((),L',H',()))):=fun L' H' h'=>by
   (rewrite [rU,BJ];delta lQ lN jW;rw[cO (ig (by grind [bD,bY]))])
  (rewrite [rU,BJ];delta lQ lN jW;rw[bH (fJ (by rw[bD];omega)),bH (eP (by omega) (by omega)),cO (ig (by rw[bD];omega))])
  simp only[hgt,ZY,bu,fD,hfit,hfit2,az,cond_true,nD];by_cases e0:r.2.length=0
  ·rw[cO (ig (by omega)),if_pos e0,hend _ _ (by simp[bT]),bu];rfl
  ·have hs:ed .i64 (r.2.length:Int) 1=((r.2.length-1:Nat):Int):=by grind [gG]
   rw[bH (fJ (by omega)),hs,bH (eP (by omega) (by omega)),bH (wM (by simp only[dA];omega)),if_neg e0,hend _ _ (by simp[bT]),bu];rfl
end
section
open Go.RowKit
def Hq (s:gm):List uw:=(s.dropLast.map fun f=>(f.1,f.2,())).reverse
def pls (s:gm):List Int:=(s.dropLast.map (·.2)).reverse
theorem YM (s:gm):(Hq s).map (·.2.1)=pls s:=by
 simp only[Hq,pls,List.map_reverse,List.map_map];rfl
theorem azf {s:gm} (hg:jg s): ∃t:uw,lo s=t::Hq s:=by
 have hne:s≠[]:=by rintro rfl;exact hg
 grind [List.dropLast_concat_getLast,lo,Hq]
theorem ach (f:lH) {r:gm} (h:r≠[]):pls (f::r)=pls r++[f.2]:=by
 cases r with
 |nil=>exact absurd rfl h
 |cons g r=>simp[pls]
theorem avd (pre:gm) (f:lH) (r:gm): ∃l,pls (pre++f::r)=pls (f::r)++l:=by
 induction pre with
 |nil=>simp
 |cons g pre ih=>
  obtain⟨l,h⟩:=ih;simp_all [ach]
def Shape (s y:gm) (at_:Int):Prop:= ∃pre f r m',s=pre++f::r/\(y=(m',f.2)::r\/ ∃mm,y=(mm,at_)::(m',f.2)::r)
theorem yc {m:Int} {f:Int×Int} {r:gm} (hr:m=0\/r≠[]) (fr:Bool) (b at_:Int):Shape (f::r) (je m (f::r) fr b at_).1 at_:=by
 have keep:Shape (f::r) (f::r) at_:=⟨[],f,r,f.1,rfl,.inl rfl⟩;have push: ∀k,Shape (f::r) ((k,at_)::f::r) at_:=fun k=>⟨[],f,r,f.1,rfl,.inr ⟨k,rfl⟩⟩;have chg: ∀k,Shape (f::r) ((k,f.2)::r) at_:=fun k=>⟨[],f,r,k,rfl,.inl rfl⟩;have tl:m≠0->Shape (f::r) r at_:=fun h=>by
  cases r with
  |nil=>simp_all
  |cons g r=>exact⟨[f],g,r,g.1,rfl,.inl rfl⟩
 unfold je Gv yE;rcases sV b with rfl|rfl|rfl|rfl|rfl|rfl|rfl|rfl|rfl|rfl|rfl|⟨h1,h2,h3,h4,h5,h6,h7,h8,h9,h10,h11⟩<;>cases fr<;>simp_all<;>
  (repeat' split)<;>first|assumption|exact push _|exact chg _|(exact tl (by omega))|(simp_all;done)|exact keep|skip
theorem ak2 {pre s y:gm} {at_:Int} (h:Shape s y at_):Shape (pre++s) y at_:=by
 obtain⟨p,f,r,m',hs,hy⟩:=h;exact⟨pre++p,f,r,m',by simp_all,hy⟩
theorem RD {a:Int} {f:Int×Int} {r y:gm} {at_:Int} (h:Shape ((a,f.2)::r) y at_):Shape (f::r) y at_:=by
 obtain⟨p,g,r',m',hs,hy⟩:=h;cases p with
 |nil=>
  obtain⟨h1,h2⟩:=List.cons.inj hs;subst h1 h2;exact⟨[],f,r,m',rfl,hy⟩
 |cons q p=>
  obtain⟨h1,h2⟩:=List.cons.inj hs;exact⟨f::p,g,r',m',by rw[h2];rfl,hy⟩
theorem afm {s:gm} (hg:jg s) (fr:Bool) (b at_:Int):Shape s (gu s fr b at_).1 at_:=by
 cases s with
 |nil=>cases hg
 |cons f r=>
 have hs: ∀k,Shape (f::r) ((k,f.2)::r) at_:=fun k=>⟨[],f,r,k,rfl,.inl rfl⟩;have ht: ∀g r',r=g::r'->Shape (f::r) r at_:=fun g r' h=>by rw[h];exact⟨[f],g,r',g.1,rfl,.inl rfl⟩
 simp only[gu];split
 ·rename_i e
  have hr:r≠[]:=nP hg (by omega);cases r with
  |nil=>exact absurd rfl hr
  |cons g r=>
  split
  ·exact hs 3
  ·split
   ·split<;>exact hs _
   ·split
    ·exact ht g r rfl
    ·have hgr:=EU hg hr;refine ak2 (pre:=[f]) (yc ?_ fr b at_)
     grind [nP]
 ·split
  ·grind [nP,RD,yc]
  ·split
   ·rename_i e
    have hr:r≠[]:=nP hg (by omega);split
    ·cases r with
     |nil=>exact absurd rfl hr
     |cons g r=>exact ht g r rfl
    grind [RD,yc]
   grind [yc,nP]
theorem apR {s:gm} (hg:jg s) (fr:Bool) (b at_:Int): ∃c,c<=(pls s).length/\(pls (gu s fr b at_).1=(pls s).take c\/pls (gu s fr b at_).1=(pls s).take c++[at_]):=by
 obtain⟨pre,f,r,m',hs,hy⟩:=afm hg fr b at_;obtain⟨l,hl⟩:=avd pre f r;rw[<-hs]at hl;have hpf:pls ((m',f.2)::r)=pls (f::r):=by
  cases r with
  |nil=>rfl
  |cons g r=>rfl
 refine⟨(pls (f::r)).length,by rw[hl];simp, ?_⟩;rw[hl,List.take_left']
 ·rcases hy with h|⟨mm,h⟩
  ·simp_all
  ·rw[h,ach _ (by simp),hpf];exact .inr rfl
 ·rfl
end
section
open Int renaming toNat_natCast → aQ
open List renaming length_append → ag, length_map → aK
open Nat renaming le_refl → ae, lt_or_ge → aP
open Go.RowKit
theorem ag5 {α:Type} {l:List α} {d:α} {i:Nat} (h:l.length<=i):dI l d i=d:=by
 simp_all [dI]
theorem uK {α:Type} {l:List α} {d:α} {i:Nat} (h:i<l.length):dI l d i=l[i]:=by
 simp_all [dI]
theorem getD_take {α:Type} {l:List α} {d:α} {i n:Nat} (h:i<n):(l.take n).getD i d=l.getD i d:=by
 simp_all
theorem H9 {α:Type} {l:List α} {d x:α} {i j:Nat} (h:i≠j):dI (ik l i x) d j=dI l d j:=by
 simp_all [dI,ik]
def J3 (a:Int) (p:kH):kH:=(p.1,p.2.1,a,p.2.2.2.1,false,())
theorem FM (L:List kH) (j:Nat) (a:Int) (k:Nat) (hj:j<L.length):dI (NQ L j a) dP k=if j=k then J3 a (dI L dP k)else dI L dP k:=by
 unfold NQ;by_cases h:j=k
 ·subst h;rw[if_pos rfl,Fv hj];rfl
 ·rw[if_neg h,H9 h]
theorem Lj (L:List kH) (j:Nat) (m:Int) (k:Nat) (hj:j<L.length):dI (U7 L j m) dP k=if j=k then(m,(dI L dP k).2)else dI L dP k:=by
 unfold U7;by_cases h:j=k
 ·subst h;rw[if_pos rfl,Fv hj]
 ·rw[if_neg h,H9 h]
theorem RF (F:List uw) (a:Int) (H:List Int) (c:Nat) (hH: ∀n,n<H.length->0<=H.getD n 0): ∀(n:Nat) (L:List kH),c<=n->n<=H.length->
  (∀m,m<n->(H.getD m 0).toNat<L.length)->
  (∀m,m<c->m<F.length/\(F.getD m dF).2.1=(dI L dP (H.getD m 0).toNat).2.1)->
  (∀m,c<=m->m<n-> ¬(m+1<=F.length/\(F.getD m dF).2.1=(dI L dP (H.getD m 0).toNat).2.1))->
  (oz F a n L (H.take n)).2=H.take c/\
  (∀j,(∃m,c<=m/\m<n/\(H.getD m 0).toNat=j)->dI (oz F a n L (H.take n)).1 dP j=J3 (a+1) (dI L dP j))/\
  (∀j,(∀m,c<=m->m<n->(H.getD m 0).toNat≠j)->dI (oz F a n L (H.take n)).1 dP j=dI L dP j)
 |0,L,hc,hn,hl,h1,h2=>by
  have:c=0:=by omega
  subst this;exact⟨rfl,fun j ⟨m,_,h,_⟩=>by omega,fun j _=>rfl⟩
 |n+1,L,hc,hn,hl,h1,h2=>by
  rw[oz,getD_take (by omega)];by_cases e:c=n+1
  ·grind
  ·have hng:=h2 n (by omega) (by omega);have hjl:=hl n (by omega);have hfr: ∀k,(dI (NQ L (H.getD n 0).toNat (a+1)) dP k).2.1=(dI L dP k).2.1:=fun k=>by
    rw[FM _ _ _ _ hjl];split<;>rfl
   rw[if_neg hng,List.take_take,show min n (n+1)=n by omega];obtain⟨i1,i2,i3⟩:=RF F a H c hH n (NQ L (H.getD n 0).toNat (a+1)) (by omega) (by omega) (fun m hm=>by grind [FI])
    (fun m hm=>by grind) (fun m hm hm2=>by grind)
   refine⟨i1,fun j hj=> ?_,fun j hj=> ?_⟩
   ·by_cases hq: ∃m,c<=m/\m<n/\(H.getD m 0).toNat=j
    ·rw[i2 j hq,FM _ _ _ _ hjl];split<;>rfl
    ·obtain⟨m,hm1,hm2,hm3⟩:=hj;have:m=n:=by
      grind
     simp_all [FM]
   ·rw[i3 j (fun k hk hk2=>hj k hk (by omega)),FM _ _ _ _ hjl,if_neg (hj n (by omega) (by omega))]
theorem QO (F:List uw) (H:List Int) (hinj: ∀m n,m<H.length->n<H.length->(H.getD m 0).toNat=(H.getD n 0).toNat->m=n): ∀(k i:Nat) (L:List kH),i+k<=H.length->
  (∀m,m<H.length->(H.getD m 0).toNat<L.length)->
  (∀m,i<=m->m<i+k->dI (zV F H k i L) dP (H.getD m 0).toNat=(counts (F.getD m dF).1,(dI L dP (H.getD m 0).toNat).2))/\
  (∀j,(∀m,i<=m->m<i+k->(H.getD m 0).toNat≠j)->dI (zV F H k i L) dP j=dI L dP j)
 |0,i,L,h,hl=>⟨fun m h1 h2=>by omega,fun j _=>rfl⟩
 |k+1,i,L,h,hl=>by
  have hil:=hl i (by omega);obtain⟨i1,i2⟩:=QO F H hinj k (i+1) (U7 L (H.getD i 0).toNat (counts (F.getD i dF).1)) (by omega) (fun m hm=>by grind [Fj]);rw[zV];refine⟨fun m h1 h2=> ?_,fun j hj=> ?_⟩
  ·by_cases e:m=i
   ·subst e;rw[i2 _ (fun k hk hk2 hk3=>by grind),Lj _ _ _ _ hil,if_pos rfl]
   ·rw[i1 m (by omega) (by omega),Lj _ _ _ _ hil,if_neg (fun he=>e (hinj i m (by omega) (by omega) he).symm)]
  ·rw[i2 j (fun m hm hm2=>hj m (by omega) (by omega)),Lj _ _ _ _ hil,if_neg (hj i (by omega) (by omega))]
def Cj (F:List uw) (v:Int):Option Int:=(F.find? fun f=>f.2.1==v).map (·.1)
theorem aan {F:List uw} (hd: ∀m n,m<F.length->n<F.length->(F.getD m dF).2.1=(F.getD n dF).2.1->m=n) {m:Nat} (hm:m<F.length):Cj F (F.getD m dF).2.1=some (F.getD m dF).1:=by
 have hex: ∃f,F.find? (fun f=>f.2.1==(F.getD m dF).2.1)=some f:=by
  cases h:F.find? (fun f=>f.2.1==(F.getD m dF).2.1)with
  |some f=>exact⟨f,rfl⟩
  |none=>
   grind
 grind [List.getElem_of_mem,Cj]
theorem P9 {F:List uw} {v:Int} (h: ∀m,m<F.length->(F.getD m dF).2.1≠v):Cj F v=none:=by
 grind [Cj,List.getElem_of_mem]
def og (F:List uw) (a:Int) (p:kH):kH:=
 if p.2.2.2.2.1=true then(match Cj F p.2.1 with
  |some m=>(counts m,p.2)
  |none=>J3 (a+1) p)else p
def QS (F:List uw) (a:Int):Bool:=match F.getLast? with
 |some f=>decide (f.2.1=a)
 |none=>false
def atl (L:List Int) (v:Int):Int:=((L.findIdx fun p=>p==v:Nat):Int)
def H7 (F:List uw) (a:Int) (fr:List Int):kH:=(counts (F.getLastD dF).1,a,0,(if F.length=1 then-1 else atl fr (F.getD (F.length-2) dF).2.1),true,())
def uB (F:List uw) (a:Int) (L:List kH):List kH:=L.map (og F a)++if QS F a=true then [H7 F a (L.map (·.2.1))]else []
structure Inv (L:List kH) (H:List Int) (F:List uw) (k:Int):Prop where
 len:H.length=F.length
 nn: ∀n,n<H.length->0<=H.getD n 0/\(H.getD n 0).toNat<L.length
 frm: ∀n,n<H.length->(dI L dP (H.getD n 0).toNat).2.1=(F.getD n dF).2.1/\(dI L dP (H.getD n 0).toNat).2.2.2.2.1=true
 opn: ∀j,(dI L dP j).2.2.2.2.1=true-> ∃n,n<H.length/\(H.getD n 0).toNat=j
 lt: ∀j,j<L.length->(dI L dP j).2.1<k
 inj: ∀i j,i<L.length->j<L.length->(dI L dP i).2.1=(dI L dP j).2.1->i=j
 fd: ∀m n,m<F.length->n<F.length->(F.getD m dF).2.1=(F.getD n dF).2.1->m=n
theorem Inv.hd {L:List kH} {H:List Int} {F:List uw} {k:Int} (h:Inv L H F k): ∀m n,m<H.length->n<H.length->(H.getD m 0).toNat=(H.getD n 0).toNat->m=n:=fun m n hm hn e=>by
 have h1:=(h.frm m hm).1;have h2:=(h.frm n hn).1;rw[e,h2]at h1;exact(h.fd n m (by rw[<-h.len];exact hn) (by rw[<-h.len];exact hm) h1).symm
theorem KO {F:List uw} {n:Nat} (h:n<F.length):(F.getD n dF).2.1=(F.map (·.2.1)).getD n 0:=by
 simp_all
theorem asQ {α:Type} {d:α} {l l':List α} (h:l.length=l'.length) (h2: ∀j,j<l.length->dI l d j=dI l' d j):l=l':=by
 grind [List.ext_getElem,uK]
theorem aoC {L:List kH} (hinj: ∀i j,i<L.length->j<L.length->(dI L dP i).2.1=(dI L dP j).2.1->i=j) {j:Nat} (hj:j<L.length):atl (L.map (·.2.1)) (dI L dP j).2.1=(j:Int):=by
 have hm: ∀i,i<L.length->(L.map (·.2.1))[i]? =some (dI L dP i).2.1:=fun i hi=>by
  simp_all [uK]
 unfold atl
 grind
theorem aql {L:List kH} {H:List Int} {F F':List uw} {k:Int} (h:Inv L H F k) {c:Nat} (hc:c<=F.length)
  (hF:F'.map (·.2.1)=(F.map (·.2.1)).take c\/F'.map (·.2.1)=(F.map (·.2.1)).take c++[k]):
  (oz F' k H.length L H).2.length<=F'.length/\F'.length<=(oz F' k H.length L H).2.length+1/\
  (YU L H F' k).1=uB F' k L/\Inv (YU L H F' k).1 (YU L H F' k).2 F' (k+1):=by
 have hlF':F'.length=c\/F'.length=c+1:=by
  have h1:F'.length=(F'.map (·.2.1)).length:=(aK ..).symm;rcases hF with e|e<;>rw[h1,e]<;>simp<;>omega
 have hcH:c<=H.length:=by rw[h.len];exact hc
 have hst: ∀m,m<c->m<F'.length/\(F'.getD m dF).2.1=(F.getD m dF).2.1:=fun m hm=>by
  refine⟨by omega, ?_⟩;rw[KO (by omega),KO (F:=F) (by omega)];rcases hF with e|e
  ·rw[e,getD_take hm]
  ·rw[e,List.getD_eq_getElem?_getD,List.getElem?_append_left (by simp;omega),<-List.getD_eq_getElem?_getD,getD_take hm]
 have hnew:c<F'.length->(F'.getD c dF).2.1=k:=fun hm=>by
  rcases hF with e|e
  ·have:F'.length=(F'.map (·.2.1)).length:=(aK ..).symm;rw[e]at this;simp at this;omega
  ·rw[KO hm,e,List.getD_eq_getElem?_getD,List.getElem?_append_right (by simp;omega)];simp[Nat.min_eq_left hc]
 have hfk: ∀m,m<F.length->(F.getD m dF).2.1<k:=fun m hm=>by
  rw[<-(h.frm m (by rw[h.len];exact hm)).1];exact h.lt _ (h.nn m (by rw[h.len];exact hm)).2
 obtain⟨s1,s2,s3⟩:=RF F' k H c (fun n hn=>(h.nn n hn).1) H.length L hcH (ae _) (fun m hm=>(h.nn m hm).2)
  (fun m hm=>⟨(hst m hm).1,(hst m hm).2.trans (h.frm m (by omega)).1.symm⟩)
  (fun m hm1 hm2 ⟨hl,he⟩=>by
   have hm:m=c:=by omega
   subst hm;rw[hnew (by omega),(h.frm m hm2).1]at he;have:=hfk m (by rw[<-h.len];exact hm2);omega)
 rw[List.take_length]at s1 s2 s3;have hsl:=(LY F' k H.length L H).1;have htl:(H.take c).length=c:=by rw[List.length_take];omega
 have hgt: ∀m,m<c->(H.take c).getD m 0=H.getD m 0:=fun m hm=>getD_take hm;obtain⟨m1,m2⟩:=QO F' (H.take c) (fun m n hm hn e=>by
   rw[htl]at hm hn;rw[hgt m hm,hgt n hn]at e;exact h.hd m n (by omega) (by omega) e) c 0 (oz F' k H.length L H).1 (by omega) (fun m hm=>by
   rw[htl]at hm;rw[hgt m hm,hsl];exact(h.nn m (by omega)).2)
 have hml:=Lh F' (H.take c) c 0 (oz F' k H.length L H).1;have hpt: ∀j,j<L.length->dI (zV F' (H.take c) c 0 (oz F' k H.length L H).1) dP j=og F' k (dI L dP j):=fun j hj=>by
  unfold og;have hfd': ∀m n,m<F'.length->n<F'.length->(F'.getD m dF).2.1=(F'.getD n dF).2.1->m=n:=fun m n hm hn e=>by
   rcases aP m c with h1|h1<;>rcases aP n c with h2|h2
   ·rw[(hst m h1).2,(hst n h2).2]at e;exact h.fd m n (by omega) (by omega) e
   ·have:n=c:=by omega
    subst this;rw[(hst m h1).2,hnew hn]at e;have:=hfk m (by omega);omega
   ·have:m=c:=by omega
    subst this;rw[(hst n h2).2,hnew hm]at e;have:=hfk n (by omega);omega
   ·omega
  by_cases ho:(dI L dP j).2.2.2.2.1=true
  ·rw[if_pos ho];obtain⟨n,hn,hnj⟩:=h.opn j ho;have hfrj:=(h.frm n hn).1;rw[hnj]at hfrj;rcases aP n c with hnc|hnc
   ·have e:=m1 n (by omega) (by omega);rw[hgt n hnc,hnj]at e;rw[e,s3 j (fun m hm hm2 hm3=>by have:=h.hd m n hm2 hn (hm3.trans hnj.symm);omega),hfrj,<-(hst n hnc).2,aan hfd' (hst n hnc).1]
   ·rw[m2 j (fun m _ hm hm3=>by rw[hgt m (by omega)]at hm3;have:=h.hd m n (by omega) hn (hm3.trans hnj.symm);omega),s2 j ⟨n,hnc,hn,hnj⟩,P9];intro m hm e;rw[hfrj]at e;rcases aP m c with h1|h1
    ·rw[(hst m h1).2]at e;have:=h.fd m n (by omega) (by rw[<-h.len];exact hn) e;omega
    ·have:m=c:=by omega
     subst this;rw[hnew hm]at e;have:=hfk n (by rw[<-h.len];exact hn);omega
  ·rw[if_neg ho];have hno: ∀m,m<H.length->(H.getD m 0).toNat≠j:=fun m hm e=>ho (by rw[<-e];exact(h.frm m hm).2);rw[m2 j (fun m _ hm hm3=>hno m (by omega) (by rw[<-hgt m (by omega)];exact hm3)),s3 j (fun m _ hm=>hno m hm)]
 have hl2:zV F' (H.take c) c 0 (oz F' k H.length L H).1=L.map (og F' k):=asQ (d:=dP) (by rw[hml,hsl,aK]) fun j hj=>by
  rw[hml,hsl]at hj;rw[hpt j hj,uK (l:=L.map _) (by rw[aK];exact hj),List.getElem_map,uK hj]
 have hupf: ∀p,(og F' k p).2.1=p.2.1:=fun p=>by
  unfold og;split
  ·split<;>rfl
  ·rfl
 have hsee:(YU L H F' k)=if F'.length=c then(L.map (og F' k),H.take c)else
   (L.map (og F' k)++[(counts (F'.getD c dF).1,((F'.getD c dF).2.1,(0,((if c=0 then-1 else(H.take c).getD (c-1) 0),(true,())))))],H.take c++[(L.length:Int)]):=by
  unfold YU;simp only[s1,htl,hl2,aK]
 have hupo: ∀p,(og F' k p).2.2.2.2.1=true->p.2.2.2.2.1=true/\ ∃m,Cj F' p.2.1=some m:=fun p hp=>by
  unfold og at hp;split at hp
  ·rename_i ho
   split at hp
   ·rename_i m hm;exact⟨ho,m,hm⟩
   ·cases hp
  ·rename_i ho;exact absurd hp ho
 have hfd': ∀m n,m<F'.length->n<F'.length->(F'.getD m dF).2.1=(F'.getD n dF).2.1->m=n:=fun m n hm hn e=>by
  rcases aP m c with h1|h1<;>rcases aP n c with h2|h2
  ·rw[(hst m h1).2,(hst n h2).2]at e;exact h.fd m n (by omega) (by omega) e
  ·have:n=c:=by omega
   subst this;rw[(hst m h1).2,hnew hn]at e;have:=hfk m (by omega);omega
  ·have:m=c:=by omega
   subst this;rw[(hst n h2).2,hnew hm]at e;have:=hfk n (by omega);omega
  ·omega
 have hmapn: ∀j,j<L.length->dI (L.map (og F' k)) dP j=og F' k (dI L dP j):=fun j hj=>by
  rw[uK (l:=L.map _) (by rw[aK];exact hj),List.getElem_map,uK hj]
 have hgrow:uB F' k L=L.map (og F' k)++if QS F' k=true then [H7 F' k (L.map (·.2.1))]else []:=rfl
 have hkeep: ∀n,n<c->(og F' k (dI L dP (H.getD n 0).toNat)).2.1=(F'.getD n dF).2.1/\(og F' k (dI L dP (H.getD n 0).toNat)).2.2.2.2.1=true:=fun n hn=>by
  have hfr:=h.frm n (by omega);refine⟨by rw[hupf,hfr.1,(hst n hn).2], ?_⟩;unfold og;rw[if_pos hfr.2,hfr.1,<-(hst n hn).2,aan hfd' (hst n hn).1];exact hfr.2
 have hopn: ∀j,j<L.length->(og F' k (dI L dP j)).2.2.2.2.1=true-> ∃n,n<c/\(H.getD n 0).toNat=j:=fun j hj ho=>by
  obtain⟨h1,m,hm⟩:=hupo _ ho;obtain⟨n,hn,hnj⟩:=h.opn j h1;have hfr:=(h.frm n hn).1;rw[hnj]at hfr;rcases aP n c with hnc|hnc
  ·exact⟨n,hnc,hnj⟩
  ·rw[hfr,P9]at hm
   ·cases hm
   ·intro m hm2 e;rcases aP m c with h1|h1
    ·rw[(hst m h1).2]at e;have:=h.fd m n (by omega) (by rw[<-h.len];exact hn) e;omega
    ·have:m=c:=by omega
     subst this;rw[hnew hm2]at e;have:=hfk n (by rw[<-h.len];exact hn);omega
 have hdP: ∀{l:List kH} {j:Nat},(dI l dP j).2.2.2.2.1=true->j<l.length:=fun {l j} hj=>by
  rcases aP j l.length with h1|h1
  ·exact h1
  ·rw[ag5 h1]at hj;cases hj
 refine⟨by rw[s1,htl];omega,by rw[s1,htl];omega, ?_⟩;by_cases e:F'.length=c
 ·have hnf:QS F' k=false:=by
   unfold QS;cases hl:F'.getLast? with
   |none=>rfl
   |some f=>
    have hne:F'≠[]:=by rintro rfl;cases hl
    have hp:0<F'.length:=List.length_pos_iff.2 hne;have:F'.getD (c-1) dF=f:=by
     rw[List.getLast?_eq_getElem?,e]at hl;rw[List.getD_eq_getElem?_getD,hl];rfl
    have h2:=(hst (c-1) (by omega)).2;rw[this]at h2;have:=hfk (c-1) (by omega);exact decide_eq_false (by omega)
  rw[hsee,if_pos e,hgrow,hnf];refine⟨by simp, ?_⟩;exact {
   len:=by rw[htl,e]
   nn:=fun n hn=>by rw[htl]at hn;rw[hgt n hn,aK];exact h.nn n (by omega)
   frm:=fun n hn=>by
    rw[htl]at hn;rw[hgt n hn,hmapn _ (h.nn n (by omega)).2];exact hkeep n hn
   opn:=fun j hj=>by
    have hl:=hdP hj;rw[aK]at hl;rw[hmapn j hl]at hj;obtain⟨n,hn,he⟩:=hopn j hl hj;exact⟨n,by rw[htl];exact hn,by rw[hgt n hn];exact he⟩
   lt:=fun j hj=>by
    rw[aK]at hj;rw[hmapn j hj,hupf];have:=h.lt j hj;omega
   inj:=fun i j hi hj he=>by
    rw[aK]at hi hj;rw[hmapn i hi,hmapn j hj,hupf,hupf]at he;exact h.inj i j hi hj he
   fd:=hfd'}
 ·have hc1:F'.length=c+1:=by omega
  have hgl:F'.getLast?=some (F'.getD c dF):=by
   rw[List.getLast?_eq_getElem?,hc1,List.getD_eq_getElem?_getD,show c+1-1=c by omega,List.getElem?_eq_getElem (by omega)];rfl
  have hgD:F'.getLastD dF=F'.getD c dF:=by rw[List.getLastD_eq_getLast?,hgl];rfl
  have hnk:=hnew (by omega);have hnf:QS F' k=true:=by unfold QS;rw[hgl];exact decide_eq_true hnk
  have hup:(if c=0 then-1 else(H.take c).getD (c-1) 0)=(if F'.length=1 then-1 else atl (L.map (·.2.1)) (F'.getD (F'.length-2) dF).2.1):=by
   by_cases c0:c=0
   ·rw[if_pos c0,if_pos (by omega)]
   ·have hn:=h.nn (c-1) (by omega);rw[if_neg c0,if_neg (by omega),hgt _ (by omega),show F'.length-2=c-1 by omega,(hst (c-1) (by omega)).2,<-(h.frm (c-1) (by omega)).1,aoC h.inj hn.2];omega
  have hnp:(counts (F'.getD c dF).1,((F'.getD c dF).2.1,((0:Int),((if c=0 then-1 else(H.take c).getD (c-1) 0),(true,())))))=H7 F' k (L.map (·.2.1)):=by
   unfold H7;rw[hup,hgD,hnk]
  rw[hsee,if_neg e,hgrow,hnf,hnp];refine⟨by simp, ?_⟩;have hll:(L.map (og F' k)++[H7 F' k (L.map (·.2.1))]).length=L.length+1:=by simp
  have hn1: ∀j,j<L.length->dI (L.map (og F' k)++[H7 F' k (L.map (·.2.1))]) dP j=og F' k (dI L dP j):=fun j hj=>by
   rw[<-hmapn j hj];unfold dI;rw[List.getD_eq_getElem?_getD,List.getD_eq_getElem?_getD,List.getElem?_append_left (by rw[aK];exact hj)]
  have hn2:dI (L.map (og F' k)++[H7 F' k (L.map (·.2.1))]) dP L.length=H7 F' k (L.map (·.2.1)):=by
   unfold dI;rw[List.getD_eq_getElem?_getD,List.getElem?_append_right (by simp)];simp
  have hh1: ∀n,n<c->(H.take c++[(L.length:Int)]).getD n 0=H.getD n 0:=fun n hn=>by
   rw[<-hgt n hn,List.getD_eq_getElem?_getD,List.getD_eq_getElem?_getD,List.getElem?_append_left (by rw[htl];exact hn)]
  have hh2:(H.take c++[(L.length:Int)]).getD c 0=L.length:=by
   rw[List.getD_eq_getElem?_getD,List.getElem?_append_right (by rw[htl];omega)];simp[htl]
  have hhl:(H.take c++[(L.length:Int)]).length=c+1:=by rw[ag,htl];rfl
  have hcase: ∀n,n<c+1->n<c\/n=c:=fun n hn=>by omega
  have hnpf:(H7 F' k (L.map (·.2.1))).2.1=k:=rfl;exact {
   len:=by rw[hhl,hc1]
   nn:=fun n hn=>by
    rw[hhl]at hn;rw[hll];rcases hcase n hn with h1|rfl
    ·rw[hh1 n h1];have:=h.nn n (by omega);omega
    ·rw[hh2];omega
   frm:=fun n hn=>by
    rw[hhl]at hn;rcases hcase n hn with h1|rfl
    ·rw[hh1 n h1,hn1 _ (h.nn n (by omega)).2];exact hkeep n h1
    ·rw[hh2,aQ,hn2];exact⟨hnk.symm,rfl⟩
   opn:=fun j hj=>by
    have hl:=hdP hj;rw[hll]at hl;rcases aP j L.length with h1|h1
    ·rw[hn1 j h1]at hj;obtain⟨n,hn,he⟩:=hopn j h1 hj;exact⟨n,by rw[hhl];omega,by rw[hh1 n hn];exact he⟩
    ·exact⟨c,by rw[hhl];omega,by rw[hh2];omega⟩
   lt:=fun j hj=>by
    rw[hll]at hj;rcases aP j L.length with h1|h1
    ·rw[hn1 j h1,hupf];have:=h.lt j h1;omega
    ·rw[show j=L.length by omega,hn2,hnpf];omega
   inj:=fun i j hi hj he=>by
    rw[hll]at hi hj;rcases aP i L.length with h1|h1<;>rcases aP j L.length with h2|h2
    ·rw[hn1 i h1,hn1 j h2,hupf,hupf]at he;exact h.inj i j h1 h2 he
    ·rw[hn1 i h1,hupf,show j=L.length by omega,hn2,hnpf]at he;have:=h.lt i h1;omega
    ·rw[hn1 j h2,hupf,show i=L.length by omega,hn2,hnpf]at he;have:=h.lt j h2;omega
    ·omega
   fd:=hfd'}
end
section
open Bool renaming and_true → az
open List renaming drop_eq_getElem_cons → aF, length_map → aK, drop_zero → aS, eq_nil_of_length_eq_zero → bg
open Go.RowKit
def jM:bK->Int->gm×Bool->List kH->List kH
 |[],_,_,L=>L
 |b::l,a,x,L=>jM l (a+1) (gu x.1 x.2 (gX b) a) (uB (Hq (gu x.1 x.2 (gX b) a).1) a L)
def F9 (s:bK) (p:kH):kH:=if p.1=12 then(p.1,p.2.1,p.2.1+1+((prl (s.drop (p.2.1+1).toNat):Nat):Int),p.2.2.2.1,false,())else if p.2.2.2.2.1=true then(p.1,p.2.1,(s.length:Int),p.2.2.2.1,true,())else p
def bQ (s:bK):List kH:=(jM s 0 dR []).map (F9 s)
theorem akn (F:List uw) (a:Int) (L:List kH):(uB F a L).length<=L.length+1:=by
 grind [uB]
theorem ags (s:gm):(Hq s).length<=s.length:=by simp[Hq]
theorem asz {l:List uw} (h:l.length<1000000):ql l=some (l,()):=by
 grind [ql,ww,eH,ni]
theorem ar9 (s:bK) (hs:s.length<=100000): ∀(N:Nat) (i:Int) (x:gm×Bool) (L:List kH) (H:List Int),(s.length:Int)-i<N->0<=i->i<=s.length->jg x.1->(x.1.length:Int)<=i+1->Inv L H (Hq x.1) i->(L.length:Int)<=i->
  ∃H' F',QB N s (bC s) i x.2 i (lo x.1) H L=some (.inl ((s,()),(H',jM (s.drop i.toNat) i x L,(),())))/\Inv (jM (s.drop i.toNat) i x L) H' F' s.length/\(jM (s.drop i.toNat) i x L).length<=s.length
 |0,i,x,L,H,h,_,_,_,_,_,_=>by omega
 |N+1,i,x,L,H,h,h0,hi,hg,hl,hinv,hLl=>by
  rw[QB,Y9];by_cases e:i<s.length
  ·obtain⟨b,hd,hb⟩:=drop_at h0 e;have hst:=good_step hg x.2 (bV s i) i;have hlen:(lo (gu x.1 x.2 (bV s i) i).1).length≠0:=by
    rw[mf];intro e;rw[bg e]at hst;exact hst.1
   obtain⟨c,hc,hpl⟩:=apR hg x.2 (bV s i) i;rw[<-YM,<-YM]at hpl;rw[<-YM,aK]at hc;obtain⟨q1,q2,q3,q4⟩:=aql hinv hc hpl;obtain⟨t,ht⟩:=azf hst.1;have hfl:=ags (gu x.1 x.2 (bV s i) i).1;have hfl0:=ags x.1;have hHn:=hinv.len;have hsee:=aC1 (t:=t) (L:=L) (H:=H) (F:=Hq (gu x.1 x.2 (bV s i) i).1) (a:=i) h0 (by omega) (by have:=hst.2;omega) (by omega) (by omega)
    (fun j hj=>by
     obtain⟨n,hn,he⟩:=List.getElem_of_mem hj;have:=hinv.nn n hn
     grind) q1 q2
   have hgl:=akn (Hq (gu x.1 x.2 (bV s i) i).1) i L;obtain⟨H',F',r1,r2,r3⟩:=ar9 s hs N (i+1) (gu x.1 x.2 (bV s i) i) (uB (Hq (gu x.1 x.2 (bV s i) i).1) i L) (YU L H (Hq (gu x.1 x.2 (bV s i) i).1) i).2 (by omega) (by omega) (by omega) hst.1 (by have:=hst.2;omega) (by simp_all) (by omega);rw[bH (fJ (b:=bC s) e),bH (eP h0 e),adO hg (by omega) x.2 (qX s i) h0 (by omega),bu];simp only[pst];rw[cO (dK (by rw[bD];omega)),asz (by grind),bu]
   grind [bu,bY,jM]
  ·have hi':i=s.length:=by omega
   rw[cO (iP (b:=bC s) (by rw[bD];omega)),aac (by omega),jM]
   grind
theorem avU (s:bK) (hs:s.length<=100000) (H:List Int): ∀(N i:Nat) (L:List kH),L.length-i<N->i<=L.length->L.length<1000000->(∀j,j<L.length->0<=(dI L dP j).2.1/\(dI L dP j).2.1<s.length)->
  Fh N s (bC L) (i:Int) H L=some (.inl ((),(H,L.take i++(L.drop i).map (F9 s),(),())))
 |0,i,L,h,_,_,_=>by omega
 |N+1,i,L,h,hi,hl,hf=>by
  (rewrite [Fh,O1];delta fH jG eU)
  by_cases e:i<L.length
  ·have hlt:qi (dA (i:Int)) L=true:=wM (by assumption);have hin:gI L (i:Int)=true:=eP (by omega) (by omega);have hni:dA (i:Int)=i:=by simp[dA]
   have iV: ∀x,dI (ik L i x) (0,(0,(0,(0,(false,()))))) i=x:=fun x=>Fv e;have hlt2:qi i L=true:=by assumption
   have hfi:=hf i e;have hpar:UF s (bU .i64 (dI L (0,(0,(0,(0,(false,()))))) i).2.1 1)=some (((prl (s.drop ((dI L dP i).2.1+1).toNat):Nat):Int),()):=by
    grind [bY,dP,asl]
   have hadd:bU .i64 (bU .i64 (dI L (0,(0,(0,(0,(false,()))))) i).2.1 1) ((prl (s.drop ((dI L dP i).2.1+1).toNat):Nat):Int)=(dI L dP i).2.1+1+((prl (s.drop ((dI L dP i).2.1+1).toNat):Nat):Int):=by
    grind [apU,dP,bY]
   have hai:bU .i64 (i:Int) 1=((i+1:Nat):Int):=by grind [bY]
   have go: ∀x,x=F9 s (dI L dP i)->Fh N s (bC L) ((i+1:Nat):Int) H (ik L i x)=some (.inl ((),(H,L.take i++(L.drop i).map (F9 s),(),()))):=fun x hx=>by
    have hfr:(F9 s (dI L dP i)).2.1=(dI L dP i).2.1:=by
     grind [F9]
    have ih:=avU s hs H N (i+1) (ik L i x) (by rw[vC];omega) (by rw[vC];omega) (by rw[vC];exact hl) (fun j hj=>by
     grind [ik,Fv,H9])
    have e1:bC (ik L i x)=bC L:=by rw[bD,bD,vC]
    rw[e1]at ih;rw[ih];congr 4;have h1:(ik L i x).take (i+1)=L.take i++[x]:=by
     simp_all [ik,List.take_add_one,List.take_set_of_le]
    grind [ik,List.drop_set_of_lt,aF,uK]
   rw[bH (fJ (by rw[bD];omega))];simp only[hni,hin,hlt2,ag0,iV,acx,cond_true,aag,az,hai];by_cases ho:(dI L dP i).2.2.2.2.1=true
   ·have ho':(dI L (0,(0,(0,(0,(false,()))))) i).2.2.2.2.1=true:=ho;rw[ho',cond_true];by_cases hm:(dI L dP i).1=12
    ·have hm':(dI L (0,(0,(0,(0,(false,()))))) i).1=12:=hm;rw[hm',bH (dQ rfl),hpar,bu];simp only[hadd];refine go _ ?_;unfold F9;rw[if_pos hm,hm];rfl
    ·have hm': ¬(dI L (0,(0,(0,(0,(false,()))))) i).1=12:=hm;rw[cO (dK hm')];refine go _ ?_;unfold F9;rw[if_neg hm,if_pos ho];rfl
   ·have ho':(dI L (0,(0,(0,(0,(false,()))))) i).2.2.2.2.1=false:=Bool.eq_false_iff.2 ho;rw[ho',cond_false];by_cases hm:(dI L dP i).1=12
    ·have hm':(dI L (0,(0,(0,(0,(false,()))))) i).1=12:=hm;rw[hm',bH (dQ rfl),hpar,bu];simp only[hadd];refine go _ ?_;unfold F9;rw[if_pos hm,hm];rfl
    ·have hm': ¬(dI L (0,(0,(0,(0,(false,()))))) i).1=12:=hm;rw[cO (dK hm')];simp_all [ik,uK,F9]
  ·have hi':i=L.length:=by omega
   simp_all [ig,bD]
theorem ako:Inv [] [] (Hq dR.1) 0:={
 len:=rfl
 nn:=fun n hn=>by cases hn
 frm:=fun n hn=>by cases hn
 opn:=fun j hj=>by rw[ag5 (by simp)]at hj;cases hj
 lt:=fun j hj=>by cases hj
 inj:=fun i j hi=>by cases hi
 fd:=fun m n hm=>by cases hm}
theorem Vh: ∀(l:bK) (a:Int) (x:gm×Bool) (L:List kH),0<=a->(∀p∈L,0<=p.2.1)-> ∀p∈jM l a x L,0<=p.2.1
 |[],a,x,L,ha,h,p,hp=>h p hp
 |b::l,a,x,L,ha,h,p,hp=>by
  rw[jM]at hp;refine Vh l (a+1) _ _ (by omega) (fun p hp=> ?_) p hp;unfold uB at hp;rcases List.mem_append.1 hp with h1|h1
  ·obtain⟨q,hq,rfl⟩:=List.mem_map.1 h1;have:(og (Hq (gu x.1 x.2 (gX b) a).1) a q).2.1=q.2.1:=by
    unfold og;split
    ·split<;>rfl
    ·rfl
   grind
  ·split at h1
   ·rw[List.mem_singleton.1 h1];exact ha
   ·cases h1
theorem axg (s:bK) (hs:s.length<=100000):akh s=some (bQ s,()):=by
 obtain⟨H',F',h1,h2,h3⟩:=ar9 s hs bP 0 dR [] [] (by have:=afG (n:=s.length) (by omega);omega) (by omega) (by omega) lZ (by simp[dR]) ako (by simp);unfold akh;rw[show([(0,(0,()))]:List jJ)=lo dR.1 from rfl,show(true:Bool)=dR.2 from rfl,h1,bu];simp only[dL,Int.toNat_zero,aS]at h2 h3 ⊢;have hnn:=Vh s 0 dR [] (by omega) (fun p hp=>by cases hp);have h4:=avU s hs H' bP 0 (jM s 0 dR []) (afG (by omega)) (by omega) (by omega) (fun j hj=>by
  refine⟨?_,h2.lt j hj⟩
  grind [uK])
 grind [bu,bQ]
end
section
open List renaming append_assoc → ai, map_cons → ax, nil_append → aH, map_nil → aV
open Go.RowKit
def PZ:bK->Int->gm×Bool->kH->kH
 |[],_,_,p=>p
 |b::l,a,x,p=>PZ l (a+1) (gu x.1 x.2 (gX b) a) (og (Hq (gu x.1 x.2 (gX b) a).1) a p)
def zA:bK->Int->gm×Bool->List Int->List kH
 |[],_,_,_=>[]
 |b::l,a,x,fr=>
  if QS (Hq (gu x.1 x.2 (gX b) a).1) a=true then PZ l (a+1) (gu x.1 x.2 (gX b) a) (H7 (Hq (gu x.1 x.2 (gX b) a).1) a fr)::zA l (a+1) (gu x.1 x.2 (gX b) a) (fr++[a])
  else zA l (a+1) (gu x.1 x.2 (gX b) a) fr
theorem VS (F:List uw) (a:Int) (p:kH):(og F a p).2.1=p.2.1:=by
 unfold og;split
 ·split<;>rfl
 ·rfl
theorem KJ: ∀(l:bK) (a:Int) (x:gm×Bool) (p:kH),(PZ l a x p).2.1=p.2.1
 |[],_,_,_=>rfl
 |b::l,a,x,p=>by rw[PZ,KJ l,VS]
theorem aka (s:bK) (p:kH):(F9 s p).2.1=p.2.1:=by
 grind [F9]
theorem Q8: ∀(l:bK) (a:Int) (x:gm×Bool) (L:List kH),jM l a x L=L.map (PZ l a x)++zA l a x (L.map (·.2.1))
 |[],a,x,L=>by
  have:(PZ [] a x)=id:=rfl;rw[jM,zA,this];simp
 |b::l,a,x,L=>by
  rw[jM,Q8 l,zA];have hm:L.map (PZ (b::l) a x)=(L.map (og (Hq (gu x.1 x.2 (gX b) a).1) a)).map (PZ l (a+1) (gu x.1 x.2 (gX b) a)):=by
   rw[List.map_map];rfl
  have hf:(L.map (og (Hq (gu x.1 x.2 (gX b) a).1) a)).map (·.2.1)=L.map (·.2.1):=by
   simp_all [VS]
  unfold uB;rw[hm];split
  ·rw[List.map_append,List.map_append,hf];simp only[ax,aV,ai,List.cons_append,aH];rfl
  grind
theorem Ec (s:bK):bQ s=(zA s 0 dR []).map (F9 s):=by
 unfold bQ;rw[Q8];rfl
structure PL (x:gm) (i:Int):Prop where
 up:(pls x).Pairwise (· < ·)
 lt: ∀v∈pls x,v<i
theorem Hr: ∀{s:gm},jg s-> ∀f∈s,0<=f.1/\f.1<=14
 |[],h=>by cases h
 |[f],h=>by
  intro g hg;rw[List.mem_singleton.1 hg];have:f.1=0:=h;omega
 |f::g::r,h=>by
  intro q hq;rcases List.mem_cons.1 hq with rfl|h1
  ·have:=h.1;have:=h.2.1;omega
  ·exact Hr h.2.2.2 q h1
theorem acp: ∀(l m:bK) (a:Int) (x:gm×Bool),iG (l++m) a x=iG m (a+l.length) (iG l a x)
 |[],m,a,x=>by simp[iG]
 |b::l,m,a,x=>by
  rw[List.cons_append,iG,iG,acp l m]
  grind
end
section
open List renaming mem_cons_of_mem → aj, length_cons → aB, mem_cons_self → aG
open Go.RowKit
def IE (k:Int) (f:lH):Prop:=f.1=0\/(0<=f.2/\f.2+1<=k/\((f.1=1\/f.1=3\/f.1=7\/f.1=8\/f.1=9\/f.1=11)->f.2+2<=k))
theorem IE.up {k:Int} {f:Int×Int} (h:IE k f):IE (k+1) f:=by unfold IE at*;omega
def Tf (k:Int):Prop:=k=13\/k=12\/k=6\/k=14\/k=2\/k=4\/k=5\/k=10
def aAY (m:Int) (s y:gm) (a:Int):Prop:=y=s\/y=s.tail\/(∃k,Tf k/\y=(k,a)::s)\/(m=9/\y=(11,(s.headD (0,0)).2)::s.tail)
theorem alM (m:Int) (s:gm) (fr:Bool) (b a:Int):aAY m s (Gv m s fr b a).1 a:=by
 unfold Gv
 repeat' split
 all_goals first
  |exact .inl rfl
  |exact .inr (.inl rfl)
  |exact .inr (.inr (.inl ⟨_,by unfold Tf;decide,rfl⟩))
theorem afA (s:gm) (b a:Int):yE s b a=none\/ ∃k,Tf k/\yE s b a=some ((k,a)::s):=by
 unfold yE
 repeat' split
 all_goals first
  |exact .inl rfl
  |exact .inr ⟨_,by unfold Tf;decide,rfl⟩
theorem SN (m:Int) (s:gm) (fr:Bool) (b a:Int):aAY m s (je m s fr b a).1 a:=by
 unfold je;by_cases h1:m=0\/m=1\/m=2
 ·rw[if_pos h1];exact alM m s fr b a
 ·rw[if_neg h1];by_cases h2:m=13
  ·rw[if_pos h2];exact .inr (.inl rfl)
  ·rw[if_neg h2];by_cases h3:m=4
   ·rw[if_pos h3];simp only;split
    ·exact .inr (.inl rfl)
    ·exact .inl rfl
   ·rw[if_neg h3];by_cases h4:m=14
    ·rw[if_pos h4];split
     ·exact .inr (.inl rfl)
     ·exact .inl rfl
    ·rw[if_neg h4];by_cases h5:m=6
     ·rw[if_pos h5];simp only;split
      ·exact .inr (.inl rfl)
      ·split
       ·exact .inr (.inr (.inl ⟨13,by unfold Tf;decide,rfl⟩))
       ·exact .inl rfl
     ·rw[if_neg h5];rcases afA s b a with e|⟨k,hk,e⟩
      ·rw[e];simp only;by_cases h6:m=9\/m=10
       ·rw[if_pos h6];simp only;split
        ·exact .inr (.inr (.inl ⟨10,by unfold Tf;decide,rfl⟩))
        ·split
         ·split
          ·exact .inr (.inl rfl)
          ·exact .inr (.inr (.inr ⟨by omega,rfl⟩))
         ·exact .inl rfl
       ·rw[if_neg h6];simp only;split
        ·split
         ·exact .inr (.inl rfl)
         ·exact .inr (.inr (.inl ⟨5,by unfold Tf;decide,rfl⟩))
        ·split
         ·exact .inr (.inl rfl)
         ·split
          ·exact .inr (.inr (.inl ⟨4,by unfold Tf;decide,rfl⟩))
          ·exact .inl rfl
      ·rw[e];exact .inr (.inr (.inl ⟨k,hk,rfl⟩))
theorem ES {m:Int} {f:Int×Int} {r:gm} (hf:f.1=m) (fr:Bool) (b:Int) {a:Int} (h0:0<=a) (h: ∀g∈f::r,IE a g): ∀g∈(je m (f::r) fr b a).1,IE (a+1) g:=by
 have keep: ∀g∈f::r,IE (a+1) g:=fun g hg=>(h g hg).up;intro g hg;rcases SN m (f::r) fr b a with e|e|⟨k,hk,e⟩|⟨hm,e⟩<;>rw[e]at hg
 ·exact keep g hg
 ·exact keep g (aj _ hg)
 ·rcases List.mem_cons.1 hg with rfl|hg
  ·unfold IE;unfold Tf at hk;simp only;omega
  ·exact keep g hg
 ·rcases List.mem_cons.1 hg with rfl|hg
  ·have:=h f (aG ..);unfold IE at*;simp only[List.headD_cons];omega
  ·exact keep g (aj _ hg)
theorem aos {s:gm} (fr:Bool) (b:Int) {a:Int} (h0:0<=a) (h: ∀g∈s,IE a g): ∀g∈(gu s fr b a).1,IE (a+1) g:=by
 cases s with
 |nil=>intro g hg;cases hg
 |cons f r=>
  have hf:=h f (aG ..);have hr: ∀g∈r,IE (a+1) g:=fun g hg=>(h g (aj _ hg)).up;have set: ∀k:Int,IE (a+1) (k,f.2)-> ∀g∈(k,f.2)::r,IE (a+1) g:=fun k hk g hg=>by
   rcases List.mem_cons.1 hg with rfl|hg
   ·exact hk
   ·exact hr g hg
  have low: ∀k:Int,IE a (k,f.2)-> ∀g∈(k,f.2)::r,IE a g:=fun k hk g hg=>by
   rcases List.mem_cons.1 hg with rfl|hg
   ·exact hk
   ·exact h g (aj _ hg)
  unfold gu;simp only;by_cases h12:f.1=12
  ·rw[if_pos h12];by_cases h40:b=40
   ·rw[if_pos h40];exact set 3 (by unfold IE at*;simp only;omega)
   ·rw[if_neg h40];by_cases h123:b=123
    ·rw[if_pos h123];exact set _ (by unfold IE at*;simp only;split<;>omega)
    ·rw[if_neg h123];by_cases h36:b=36
     ·rw[if_pos h36];exact hr
     ·rw[if_neg h36];cases r with
      |nil=>
       intro g hg;have hp:=SN 0 [] fr b a;rw[show(([]:gm).headD (0,0)).1=0 from rfl]at hg;rcases hp with e|e|⟨k,hk,e⟩|⟨hm,e⟩
       ·rw[e]at hg;cases hg
       ·rw[e]at hg;cases hg
       ·rw[e,List.mem_singleton]at hg;subst hg;unfold IE;unfold Tf at hk;simp only;omega
       ·cases hm
      |cons g r=>exact ES rfl fr b h0 fun x hx=>h x (aj _ hx)
  ·rw[if_neg h12];by_cases h3:f.1=3
   ·rw[if_pos h3];split
    ·exact set 9 (by unfold IE at*;simp only;omega)
    ·exact ES (f:=(1,f.2)) rfl fr b h0 (low 1 (by unfold IE at*;simp only;omega))
   ·rw[if_neg h3];by_cases h11:f.1=11
    ·rw[if_pos h11];split
     ·exact hr
     ·exact ES (f:=(9,f.2)) rfl fr b h0 (low 9 (by unfold IE at*;simp only;omega))
    ·rw[if_neg h11];exact ES rfl fr b h0 h
theorem agr: ∀(l:bK) (a:Int) (x:gm×Bool),0<=a->(∀g∈x.1,IE a g)-> ∀g∈(iG l a x).1,IE (a+l.length) g
 |[],a,x,_,h=>by simpa [iG] using h
 |b::l,a,x,h0,h=>by
  have:=agr l (a+1) (gu x.1 x.2 (gX b) a) (by omega) (aos x.2 (gX b) h0 h);rw[iG,aB,show a+((l.length+1:Nat):Int)=a+1+(l.length:Int) by omega];exact this
theorem aot (w:bK): ∀g∈(iG w 0 dR).1,IE w.length g:=by
 have:=agr w 0 dR (by omega) fun g hg=>by
  have:g=(0,0):=by simpa [dR] using hg
  subst this;exact .inl rfl
 simpa using this
end
section
open Go.RowKit
end
section
open List renaming mem_cons_of_mem → aj, length_drop → aX
open Nat renaming le_refl → ae
open Go.RowKit
theorem aev {g f:Int×Int} {r:gm} (hg:jg (f::g::r)):g.1≠13:=by
 have:=hg.2.2.1
 grind [Xq]
theorem EO {m:Int} {f:Int×Int} {r:gm} (hf:f.1=m\/m≠13/\f.1≠13) (hr: ∀g r',r=g::r'->g.1≠13) (hr0:r=[]->m≠13) (fr:Bool) (b i:Int):
  ∀g r',(je m (f::r) fr b i).1=g::r'->g.1=13->g.2=i:=by
 intro g r' h h13;have hh: ∀{x:Int×Int} {y:gm},x::y=g::r'->x=g:=fun h=>(List.cons.inj h).1;have keep:m≠13->f::r=g::r'->False:=fun hm h=>by
  simp_all
 have tl:r=g::r'->False:=fun h=>hr g r' h h13;have psh: ∀k,(k,i)::f::r=g::r'->g.2=i:=fun k h=>by rw[<-hh h]
 unfold je at h;split at h
 ·rename_i hm
  have hm13:m≠13:=by omega
  unfold Gv at h
  grind
 ·split at h
  ·exact(tl h).elim
  grind [yE]
theorem anR {s:gm} (hg:jg s) (fr:Bool) (b i:Int): ∀g∈(gu s fr b i).1,g.1=13->g.2=i:=by
 have key: ∀g r',(gu s fr b i).1=g::r'->g.1=13->g.2=i:=by
  cases s with
  |nil=>cases hg
  |cons f r=>
  intro g r' h h13;have hh: ∀{x:Int×Int} {y:gm},x::y=g::r'->x=g:=fun h=>(List.cons.inj h).1;have hr: ∀g r',r=g::r'->g.1≠13:=fun g r' e=>by subst e;exact aev hg
  have hr2: ∀g g' r',r=g::g'::r'->g'.1≠13:=fun g g' r' e=>by subst e;exact aev hg.2.2.2
  have ch: ∀k:Int,k≠13->(k,f.2)::r=g::r'->False:=fun k hk h=>by
   grind
  simp only[gu]at h;split at h
  ·split at h
   ·simp_all
   ·split at h
    ·grind
    ·split at h
     ·grind
     ·cases r with
      |nil=>rename_i e12 _ _ _;have:f.1=0:=hg;omega
      |cons q r=>
       exact EO (.inl rfl) (fun g r' e=>hr2 q g r' (by rw[e])) (fun _=>by simp_all) fr b i g r' h h13
  ·split at h
   ·split at h
    ·simp_all
    ·exact EO (f:=(1,f.2)) (.inl rfl) hr (fun _=>by omega) fr b i g r' h h13
   ·split at h
    ·split at h
     ·grind
     ·exact EO (f:=(9,f.2)) (.inl rfl) hr (fun _=>by omega) fr b i g r' h h13
    ·refine EO (.inl rfl) hr (fun e=> ?_) fr b i g r' h h13;subst e;have:f.1=0:=hg;omega
 have hgs:=(good_step hg fr b i).1;revert key hgs;generalize (gu s fr b i).1=y;intro key hgs g hm h13;cases y with
 |nil=>cases hm
 |cons f r=>
  rcases List.mem_cons.1 hm with e|hm
  ·simp_all
  ·exfalso;clear key
   induction r generalizing f with
   |nil=>cases hm
   |cons q r ih=>
    rcases List.mem_cons.1 hm with e|hm2
    ·grind [aev]
    ·exact ih q hgs.2.2.2 (aj _ hm2) hm2
def PI (p:kH) (a:Int):Prop:=0<=p.2.1/\p.2.1<a/\(p.2.2.2.2.1=true/\(p.1=13->p.2.1+1=a)\/p.2.2.2.2.1=false/\p.2.1+2<=p.2.2.1/\p.2.2.1<=a/\(p.1=13->p.2.2.1=p.2.1+2))
theorem aiC {m:Int} (h:counts m=13):m=13:=by
 grind [counts]
theorem ate {s:gm} {f:uw} (h:f∈Hq s):(f.1,f.2.1)∈s:=by
 unfold Hq at h;rw[List.mem_reverse,List.mem_map]at h;obtain⟨g,hg,rfl⟩:=h
 grind [List.dropLast_sublist]
theorem akb {F:List uw} {v m:Int} (h:Cj F v=some m): ∃f∈F,f.2.1=v/\f.1=m:=by
 unfold Cj at h;obtain⟨f,hf,rfl⟩:=Option.map_eq_some_iff.1 h
 grind
theorem aAr {s:gm} (hg:jg s) (fr:Bool) (b a:Int) {p:kH} (h:PI p a):PI (og (Hq (gu s fr b a).1) a p) (a+1):=by
 obtain⟨h0,h1,h2⟩:=h;unfold og;rcases h2 with ⟨ho,h3⟩|⟨ho,h3,h4,h5⟩
 ·rw[if_pos ho];split
  ·rename_i m hm
   refine⟨h0,by simp only;omega,.inl ⟨ho,fun h=> ?_⟩⟩;have hm13:m=13:=aiC h;obtain⟨f,hf,hv,e⟩:=akb hm;have:=anR hg fr b a _ (ate hf) (by simp only;omega);omega
  ·refine⟨h0,by simp only[J3];omega,.inr ⟨rfl,by simp only[J3];omega,by simp[J3],fun h=> ?_⟩⟩
   grind [J3]
 ·rw[if_neg (by rw[ho];simp)];exact⟨h0,by omega,.inr ⟨ho,h3,by omega,h5⟩⟩
theorem aAq {s:gm} (hg:jg s) (fr:Bool) (b:Int) {a:Int} (h0:0<=a) (l:List Int):PI (H7 (Hq (gu s fr b a).1) a l) (a+1):=
 ⟨h0,by simp only[H7];omega,.inl ⟨rfl,fun h=>by simp only[H7]⟩⟩
theorem aho: ∀(l:bK) (a:Int) (x:gm×Bool) (p:kH),jg x.1->PI p a->PI (PZ l a x p) (a+l.length)
 |[],a,x,p,_,h=>by simpa [PZ] using h
 |b::l,a,x,p,hg,h=>by
  rw[PZ];have:=aho l (a+1) (gu x.1 x.2 (gX b) a) _ (good_step hg _ _ _).1 (aAr hg x.2 (gX b) a h)
  grind
theorem YJ: ∀(l:bK) (a:Int) (x:gm×Bool) (fr:List Int),0<=a->jg x.1-> ∀p∈zA l a x fr,PI p (a+l.length)/\a<=p.2.1
 |[],a,x,fr,_,_,p,h=>by cases h
 |b::l,a,x,fr,h0,hg,p,h=>by
  have hgs:=(good_step hg x.2 (gX b) a).1;have ih: ∀fr',p∈zA l (a+1) (gu x.1 x.2 (gX b) a) fr'->PI p (a+((b::l).length:Int))/\a<=p.2.1:=fun fr' hp=>by
   have:=YJ l (a+1) _ fr' (by omega) hgs p hp
   grind
  rw[zA]at h;split at h
  ·rcases List.mem_cons.1 h with rfl|h
   ·grind [aho,aAq,KJ,H7]
   ·exact ih _ h
  ·exact ih _ h
theorem Wi: ∀(l:bK) (a:Int) (x:gm×Bool) (fr:List Int),0<=a->jg x.1->(zA l a x fr).Pairwise (fun p q=>p.2.1<q.2.1)
 |[],a,x,fr,_,_=>List.Pairwise.nil
 |b::l,a,x,fr,h0,hg=>by
  have hgs:=(good_step hg x.2 (gX b) a).1;rw[zA];split
  ·refine List.Pairwise.cons (fun p hp=> ?_) (Wi l (a+1) _ _ (by omega) hgs);have:=(YJ l (a+1) _ _ (by omega) hgs p hp).2
   grind [KJ,H7]
  ·exact Wi l (a+1) _ _ (by omega) hgs
structure PF (s:bK) (p:kH):Prop where
 f0:0<=p.2.1
 f1:p.2.1<s.length
 t0:p.2.1<p.2.2.1
 t1:p.2.2.1<=s.length
 op:p.2.2.2.2.1=true->p.2.2.1=s.length/\p.1≠12
 sh:p.2.2.2.2.1=false->p.1≠12->p.2.1+2<=p.2.2.1
 es:p.1=13->p.2.2.1<=p.2.1+2
 dl:p.1=12->p.2.2.1=p.2.1+1+((prl (s.drop (p.2.1+1).toNat):Nat):Int)
theorem Vf (s:bK): ∀p∈bQ s,PF s p:=by
 intro p hp;rw[Ec]at hp;obtain⟨q,hq,rfl⟩:=List.mem_map.1 hp;obtain⟨⟨h0,h1,h2⟩,_⟩:=YJ s 0 dR [] (by omega) lZ q hq;rw[Int.zero_add]at h1 h2;have hl:=apU (s.drop (q.2.1+1).toNat);rw[aX]at hl;unfold F9;split
 ·rename_i h12
  exact⟨h0,h1,by simp only;omega,by simp only;omega,fun h=>(by cases h),fun _ h=>absurd h12 h,fun h=>(by omega),fun _=>rfl⟩
 ·rename_i h12
  split
  ·rename_i ho
   refine⟨h0,h1,h1,Int.le_refl _,fun _=>⟨rfl,h12⟩,fun h=>(by cases h),fun h=> ?_,fun h=>absurd h h12⟩
   grind
  ·rename_i ho
   rcases h2 with ⟨h3,_⟩|⟨h3,h4,h5,h6⟩
   ·exact absurd h3 ho
   ·exact⟨h0,h1,by omega,h5,fun h=>absurd h ho,fun _ _=>h4,fun h=>by have:=h6 h;omega,fun h=>absurd h h12⟩
theorem Vg (s:bK):(bQ s).Pairwise (fun p q=>p.2.1<q.2.1):=by
 grind [Ec,Wi,lZ,aka]
theorem BB (s:bK):(bQ s).length<=s.length:=by
 have h: ∀(l:bK) (a:Int) (x:gm×Bool) (fr:List Int),(zA l a x fr).length<=l.length:=by
  intro l
  induction l with
  |nil=>intro a x fr;exact ae 0
  |cons b l ih=>
   grind [zA]
 simp_all [Ec,dR]
end
section
open Nat renaming le_trans → aO
open Go.RowKit
def xA (L:List kH) (v:Int):Option kH:=L.find? fun p=>p.2.1==v
theorem P7 {L:List kH} {v:Int} {p:kH} (h:xA L v=some p):p∈L/\p.2.1=v:=
 ⟨List.mem_of_find?_eq_some h,by simpa using List.find?_some h⟩
theorem wC {s:List UInt8} {v:Int} {p:kH} (h:xA (bQ s) v=some p):PF s p/\p.2.1=v:=
 ⟨Vf s p (P7 h).1,(P7 h).2⟩
def lone (p:kH):Bool:=decide (p.1=12)&&decide (p.2.2.1=p.2.1+1)
def ul (s:bK) (p:kH):bK:=sub s p.2.1 p.2.2.1
def pF (p:kH):Int:=if p.2.2.2.2.1=true then p.2.2.1 else p.2.2.1-1
def Tm (s:bK) (p:kH):bK:=if p.2.2.1=p.2.1+2/\bV s (p.2.1+1)≠10 then sub s (p.2.1+1) p.2.2.1 else []
def Tj (s:bK) (p:kH):bK:=if p.2.2.1=p.2.1+2 then(if bV s (p.2.1+1)=36\/bV s (p.2.1+1)=96\/bV s (p.2.1+1)=34\/bV s (p.2.1+1)=92 then sub s (p.2.1+1) p.2.2.1 else if bV s (p.2.1+1)=10 then []else ul s p)else []
def iC (s:bK) (L:List kH) (at_:Int):Int×List UInt8×Bool:=
 match xA L at_ with
 |none=>(at_+1,sub s at_ (at_+1),false)
 |some p=>if lone p=true then(at_+1,sub s at_ (at_+1),false)
  else if p.1=13 then(p.2.2.1,Tj s p,false)
  else(p.2.2.1,ul s p,true)
def uo (s:bK) (L:List kH) (to_:Int):Nat->Int->bK
 |0,_=>[]
 |n+1,at_=>if at_<to_ then(iC s L at_).2.1++uo s L to_ n (iC s L at_).1 else []
def stepT (s:bK) (L:List kH) (at_:Int):Int×List UInt8:=
 match xA L at_ with
 |none=>(at_+1,sub s at_ (at_+1))
 |some p=>if lone p=true\/p.1=14 then(p.2.2.1,ul s p)
  else if p.1=13 then(p.2.2.1,Tm s p)
  else if p.1=4 then(p.2.2.1,sub s (p.2.1+1) (pF p))
  else if p.1=5 then(p.2.2.1,uo s L (pF p) s.length (p.2.1+1))
  else(p.2.2.1,ul s p)
def oq (s:bK) (L:List kH):Nat->Int->bK
 |0,_=>[]
 |n+1,at_=>if at_<s.length then(stepT s L at_).2++oq s L n (stepT s L at_).1 else []
def ZH (s:bK):bK:=oq s (bQ s) s.length 0
theorem J9 {s:List UInt8} {at_:Int}:at_<(iC s (bQ s) at_).1:=by
 unfold iC;split
 ·simp only;omega
 ·rename_i p hp
  obtain⟨h,e⟩:=wC hp;have:=h.t0
  grind
theorem Ko {s:List UInt8} {at_:Int}:at_<(stepT s (bQ s) at_).1:=by
 unfold stepT;split
 ·simp only;omega
 ·rename_i p hp
  obtain⟨h,e⟩:=wC hp;have:=h.t0
  grind
theorem acE {s:List UInt8} {at_:Int} (h0:at_<s.length):(stepT s (bQ s) at_).1<=s.length:=by
 unfold stepT;split
 ·simp only;omega
 ·rename_i p hp
  obtain⟨h,e⟩:=wC hp;have:=h.t1
  grind
theorem KE (s:bK) (to_:Int): ∀(n m:Nat) (at_:Int),to_-at_<=n->to_-at_<=m->uo s (bQ s) to_ n at_=uo s (bQ s) to_ m at_
 |0,0,_,_,_=>rfl
 |0,m+1,at_,h,_=>by rw[uo,uo,if_neg (by omega)]
 |n+1,0,at_,_,h=>by rw[uo,uo,if_neg (by omega)]
 |n+1,m+1,at_,h1,h2=>by
  rw[uo,uo];split
  ·have:= @J9 s at_;rw[KE s to_ n m _ (by omega) (by omega)]
  ·rfl
theorem GZ (s:bK): ∀(n m:Nat) (at_:Int),(s.length:Int)-at_<=n->(s.length:Int)-at_<=m->oq s (bQ s) n at_=oq s (bQ s) m at_
 |0,0,_,_,_=>rfl
 |0,m+1,at_,h,_=>by rw[oq,oq,if_neg (by omega)]
 |n+1,0,at_,_,h=>by rw[oq,oq,if_neg (by omega)]
 |n+1,m+1,at_,h1,h2=>by
  rw[oq,oq];split
  ·have:= @Ko s at_;rw[GZ s n m _ (by omega) (by omega)]
  ·rfl
theorem wX {α:Type} (l:List α) (a b:Int):(sub l a b).length<=l.length:=by
 grind [sub]
theorem LZ (s:bK) (L:List kH) (at_:Int):(iC s L at_).2.1.length<=s.length:=by
 unfold iC;split
 ·exact wX s _ _
 ·split
  ·exact wX s _ _
  ·split
   ·simp only;unfold Tj ul
    repeat' split
    all_goals simp_all [wX]
   ·exact wX s _ _
theorem Z8 (s:bK) (L:List kH) (to_:Int): ∀(n:Nat) (at_:Int),(uo s L to_ n at_).length<=n*s.length
 |0,_=>by simp[uo]
 |n+1,at_=>by
  rw[uo];split
  ·have:=LZ s L at_;have:=Z8 s L to_ n (iC s L at_).1
   grind
  simp
theorem VB (s:bK) (L:List kH) (at_:Int):(stepT s L at_).2.length<=s.length*s.length+s.length:=by
 have h: ∀a b,(sub s a b).length<=s.length*s.length+s.length:=fun a b=>aO (wX s a b) (Nat.le_add_left _ _);unfold stepT;split
 ·exact h _ _
 ·split
  ·exact h _ _
  ·split
   ·simp only;unfold Tm
    grind
   ·split
    ·exact h _ _
    ·split
     ·exact aO (Z8 _ _ _ _ _) (Nat.le_add_right _ _)
     ·exact h _ _
end
section
open Go.RowKit
def auW:SP:=⟨us [.u,.u,.u,.v .str] 29,[]⟩
def au5:SP:=⟨us [.u,.u,.v .str] 30,[]⟩
def avp {γ:Type} (rec kE kR:bK->Option γ) (v0:bK):Option γ:=bif(iw 0 (bC v0))then bif(gI v0 (ed .i64 (bC v0) 1))then bif(bM (bV v0 (ed .i64 (bC v0) 1)) 32)then bif(fF (bC v0) 0 (ed .i64 (bC v0) 1))then rec (sub v0 0 (ed .i64 (bC v0) 1))else none else kE v0 else none else kE v0
def agE:Nat->bK->Option (auW.den⊕au5.den)
 |0,_=>none
 |n+1,v0=>avp (agE n) (fun e0=>some (.inl ((e0,()),()))) (fun r0=>some (.inr ((r0,()),()))) v0
def avX (x0:Int):Option Zv:=bif(iw x0 1)then some ([],())else bif(iw 17 x0)then some ([],())else bif(fF (bC [38,38,32,124,124,32,59,59,32,60,60,32,60,60,45,62,62,32,60,38,32,62,38,32,60,62,32,62,124,32,60,32,32,62,32,32,38,32,32,59,32,32,124,32,32,40,32,32,41,32,32]) (akM .i64 3 (ed .i64 x0 1)) (akM .i64 3 x0))then bz (agE bP (sub [38,38,32,124,124,32,59,59,32,60,60,32,60,60,45,62,62,32,60,38,32,62,38,32,60,62,32,62,124,32,60,32,32,62,32,32,38,32,32,59,32,32,124,32,32,40,32,32,41,32,32] (akM .i64 3 (ed .i64 x0 1)) (akM .i64 3 x0))) fun y0=>dL y0 (fun a1=>some (a1.1.1,())) (fun b1=>some (b1.1.1,()))else none
end
section
open Bool renaming false_eq_true → ah, not_true → au
open List renaming length_append → ag, drop_eq_getElem_cons → aF, drop_of_length_le → aJ, length_map → aK, getElem_mem → aU, length_drop → aX
open Nat renaming le_refl → ae, lt_or_ge → aP
open Go.RowKit
def uk (b:Int):Bool:=decide (b=32)||decide (b=9)
def DN (b:Int):Bool:=decide (b=124)||decide (b=38)||decide (b=59)||decide (b=60)||decide (b=62)||decide (b=40)||decide (b=41)
theorem az1: ∀n:Fin 256,(match Gj ((n.val:Nat):Int)with|some (k,_)=>(bM k 1==uk ((n.val:Nat):Int))&&(bM k 3==DN ((n.val:Nat):Int))|none=>false)=true:=by decide+kernel
theorem az0 {b:Int} (h:isByte b): ∃k,Gj b=some (k,())/\bM k 1=uk b/\bM k 3=DN b:=by
 obtain⟨n,rfl⟩:=ZM h;have:=az1 n
 grind
def Vd:List bK:=[[38,38],[124,124],[59,59],[60,60],[60,60,45],[62,62],[60,38],[62,38],[60,62],[62,124],[60],[62],[38],[59],[124],[40],[41]]
def ofF (u:bK):Nat:=match Vd.findIdx? (· ==u)with
 |some j=>j+1
 |none=>0
theorem ar2: ∀n:Fin 18,n.val≠0->af7 ((n.val:Nat):Int)=some (Vd.getD (n.val-1) [],()):=by decide+kernel
theorem WH {α:Type} (p:α->Bool) (l:List α) {k:Nat} (h:k<l.length):(l.drop k).findIdx? p=if p l[k]=true then some 0 else((l.drop (k+1)).findIdx? p).map (· +1):=by
 grind [aF]
theorem Va (u:bK): ∀(d N k:Nat),k+d=17->d<N->
  A8 N u ((k+1:Nat):Int)=some (match(Vd.drop k).findIdx? (· ==u)with
   |some j=>.inr ((((k+j+1:Nat):Int),()),())
   |none=>.inl ((),()))
 |d,0,k,_,h=>by omega
 |0,N+1,k,h,_=>by
  have hk:k=17:=by omega
  subst hk;rfl
 |d+1,N+1,k,h,hN=>by
  have hk:k<Vd.length:=by show k<17;omega
  have ht:=ar2 ⟨k+1,by omega⟩ (by simp);simp only[Nat.add_sub_cancel]at ht;rw[A8,J5,bH (ou (by omega)),ht,bu,WH _ _ hk];have hg:Vd.getD k []=Vd[k]:=by simp_all
  simp only[hg,gU];by_cases e:(Vd[k]==u)=true
  ·rw[e];simp
  ·rw[Bool.not_eq_true]at e;rw[e,bY (by omega) (by omega),show((k+1:Nat):Int)+1=((k+1+1:Nat):Int) by omega];simp only[cond_false];rw[Va u d N (k+1) (by omega) (by omega)]
   grind
theorem azZ (u:bK) (h:ofF u≠0):u∈Vd:=by
 unfold ofF at h
 grind
theorem aeE (u:bK):Je u=some (((ofF u:Nat):Int),()):=by
 rw[Je];by_cases e:u=[]
 ·subst e;rfl
 ·rw[cO (by grind [gU])];have h:=Va u 17 bP 0 rfl (dJ (by omega))
  grind [bu,ofF,dL]
def Ui (t:bK):Nat->Nat×Nat
 |0=>(0,0)
 |n+1=>if ofF (t.take (n+1))≠0 then(ofF (t.take (n+1)),n+1)else Ui t n
theorem Ai (s:bK) (a n:Nat):sub s (a:Int) ((a+n:Nat):Int)=(s.drop a).take n:=by
 grind [sub,List.drop_take]
theorem ZE (s:bK) (hs:s.length<1000000) (a:Nat): ∀(n N:Nat),n<N->a+n<=s.length->
  Jv N s (a:Int) 0 (n:Int)=some (.inl (((((Ui (s.drop a) n).1:Nat):Int),(((Ui (s.drop a) n).2:Nat):Int),()),()))
 |n,0,h,_=>by omega
 |0,N+1,_,_=>by
  rfl
 |n+1,N+1,h,hn=>by
  rw[Jv,OM,bH (fJ (by omega)),bY (by omega) (by omega),show(a:Int)+((n+1:Nat):Int)=((a+(n+1):Nat):Int) by omega,
   bH (fK (by omega) (by omega) (by rw[bD];omega)),Ai,aeE,bu,Ui]
  by_cases e:ofF ((s.drop a).take (n+1))=0
  ·rw[e];simp only[show(!bM ((0:Nat):Int) 0)=false from rfl,cond_false,ne_eq,not_true_eq_false,if_false];rw[gG (by omega) (by omega),show((n+1:Nat):Int)-1=(n:Int) by omega];exact ZE s hs a n N (by omega) (by omega)
  simp_all [dK]
def Ou (t:bK):Nat×Nat:=Ui t (min 3 t.length)
theorem auT {c:UInt8} {t:List UInt8} (h:c::t∈Vd):DN (c.toNat:Int)=true:=by
 have: ∀u∈Vd,(match u with|c::_=>DN (c.toNat:Int)|[]=>true)=true:=by decide
 exact this _ h
theorem VZ {c:UInt8} {t:List UInt8} (h:DN (c.toNat:Int)=false): ∀n,Ui (c::t) n=(0,0)
 |0=>rfl
 |n+1=>by
  rw[Ui,if_neg,VZ h n]
  grind [auT,azZ]
theorem aDV {s:List UInt8} (hs:s.length<1000000) {a:Nat} (ha:a<s.length):agb s a=some ((((Ou (s.drop a)).1:Nat):Int),((((Ou (s.drop a)).2:Nat):Int),())):=by
 rw[agb,cO (iP (by omega)),cO (Jm (by rw[bD];omega)),bH (eP (by omega) (by omega))];obtain⟨k,h1,_,h3⟩:=az0 (qX s a);rw[h1,bu];simp only[h3];have hd:=aF ha;rw[byte_at ha];cases hm:DN (s[a].toNat:Int)with
 |false=>
  grind [Ou,VZ]
 |true=>
  simp only[au,cond_false];have hmin:HY 3 (ed .i64 (bC s) (a:Int))=((min 3 (s.drop a).length:Nat):Int):=by
   grind [bD,gG,HY]
  rw[hmin,ZE s hs a _ bP (dJ (by omega)) (by grind),bu];rfl
theorem ag6 (t:bK):(Ou t).2<=t.length/\((Ou t).2=0↔(Ou t).1=0)/\(Ou t).1<=17:=by
 have h: ∀n,(Ui t n).2<=n/\((Ui t n).2=0↔(Ui t n).1=0)/\(Ui t n).1<=17:=by
  intro n
  induction n with
  |zero=>exact⟨ae _,Iff.rfl,by simp[Ui]⟩
  |succ n ih=>
   rw[Ui];split
   ·rename_i e
    refine⟨ae _,⟨fun h=>absurd h (by simp),fun h=>absurd h e⟩, ?_⟩;unfold ofF;split
    ·rename_i j hj
     have:=(List.findIdx?_eq_some_iff_getElem.1 hj).1
     assumption
    omega
   omega
 grind [Ou]
theorem aoB (c:UInt8): ∀l:bK,Lib.indexByte l c=if(l.takeWhile (· !=c)).length<l.length then(((l.takeWhile (· !=c)).length:Nat):Int)else-1
 |[]=>rfl
 |b::l=>by
  unfold Lib.indexByte;rw[aoB c l];by_cases e:b=c
  ·subst e;simp
  ·have e1:(b==c)=false:=by simpa using e
   have e2:(b !=c)=true:=by simpa using e
   have e3:(b::l).takeWhile (fun x=>x !=c)=b::l.takeWhile (fun x=>x !=c):=by simp_all
   grind
def jP (s:bK) (a:Nat):Nat:=a+((s.drop a).takeWhile (· !=10)).length
theorem Jp (s:bK) (a:Nat):a<=jP s a:=Nat.le_add_right _ _
theorem Jq {s:List UInt8} {a:Nat} (h:a<=s.length):jP s a<=s.length:=by
 grind [CG,jP]
theorem ao8 {s:List UInt8} (hs:s.length<1000000) {a:Nat} (ha:a<=s.length):aaw s a=some (((jP s a:Nat):Int),(decide (jP s a<s.length),())):=by
 have hle:=Jq ha;have hge:=Jp s a;rw[aaw,bH (fK (by omega) (by rw[bD];omega) (by omega)),aaB,agi,bu,bu];have h1:sub s (a:Int) (bC s)=s.drop a:=by simp[sub,bD]
 have h2:ibW (sub s (a:Int) (bC s)) 10=if jP s a<s.length then((jP s a-a:Nat):Int)else-1:=by
  rw[h1];unfold ibW;rw[show(10:Int).toNat.toUInt8=10 from rfl,aoB,aX];unfold jP at*;omega
 rw[h2];by_cases h:jP s a<s.length
 ·rw[if_pos h,bH (ou (by omega)),bY (by omega) (by omega),decide_eq_true h];congr 2;omega
 ·rw[if_neg h,cO (Jm (by omega)),decide_eq_false h,bD];congr 2;omega
def yC:bK->Nat
 |[]=>0
 |[c]=>if uk (c.toNat:Int)=true then 1 else 0
 |c::d::t=>if uk (c.toNat:Int)=true then yC (d::t)+1 else if c=92/\d=10 then yC t+2 else 0
theorem Wh: ∀t:bK,yC t<=t.length
 |[]=>ae _
 |[c]=>by grind [yC]
 |c::d::t=>by
  have h1:=Wh (d::t);have h2:=Wh t
  grind [yC]
def Ce (t:bK):Bool:=match t with
 |c::d::_=>decide (c=92)&&decide (d=10)
 |_=>false
theorem ayO (t:bK):adV t [92,10]=some (Ce t,()):=by
 rw[adV,afZ];cases t with
 |nil=>rfl
 |cons c t=>
  cases t with
  |nil=>rfl
  |cons d t=>
   have h1:leI (bC [(92:UInt8),10]) (bC (c::d::t))=true:=ou (by grind [bD]);have h2:fF (bC (c::d::t)) 0 (bC [(92:UInt8),10])=true:=fK (by omega) (by rw[bD];simp) (by grind [bD]);simp_all [sub,bD,bu,Ce,gU,Bool.beq_eq_decide_eq]
theorem amA {s:List UInt8} {a:Nat} (ha:a<=s.length):aau s a=some (Ce (s.drop a),()):=by
 rw[aau,bH (fK (by omega) (by rw[bD];omega) (by omega)),show sub s (a:Int) (bC s)=s.drop a by simp[sub,bD],ayO,bu]
theorem zy {c:UInt8} {t:List UInt8}:yC (c::t)=if uk (c.toNat:Int)=true then yC t+1 else if Ce (c::t)=true then yC (t.drop 1)+2 else 0:=by
 cases t with
 |nil=>rfl
 |cons d t=>rw[yC];simp[Ce]
theorem G7 {s:List UInt8} (hs:s.length<1000000): ∀(N a:Nat),s.length-a<N->a<=s.length->
  ∃o,Jw N s (a:Int)=some o/\dL o (fun a1=>some (a1.1.1,())) (fun b1=>some (b1.1.1,()))=some ((((a+yC (s.drop a):Nat):Int)),())
 |0,a,h,_=>by omega
 |N+1,a,h,ha=>by
  rw[Jw,OO];by_cases e:a<s.length
  ·obtain⟨k,h1,h2,_⟩:=az0 (qX s a);have hd:=aF e;rw[bH (fJ (by rw[bD];omega)),bH (eP (by omega) (by omega)),h1,bu];simp only[h2];rw[byte_at e,hd,zy];by_cases hb:uk (s[a].toNat:Int)=true
   ·rw[hb,cond_true,if_pos rfl,bY (by omega) (by omega),show(a:Int)+1=((a+1:Nat):Int) by omega];obtain⟨o,o1,o2⟩:=G7 hs N (a+1) (by omega) (by omega)
    grind
   ·rw[Bool.not_eq_true]at hb;rw[hb,cond_false,if_neg (by simp),amA (by omega),bu,hd];cases hc:Ce (s[a]::s.drop (a+1))with
    |true=>
     have hlen:a+2<=s.length:=by
      rw[<-hd]at hc;rcases aP s.length (a+2)with hl|hl
      ·have:(s.drop a).length=1:=by grind
       obtain⟨x,hx⟩:=List.length_eq_one_iff.1 this;rw[hx]at hc;cases hc
      ·exact hl
     simp only[cond_true,if_true];rw[bY (by omega) (by omega),show(a:Int)+2=((a+2:Nat):Int) by omega,List.drop_drop,show a+1+1=a+2 from rfl];obtain⟨o,o1,o2⟩:=G7 hs N (a+2) (by omega) (by omega)
     grind
    |false=>
     simp only[cond_false,ah,if_false,Nat.add_zero];exact⟨_,rfl,rfl⟩
  ·rw[cO (ig (by rw[bD];omega)),aJ (by omega)];exact⟨_,rfl,rfl⟩
theorem asw {s:List UInt8} (hs:s.length<1000000) {a:Nat} (ha:a<=s.length):aav s a=some ((((a+yC (s.drop a):Nat):Int)),()):=by
 rw[aav];obtain⟨o,o1,o2⟩:=G7 hs bP a (dJ (by omega)) ha
 grind [bu]
def QX (t:bK):Nat:=if oL t≠0/\(t.drop (oL t)).head?=some 60\/oL t≠0/\(t.drop (oL t)).head?=some 62 then oL t else 0
theorem ahv (t:bK):oL t<=t.length:=CG _ _
theorem apB {s:List UInt8} (hs:s.length<1000000) {a:Nat} (ha:a<=s.length):aax s a=some ((((a+QX (s.drop a):Nat):Int)),()):=by
 have hle:=ahv (s.drop a);rw[aX]at hle;rw[aax,O4 (s:=s) (by omega) ha,bu];simp only;rw[bY (by omega) (by omega),show(a:Int)+((oL (s.drop a):Nat):Int)=((a+oL (s.drop a):Nat):Int) by omega];unfold QX;by_cases h0:oL (s.drop a)=0
 ·simp_all [iP]
 ·rw[bH (fJ (by omega))];by_cases h1:a+oL (s.drop a)<s.length
  ·have hd:((s.drop a).drop (oL (s.drop a))).head?=some s[a+oL (s.drop a)]:=by
    simp
   rw[bH (fJ (by rw[bD];omega)),bH (eP (by omega) (by omega)),byte_at h1,hd];by_cases e1:s[a+oL (s.drop a)]=60
   ·rw[e1,if_pos (.inl ⟨h0,rfl⟩)];rfl
   ·have e1':((s[a+oL (s.drop a)].toNat:Nat):Int)≠60:=fun h=>e1 (UInt8.toNat_inj.1 (by grind));rw[cO (dK e1'),bH (eP (by omega) (by omega))];by_cases e2:s[a+oL (s.drop a)]=62
    ·rw[e2,if_pos (.inr ⟨h0,rfl⟩)];rfl
    ·have e2':((s[a+oL (s.drop a)].toNat:Nat):Int)≠62:=fun h=>e2 (UInt8.toNat_inj.1 (by grind));simp_all [dK]
  ·have hd:((s.drop a).drop (oL (s.drop a))).head?=none:=by
    simp_all
   rw[cO (iP (by rw[bD];omega)),hd,if_neg (by simp)];simp
theorem adm: ∀n:Fin 15,(match agf ((n.val:Nat):Int)with|some (t,_)=>(t==([]:bK))==(decide (n.val=0)||decide (n.val=12))&&decide (t.length<=2)|none=>false)=true:=by decide+kernel
theorem amw {m:Int} (h0:0<=m) (h1:m<=14): ∃t,agf m=some (t,())/\(t=[]↔m=0\/m=12)/\t.length<=2:=by
 have:=adm ⟨m.toNat,by omega⟩
 grind
def acz (s:gm):Bool:=s.all fun f=>decide (f.1=0)||decide (f.1=12)
theorem IP (F:List uw) (hF:F.length<1000000) (hm: ∀f∈F,0<=f.1/\f.1<=14): ∀(N k:Nat) (a b:bK) (t:List Int),k<N->k<=F.length->t.length<=2*(F.length-k)->
  ∃t',pW N ((k:Int)-1) a b F t=some (.inl ((),((a,()),(),(),()),((b,()),(F,()),(),t',())))/\(t'=[]↔t=[]/\ ∀f∈F.take k,f.1=0\/f.1=12)
 |0,k,a,b,t,h,_,_=>by omega
 |N+1,0,a,b,t,h,_,_=>by
  rw[pW,uh];refine⟨t,rfl, ?_⟩;simp
 |N+1,k+1,a,b,t,h,hk,ht=>by
  rw[pW,uh];have hk':k<F.length:=by omega
  have hg:dN F (0,(0,())) (k:Int)=F[k]:=by
   simp_all [dN]
  have hb:=hm F[k] (aU hk');obtain⟨c,c1,c2,c3⟩:=amw hb.1 hb.2;have hfit:eH (bT t (bI c)) 1=true:=by
   simp only[eH,bT,bI,ag,aK,decide_eq_true_eq,ni];omega
  rw[show((k+1:Nat):Int)-1=(k:Int) by omega,bH (ou (by omega)),bH (eP (by omega) (by omega)),hg,c1,bu];simp only[hfit,fD,cond_true];rw[gG (by omega) (by omega)];obtain⟨t',h1,h2⟩:=IP F hF hm N k a b (bT t (bI c)) (by omega) (by omega) (by grind [bT,bI]);refine⟨t',h1, ?_⟩;rw[h2,List.take_add_one,List.getElem?_eq_getElem hk'];have:bT t (bI c)=[]↔t=[]/\(F[k].1=0\/F[k].1=12):=by
   simp_all [bT,bI]
  rw[this];simp only[Option.toList_some,List.mem_append,List.mem_singleton]
  grind
theorem air (w:bK) (hw:w.length<=100000): ∃t,agc w=some (t,())/\(!gU t [])= !acz (iG w 0 dR).1:=by
 have hg:=Dv w 0 dR lZ;have hl:dR.1.length=1:=rfl;have hm:=Hr hg.1;rw[agc,alX w hw,bu];obtain⟨t',h1,h2⟩:=IP (lo (iG w 0 dR).1) (by rw[mf];omega) (fun f hf=>by
  unfold lo at hf
  grind) bP (lo (iG w 0 dR).1).length [] [] [] (dJ (by rw[mf];omega)) (ae _) (by simp)
 simp only;rw[bD,gG (by rw[mf];omega) (by rw[mf];omega),h1,bu];refine⟨_,rfl, ?_⟩;congr 1;simp only;rw[List.take_length]at h2;have h3:(∀f∈lo (iG w 0 dR).1,f.1=0\/f.1=12)↔acz (iG w 0 dR).1=true:=by
  unfold acz lo;simp only[List.mem_reverse,List.mem_map,List.all_eq_true,Bool.or_eq_true,decide_eq_true_eq];exact⟨fun h f hf=>h _ ⟨f,hf,rfl⟩,fun h f ⟨g,hg,e⟩=>by grind⟩
 rw[h3]at h2;unfold gU;cases hs:acz (iG w 0 dR).1 with
 |true=>rw[h2.2 ⟨rfl,hs⟩];rfl
 |false=>
  have:t'≠[]:=fun e=>by simp_all
  cases t' with
  |nil=>simp_all
  |cons x y=>rfl
def Jr (s:bK) (tabs:Bool) (a:Nat):bK:=if tabs=true then((s.take (jP s a)).drop a).dropWhile (· ==9)else(s.take (jP s a)).drop a
def qA (s:bK) (a:Nat):Nat:=if jP s a<s.length then jP s a+1 else jP s a
def uC (s w:bK) (tabs:Bool):Nat->Nat->Nat×Bool
 |0,a=>(a,false)
 |n+1,a=>if a<s.length then(if Jr s tabs a=w then(qA s a,true)else uC s w tabs n (qA s a))else(a,false)
theorem abQ {s:List UInt8} {a:Nat} (h:a<s.length):a<qA s a/\qA s a<=s.length:=by
 grind [Jp,Jq,qA]
theorem SK: ∀(l:bK) (N:Nat),l.length<N->JB N l 9=some (.inl ((l.dropWhile (· ==9),()),()))
 |l,0,h=>by omega
 |[],N+1,_=>by rfl
 |c::l,N+1,h=>by
  rw[JB,OV,bH (fJ (by simp_all [bD])),bH (eP (by omega) (by simp)),show bV (c::l) 0=(c.toNat:Int) from rfl];by_cases e:c=9
  ·subst e;rw[show bM (((9:UInt8).toNat:Nat):Int) 9=true from rfl,cond_true,bH (fK (by omega) (by grind [bD]) (by omega))];rw[show sub ((9:UInt8)::l) 1 (bC ((9:UInt8)::l))=l by simp[sub,bD],SK l N (by simp at h;omega)];simp
  ·rw[cO (dK (fun h=>e (UInt8.toNat_inj.1 (by grind)))),List.dropWhile_cons_of_neg (by simpa using e)]
theorem avv (l:bK) (hl:l.length<1000000):agj l 9=some (l.dropWhile (· ==9),()):=by
 rw[agj,SK l bP (dJ (by omega)),bu];rfl
theorem UO {s w:List UInt8} (hs:s.length<1000000) (tabs:Bool): ∀(N a:Nat),s.length-a<N->a<=s.length->
  Ba N s (a:Int) w tabs=some (if(uC s w tabs N a).2=true then .inr (((((uC s w tabs N a).1:Nat):Int),true,()),())else .inl (((((uC s w tabs N a).1:Nat):Int),()),()))
 |0,a,h,_=>by omega
 |N+1,a,h,ha=>by
  (rewrite [Ba,OL];delta Ad;rw[uC])
  by_cases e:a<s.length
  ·have h1:=Jp s a;have h2:=Jq (s:=s) (a:=a) (by omega);have hn:=abQ e;have ih:=UO (w:=w) hs tabs N (qA s a) (by omega) (by omega);have hsub:sub s (a:Int) ((jP s a:Nat):Int)=(s.take (jP s a)).drop a:=by simp[sub]
   have hfin: ∀(x:bK),x=Jr s tabs a->
     (bif decide (jP s a<s.length)then
      bif gU x w then(some (.inr ((bU .i64 ((jP s a:Nat):Int) 1,true,()),())):Option (Oy.den⊕Oz.den))
      else Ba N s (bU .i64 ((jP s a:Nat):Int) 1) w tabs
     else bif gU x w then some (.inr ((((jP s a:Nat):Int),true,()),()))
      else Ba N s ((jP s a:Nat):Int) w tabs)=
     some (if(if Jr s tabs a=w then(qA s a,true)else uC s w tabs N (qA s a)).2=true
      then .inr (((((if Jr s tabs a=w then(qA s a,true)else uC s w tabs N (qA s a)).1:Nat):Int),true,()),())
      else .inl (((((if Jr s tabs a=w then(qA s a,true)else uC s w tabs N (qA s a)).1:Nat):Int),()),())):=by
    intro x hx;subst hx;have hw:gU (Jr s tabs a) w=decide (Jr s tabs a=w):=by
     grind [gU]
    rw[hw];by_cases hl:jP s a<s.length
    ·have hnx:qA s a=jP s a+1:=by simp_all [qA]
     rw[decide_eq_true hl,cond_true,bY (by omega) (by omega),show((jP s a:Nat):Int)+1=((qA s a:Nat):Int) by omega]
     grind
    ·have hnx:qA s a=jP s a:=by simp_all [qA]
     grind
   rw[bH (fJ (by rw[bD];omega)),ao8 hs (by omega),bu,if_pos e];simp only;rw[bH (fK (by omega) (by omega) (by rw[bD];omega)),hsub];cases tabs with
   |false=>simp_all [Jr]
   |true=>
    simp only[cond_true];by_cases e0:(s.take (jP s a)).drop a=[]
    ·rw[e0,show gU ([]:bK) []=true from rfl,cond_true];exact hfin _ (by rw[Jr,if_pos rfl,e0];rfl)
    ·rw[cO (by simp_all [gU])];refine(cO (by rfl)).trans ?_;refine(bH (by rfl)).trans ?_;refine(bH (by rfl)).trans ?_;refine(bH (by rfl)).trans ?_;refine(bH (by rfl)).trans ?_;rw[show bV [9] 0=9 from rfl];rw[avv _ (by grind),bu];exact hfin _ (by rfl)
  simp_all [ig,bD,if_neg]
def MZ (s w:bK) (tabs:Bool) (a:Nat):Nat×Bool:=uC s w tabs bP a
theorem ayP {s:List UInt8} (hs:s.length<1000000) (d:bK×Bool×Unit) {a:Nat} (ha:a<=s.length):aga s a d=some ((((MZ s d.1 d.2.1 a).1:Nat):Int),((MZ s d.1 d.2.1 a).2,())):=by
 rw[aga,UO hs d.2.1 bP a (dJ (by omega)) ha,bu];unfold MZ;cases h:(uC s d.1 d.2.1 bP a).2 with
 |true=>simp[dL]
 |false=>simp[dL]
end
section
open Nat renaming lt_or_ge → aP
open Go.RowKit
theorem ao7 {s:List UInt8} {f:Nat} (h3:jP s f<s.length):s[jP s f]=10:=by
 have:=Cb (· !=10) (s.drop f) (by grind [jP]);simp_all [jP]
theorem UN (s w:bK) (tabs:Bool): ∀(N a:Nat),s.length-a<N->a<=s.length->(uC s w tabs N a).1<=s.length/\((uC s w tabs N a).2=false->(uC s w tabs N a).1=s.length)/\(a<s.length->a<(uC s w tabs N a).1)
 |0,a,h,_=>by omega
 |N+1,a,h,ha=>by
  rw[uC];by_cases e:a<s.length
  ·have hn:=abQ e;rw[if_pos e];split
   ·simp_all
   ·have ih:=UN s w tabs N (qA s a) (by omega) hn.2;refine⟨ih.1,ih.2.1,fun _=> ?_⟩;rcases aP (qA s a) s.length with h'|h'
    ·omega
    ·cases N with
     |zero=>omega
     |succ N=>simp_all [uC,if_neg]
  grind
end
section
open Go.RowKit
end
section
open Go.RowKit
theorem kW (s:bK) (a b:Int):(sub s a b).length<=(b-a).toNat:=by
 grind [sub]
theorem zh {a b:List UInt8} (h:a.length+b.length<=140737488355328):kC a b=true:=by
 grind [kC,ni]
theorem Jd {α:Type} {l:List α} {k:Nat} (h:l.length*k<=140737488355328):eH l k=true:=by
 grind [eH,ni]
end
section
open Go.RowKit
end
section
open List renaming drop_eq_getElem_cons → aF, length_drop → aX
open Go.RowKit
abbrev Tok:=Int×Int×Int×Bool×Unit
abbrev Dlm:=List UInt8×Bool×Unit
abbrev Zz:=Int×List Dlm×Bool×Unit
def dDl:Dlm:=([],(false,()))
def qg (s:bK) (a:Nat):Nat:=a+qm (s.drop a) a dR
def IU (s:bK) (a b:Nat):bK:=(s.take b).drop a
def NR (w:bK):Bool:=acz (iG w 0 dR).1
theorem ac0 {s:List UInt8} {a:Nat} (h:a<=s.length):a<=qg s a/\qg s a<=s.length:=by
 grind [afM,qg]
def oH (s:bK) (a:Nat):Tok:=if yC (s.drop a)≠0 then(1,a,((a+yC (s.drop a):Nat):Int),false,())else if bV s a=10 then(2,a,((a+1:Nat):Int),false,())else if bV s a=35 then(3,a,(jP s a:Nat),false,())else if(Ou (s.drop a)).2≠0 then(4,a,((a+(Ou (s.drop a)).2:Nat):Int),false,())else if QX (s.drop a)≠0 then(5,a,((a+QX (s.drop a):Nat):Int),false,())else(6,a,(qg s a:Nat), !NR (IU s a (qg s a)),())
def AA (s:bK) (a:Nat) (x:Zz):Zz:=if yC (s.drop a)≠0 then(x.1,x.2.1,false,())else if bV s a=10 then(0,x.2.1,decide (0<x.2.1.length),())else if bV s a=35 then(0,x.2.1,false,())else if(Ou (s.drop a)).2≠0 then((if(Ou (s.drop a)).1=4\/(Ou (s.drop a)).1=5 then(((Ou (s.drop a)).1:Nat):Int)else 0),x.2.1,false,())else if QX (s.drop a)≠0 then(0,x.2.1,false,())else(0,(if x.1=0 then x.2.1 else x.2.1++[(ZH (IU s a (qg s a)),decide (x.1=5),())]),false,())
def kV (s:bK) (a:Nat) (x:Zz):Tok×Zz:=if x.2.2.1=true then(if(MZ s (x.2.1.headD dDl).1 (x.2.1.headD dDl).2.1 a).2=true then((7,a,((MZ s (x.2.1.headD dDl).1 (x.2.1.headD dDl).2.1 a).1:Nat),false,()),(x.1,x.2.1.tail,decide (1<x.2.1.length),()))else((7,a,((MZ s (x.2.1.headD dDl).1 (x.2.1.headD dDl).2.1 a).1:Nat),true,()),x))else(oH s a,AA s a x)
theorem apE {c:UInt8} {t:List UInt8} (h:DN (c.toNat:Int)=true):(Ou (c::t)).2≠0:=by
 have h1:ofF [c]≠0:=by
  have: ∀n:Fin 256,DN ((n.val:Nat):Int)=true->ofF [UInt8.ofNat n.val]≠0:=by decide+kernel
  have:=this ⟨c.toNat,c.toNat_lt⟩ h;simpa using this
 have h2: ∀n,(Ui (c::t) (n+1)).2≠0:=by
  intro n
  induction n with
  |zero=>simp_all [Ui]
  |succ n ih=>
   grind [Ui]
 grind [Ou]
theorem wV {s:List UInt8} (hs:s.length<=10000) {a:Nat} (ha:a<s.length) (x:Zz):(a:Int)<(kV s a x).1.2.2.1/\(kV s a x).1.2.2.1<=s.length/\(kV s a x).1.2.1=a:=by
 unfold kV;split
 ·have h:=UN s (x.2.1.headD dDl).1 (x.2.1.headD dDl).2.1 bP a (dJ (by omega)) (by omega);have h2:=h.2.2 ha;have h1:=h.1;unfold MZ
  grind
 ·unfold oH;have hd:=aF ha;split
  ·have:=Wh (s.drop a)
   grind
  ·split
   ·grind
   ·split
    ·rename_i h35
     have h1:=Jp s a;have h2:=Jq (s:=s) (a:=a) (by omega);have h3:jP s a≠a:=by
      intro e;have:=ao7 (s:=s) (f:=a) (by omega);simp_all [byte_at]
     grind
    ·split
     ·have:=(ag6 (s.drop a)).1
      grind
     ·split
      ·rename_i hn
       have h1:=ahv (s.drop a);rw[aX]at h1;have:QX (s.drop a)<=oL (s.drop a):=by grind [QX]
       grind
      ·rename_i hb h10 _ ho _
       have hw:=ac0 (s:=s) (a:=a) (by omega);have:qm (s.drop a) a dR≠0:=by
        rw[hd,qm];have he:xy dR.1 (gX s[a])=false:=by
         unfold xy;have:Cf (gX s[a])=false:=by
          have hbl:uk (s[a].toNat:Int)=false:=by
           grind [zy]
          have hme:DN (s[a].toNat:Int)=false:=by
           grind [apE]
          simp_all [byte_at,uk,DN,Cf,gX]
         rw[this];rfl
        rw[he];simp
       unfold qg at hw ⊢
       grind
end
section
open Go.RowKit
theorem ah3 {s:List UInt8} {a b:Nat}:sub s (a:Int) (b:Int)=IU s a b:=by simp[sub,IU]
theorem Z7 {s:List UInt8} {a b:Nat}:(IU s a b).length<=s.length:=by
 grind [IU]
end
section
open Go.RowKit
def qY (s:bK):Nat->Nat->List Tok->Zz->List Tok×Zz
 |0,_,l,x=>(l,x)
 |n+1,a,l,x=>if a<s.length then qY s n (kV s a x).1.2.2.1.toNat (l++[(kV s a x).1]) (kV s a x).2 else(l,x)
def lG (s:bK):List Tok×Zz:=qY s (s.length+1) 0 [] (0,[],false,())
def OkX (x:Zz):Prop:=x.2.2.1=true->x.2.1≠[]
theorem acF (s:bK) (a:Nat) {x:Zz} (h:OkX x):OkX (kV s a x).2/\(kV s a x).2.2.1.length<=x.2.1.length+1:=by
 obtain⟨aw,pd,bd,u⟩:=x;unfold OkX at*;unfold kV;simp only at h ⊢;split
 ·grind
 ·unfold AA
  grind
theorem UY {s:List UInt8} (hs:s.length<=10000): ∀(n m a:Nat) (l:List Tok) (x:Zz),s.length<n+a->s.length<m+a->qY s n a l x=qY s m a l x
 |0,0,a,l,x,_,_=>rfl
 |0,m+1,a,l,x,h,_=>by rw[qY,qY,if_neg (by omega)]
 |n+1,0,a,l,x,_,h=>by rw[qY,qY,if_neg (by omega)]
 |n+1,m+1,a,l,x,h1,h2=>by
  rw[qY,qY];split
  ·rename_i ha
   have:=wV hs ha x;exact UY hs n m _ _ _ (by omega) (by omega)
  ·rfl
structure OkT (s:bK) (t:Tok):Prop where
 f0:0<=t.2.1
 ft:t.2.1<t.2.2.1
 t1:t.2.2.1<=s.length
theorem agB {s:List UInt8} (hs:s.length<=10000): ∀(n a:Nat) (l:List Tok) (x:Zz),OkX x->l.length<=a->a<=s.length->(∀t∈l,OkT s t)->(∀t∈(qY s n a l x).1,OkT s t)/\OkX (qY s n a l x).2/\(qY s n a l x).1.length<=s.length
 |0,a,l,x,hx,hl,ha,h=>⟨h,hx,by grind [qY]⟩
 |n+1,a,l,x,hx,hl,ha,h=>by
  rw[qY];split
  ·rename_i e
   have hto:=wV hs e x;exact agB hs n _ _ _ (acF s a hx).1 (by grind) (by omega) (fun t ht=>by
    rcases List.mem_append.1 ht with h1|h1
    ·exact h t h1
    ·rw[List.mem_singleton.1 h1];exact⟨by omega,by omega,by omega⟩)
  grind
theorem Om {s:List UInt8} (hs:s.length<=10000):(∀t∈(lG s).1,OkT s t)/\OkX (lG s).2/\(lG s).1.length<=s.length:=
 agB hs _ _ _ _ (fun h=>by cases h) (by simp) (by omega) (fun t ht=>by cases ht)
def akr (t:Tok):Bool:=decide (t.1=2)||decide (t.1=4)||decide (t.1=5)||decide (t.1=6)
def awh (s:bK) (t:Tok):Int×List UInt8×Int×Int×Unit:=(t.1,sub s t.2.1 t.2.2.1,t.2.1,t.2.2.1,())
def kM (s:bK) (l:List Tok):List (Int×List UInt8×Int×Int×Unit):=(l.filter akr).map (awh s)
end
section
open Tryz
open Go.RowKit
def aoj (x0:bK) (x1:Int) (x2:Int×Zu×oW):Option (qh×(Int×Zu×oW)×Unit):=bif(gI x2.2.1 0)then bz (aga x0 x1 (dN x2.2.1 ([],(false,())) 0)) fun y0=>bif(!y0.2.1)then bif((bM x2.1 x2.1)&&((PW tyG x2.2.1 x2.2.1)&&((Oc x2.2.2.1 x2.2.2.1)&&true)))then some ((7,(x1,(y0.1,((!y0.2.1),())))),((x2.1,(x2.2.1,(x2.2.2.1,()))),()))else none else bif(fF (bC x2.2.1) 1 (bC x2.2.1))then bz (qQ (sub x2.2.1 1 (bC x2.2.1))) fun y1=>bif(bM x2.1 x2.1)then bif(bM (bC y1.1) (bC y1.1))then bif(Oc (iw 0 (bC y1.1)) (iw 0 (bC y1.1)))then bif((bM x2.1 x2.1)&&((Oc (iw 0 (bC y1.1)) (iw 0 (bC y1.1)))&&true))then some ((7,(x1,(y0.1,((!y0.2.1),())))),((x2.1,(y1.1,((iw 0 (bC y1.1)),()))),()))else none else none else none else none else none else none
def aqQ:Sum:=⟨[.str,cu,.pair cu tyJ],tzG,fun x=>aoj x.1 x.2.1 x.2.2.1⟩
noncomputable def axP:Env:=fZ prog tt 145 [(182,aq1),(183,yw)] [] []
theorem ai0:dB axP:=eA f145 (aD alq (aD wZ aN))
theorem alg:dU prog 145 aqQ:=sA ai0
def Qb (x0:iQ):Option oW:=bif(bM x0.1 12)then some ((bM x0.2.2.1 (bU .i64 x0.2.1 1)),())else some (false,())
def afo:Sum:=⟨[Ub],NT,fun x=>Qb x.1⟩
noncomputable def axH:Env:=fZ prog tt 107 [] [] []
theorem aiL:dB axH:=eA f107 aN
theorem VF:dU prog 107 afo:=sA aiL
def WQ (x0:iQ):Option jJ:=bif x0.2.2.2.2.1 then some ((bU .i64 x0.2.1 2),((Bf (ed .i64 x0.2.2.1 0) (bU .i64 x0.2.1 2)),()))else some ((bU .i64 x0.2.1 2),((Bf (ed .i64 x0.2.2.1 1) (bU .i64 x0.2.1 2)),()))
def af2 (x0:iQ):Option jJ:=bif x0.2.2.2.2.1 then some ((bU .i64 x0.2.1 1),((Bf (ed .i64 x0.2.2.1 0) (bU .i64 x0.2.1 1)),()))else some ((bU .i64 x0.2.1 1),((Bf (ed .i64 x0.2.2.1 0) (bU .i64 x0.2.1 1)),()))
def af4 (x0:iQ):Option jJ:=bif x0.2.2.2.2.1 then some ((bU .i64 x0.2.1 1),((Bf (ed .i64 x0.2.2.1 0) (bU .i64 x0.2.1 1)),()))else some ((bU .i64 x0.2.1 1),((Bf (ed .i64 x0.2.2.1 1) (bU .i64 x0.2.1 1)),()))
def WR (x0:iQ):Option jJ:=bif(bM x0.1 9)then bif x0.2.2.2.2.1 then some ((bU .i64 x0.2.1 3),((Bf (ed .i64 x0.2.2.1 0) (bU .i64 x0.2.1 3)),()))else some ((bU .i64 x0.2.1 3),((Bf (ed .i64 x0.2.2.1 2) (bU .i64 x0.2.1 3)),()))else bif(bM x0.1 13)then bif(bM x0.1 13)then af2 x0 else af4 x0 else bif(bM x0.1 12)then af2 x0 else af4 x0
def aas (x0:iQ):Option jJ:=bif(bM x0.1 1)then bif(bM x0.1 1)then WQ x0 else WR x0 else bif(bM x0.1 7)then bif(bM x0.1 7)then WQ x0 else WR x0 else bif(bM x0.1 8)then WQ x0 else WR x0
def afr:Sum:=⟨[Ub],tzH,fun x=>aas x.1⟩
noncomputable def axV:Env:=fZ prog tt 153 [] [] []
theorem ai6:dB axV:=eA f153 aN
theorem VI:dU prog 153 afr:=sA ai6
noncomputable def V5:Code:=(f191.body).getD .skip
noncomputable def V6:Code:=(f69.body).getD .skip
noncomputable def Pm:Code:=(f104.body).getD .skip
noncomputable def Pn:Code:=(f109.body).getD .skip
noncomputable def Un:Code:=cA (cA (cB (cA (cB (cB (V6))))))
noncomputable def PD:Code:=cA (cA (cB (cA (cB (cB (cB (cA (cB (Pm)))))))))
noncomputable def PE:Code:=cA (cA (cB (cA (cB (cB (cB (cB (Pn))))))))
def UT:dM:=⟨[3,15,16,17,54000003],[],[3],[],[2],[]⟩
def Qr:dM:=⟨[1,2,3,4,5,80000004],[(300000300,.pair (.list .unit) (.int .u8))],[4],[],[],[]⟩
def Qs:dM:=⟨[0,2,8,9,10,11,85000005],[(9,(.int .u8))],[2,9,10],[],[6],[]⟩
def at1:dM:=⟨[2,3],[],[],[],[],[]⟩
def atz:dM:=⟨[0,2,3],[],[],[],[],[]⟩
def atA:dM:=⟨[3,4],[],[],[],[],[]⟩
def atB:dM:=⟨[3],[],[],[],[],[]⟩
def aa6:dM:=⟨[1,2,3,4,5],[],[],[],[],[]⟩
def Xg:dM:=⟨[1,2,3,4,5,6],[],[],[],[],[]⟩
def Xh:dM:=⟨[1,2,3,4,5,8,9],[],[],[],[],[]⟩
def Xi:dM:=⟨[1,2,3,4,5,6],[],[],[],[],[]⟩
def Xf:dM:=⟨[1,2,3,4,5,6],[],[],[],[],[]⟩
def Xj:dM:=⟨[4],[],[],[],[],[]⟩
def aa7:dM:=⟨[1,3],[],[],[],[],[]⟩
def aa8:dM:=⟨[0,2,8,9,10,11],[],[],[],[],[]⟩
def Xk:dM:=⟨[0,2,8,9,10,12],[],[],[],[],[]⟩
def aa9:dM:=⟨[0,2,8,9,12],[],[],[],[],[]⟩
def aba:dM:=⟨[0,2,8,12],[],[],[],[],[]⟩
def Xl:dM:=⟨[2,9],[],[],[],[],[]⟩
def ad8:dM:=⟨[0,1],[],[],[],[],[]⟩
def Fz:SQ:=⟨us [.u,.u,.u,.ptr 2000011 0,.u,.u,.u,.u,.u,.u,.u,.u,.u,.u,.u,.v Uc,.v cu,.v cu] 14,[us [.v .str,.u,.v .str,.ptr 1000003 0,.u,.v .str] 7,[]],[.box 2000011 163 [.v .str,.v Uc,.mpv 2000009],.mp 2000009 .i64 .i64,.box 1000003 108 [.slf 1000003,.slc 1500003],.arr 1500003 (.int .u8)]⟩
def Ib:SQ:=⟨us [.u,.u,.u,.ptr 2000011 0] 28,[us [.v .str,.u,.v .str,.ptr 1000003 0,.u,.v .str] 7,[]],[.box 2000011 163 [.v .str,.v Uc,.mpv 2000009],.mp 2000009 .i64 .i64,.box 1000003 108 [.slf 1000003,.slc 1500003],.arr 1500003 (.int .u8)]⟩
def Ih:SQ:=⟨us [] 112,[us [.u,.u,.v .str,.ptr 1000003 0] 9,[.yld 1700008],[]],[.box 2000011 163 [.v .str,.v Uc,.mpv 2000009],.mp 2000009 .i64 .i64,.box 2000001 111 [.ptr 2000011 0],.lp 1700008 191 (us [.u,.u,.v .str,.ptr 1000003 0] 9) [8] 4 0 none,.arr 1500003 (.int .u8),.box 1000003 108 [.slf 1000003,.slc 1500003]]⟩
def BP {γ:Type} (rec:(List iQ)->Int->Int->bK->bK->bK->bK->(List iQ)->(List lH)->gW->Option γ) (kE:bK->bK->bK->bK->(List iQ)->(List lH)->gW->Option γ) (kR:bK->bK->(List iQ)->(List lH)->bK->gW->Option γ) (v0:List iQ) (v1 v2:Int) (v3 v4 v5 v6:bK) (v7:List iQ) (v8:List lH) (v9:gW):Option γ:=bif(iw v2 v1)then bif(gI v0 v2)then rec v0 v1 (bU .i64 v2 1) v3 v4 v5 v6 v7 (tN v8 (dN v0 (0,(0,(0,(0,(false,()))))) v2).2.1 (bU .i64 v2 1)) v9 else none else kE v3 v4 v5 v6 v7 v8 v9
def rq:Nat->(List iQ)->Int->Int->bK->bK->bK->bK->(List iQ)->(List lH)->gW->Option (Ib.den⊕Ih.den)
 |0,_,_,_,_,_,_,_,_,_,_=>none
 |n+1,v0,v1,v2,v3,v4,v5,v6,v7,v8,v9=>BP (rq n) (fun e0 e1 e2 e3 e4 e5 e6=>some (.inl ((),((e0,e1,e2,()),(),()),((e3,e4,()),e5,(),e6,())))) (fun r0 r1 r2 r3 r4 r5=>some (.inr ((),((r0,()),(),(),()),((r1,r2,()),r3,(),(r4,()),r5,(),())))) v0 v1 v2 v3 v4 v5 v6 v7 v8 v9
def aey (n:Nat) (v:Fz.den):=rq n v.1.1 v.1.2.1 v.1.2.2.1 v.2.1.1.1 v.2.1.1.2.1 v.2.1.1.2.2.1 v.2.2.1.1 v.2.2.1.2.1 v.2.2.2.1 v.2.2.2.2.2.1
noncomputable def QG:dC:=fO UT Fz Ib Ih (.exit 0) (aey bP) 6
def Bl:SQ:=⟨us [.ptr 2000011 0,.u,.yld 1700008,.u,.u,.u,.u,.u,.v cu,.slc 4800009,.v .bool,.v cu] 83,[[.u,.ptr 2000001 0,.ptr 3000002 0,.ptr 3000003 0,.fn 105 [(3000003,0),(3000002,0)],.v cu,.ptr 3000006 0,.u,.u,.u,.u,.u,.u,.u,.u,.u,.u,.u,.u,.u,.u,.u,.u,.u,.u,.u,.u,.u,.u,.u,.u,.u,.u,.u,.u,.u,.u,.u,.u,.u,.u,.u,.u,.u,.u,.u,.u,.u,.u,.u,.u,.u,.u,.u,.u,.u,.u,.u,.u,.u,.u,.u,.u,.u,.u,.u,.u,.u,.u,.u,.u,.u,.u,.u,.u,.u,.u,.u,.u,.u,.u,.u,.u,.u,.u,.u,.u,.u,.u,.u,.u,.u,.u,.u,.u,.u,.u,.u,.u,.u,.u,.fn 105 [(3000003,0),(3000002,0)],.v .bool,.v .bool,.ptr 2000011 0,.v Ub,.yld 1700008,.u,.u,.u,.u,.u],us [.u,.u,.v .str,.ptr 1000003 0] 9,[.yld 1700008],[]],[.arr 4800009 (.int .u8),.box 3000006 98 [.v cu,.v cu,.v cu,.v cu,.v .bool],.arr 3500003 (.int .u8),.box 3000003 86 [.nils],.box 3000002 164 [.yld 1700008],.box 2000011 163 [.v .str,.v Uc,.mpv 2000009],.mp 2000009 .i64 .i64,.box 2000001 111 [.ptr 2000011 0],.lp 1700008 191 (us [.u,.u,.v .str,.ptr 1000003 0] 9) [8] 4 0 none,.arr 1500003 (.int .u8),.box 1000003 108 [.slf 1000003,.slc 1500003]]⟩
def xW:SQ:=⟨us [.u,.u,.yld 1700008,.u,.u,.u,.u,.u,.u,.slc 4800009,.v .bool] 84,[[.u,.ptr 2000001 0,.ptr 3000002 0,.ptr 3000003 0,.fn 105 [(3000003,0),(3000002,0)],.v cu,.ptr 3000006 0,.u,.u,.u,.u,.u,.u,.u,.u,.u,.u,.u,.u,.u,.u,.u,.u,.u,.u,.u,.u,.u,.u,.u,.u,.u,.u,.u,.u,.u,.u,.u,.u,.u,.u,.u,.u,.u,.u,.u,.u,.u,.u,.u,.u,.u,.u,.u,.u,.u,.u,.u,.u,.u,.u,.u,.u,.u,.u,.u,.u,.u,.u,.u,.u,.u,.u,.u,.u,.u,.u,.u,.u,.u,.u,.u,.u,.u,.u,.u,.u,.u,.u,.u,.u,.u,.u,.u,.u,.u,.u,.u,.u,.u,.u,.fn 105 [(3000003,0),(3000002,0)],.v .bool,.v .bool,.ptr 2000011 0,.v Ub,.yld 1700008,.u,.u,.u,.u,.u],us [.u,.u,.v .str,.ptr 1000003 0] 9,[.yld 1700008],[]],[.arr 4800009 (.int .u8),.box 3000006 98 [.v cu,.v cu,.v cu,.v cu,.v .bool],.arr 3500003 (.int .u8),.box 3000003 86 [.nils],.box 3000002 164 [.yld 1700008],.box 2000011 163 [.v .str,.v Uc,.mpv 2000009],.mp 2000009 .i64 .i64,.box 2000001 111 [.ptr 2000011 0],.lp 1700008 191 (us [.u,.u,.v .str,.ptr 1000003 0] 9) [8] 4 0 none,.arr 1500003 (.int .u8),.box 1000003 108 [.slf 1000003,.slc 1500003]]⟩
def xX:SQ:=⟨us [] 112,[us [.u,.u,.v .str,.ptr 1000003 0] 9,[.yld 1700008],[]],[.box 2000011 163 [.v .str,.v Uc,.mpv 2000009],.mp 2000009 .i64 .i64,.box 2000001 111 [.ptr 2000011 0],.lp 1700008 191 (us [.u,.u,.v .str,.ptr 1000003 0] 9) [8] 4 0 none,.arr 1500003 (.int .u8),.box 1000003 108 [.slf 1000003,.slc 1500003]]⟩
def eG (v16:List iQ) (v17:List lH) (v2:Int):=dN v16 (0,(0,(0,(0,(false,()))))) (ed .i64 (lV v17 v2) 1)
def iI (v15:bK) (v16:List iQ) (v17:List lH) (v2:Int):=bV v15 (bU .i64 (eG v16 v17 v2).2.1 1)
def jT (v15:bK) (v16:List iQ) (v17:List lH) (v2:Int):=bI (sub v15 (eG v16 v17 v2).2.1 (eG v16 v17 v2).2.2.1)
def mM {γ:Type} (v8:gW) (v15:bK) (v16:List iQ) (v17:List lH) (v2:Int) (rec:Int->Bool->Int->Int->Bool->Bool->iQ->bK->gW->Int->Int->Int->Int->Bool->gW->bK->(List iQ)->(List lH)->bK->gW->Option γ) (v0:Int) (v1:Bool) (v3:Int) (v4 v5:Bool) (v6:iQ) (v7:bK) (v9 v10 v11 v12:Int) (v13:Bool) (v14:gW) (v18:bK) (v19:gW):Option γ:=bif(eH (bT v8 (bI (ofBytes [(iI v15 v16 v17 v2)]))) 1)then rec v0 v1 (eG v16 v17 v2).2.2.1 v3 v4 v5 v6 v7 (bT v8 (bI (ofBytes [(iI v15 v16 v17 v2)]))) v9 v10 v11 v12 v13 v14 v15 v16 v17 v18 v19 else none
def mO {γ:Type} (v15:bK) (v16:List iQ) (v17:List lH) (v2:Int) (v8:gW) (rec:Int->Bool->Int->Int->Bool->Bool->iQ->bK->gW->Int->Int->Int->Int->Bool->gW->bK->(List iQ)->(List lH)->bK->gW->Option γ) (v0:Int) (v1:Bool) (v3:Int) (v4 v5:Bool) (v6:iQ) (v7:bK) (v9 v10 v11 v12:Int) (v13:Bool) (v14:gW) (v18:bK) (v19:gW):Option γ:=bif(bM (iI v15 v16 v17 v2) 10)then bif(eH (bT v8 (bI [])) 1)then rec v0 v1 (eG v16 v17 v2).2.2.1 v3 v4 v5 v6 v7 (bT v8 (bI [])) v9 v10 v11 v12 v13 v14 v15 v16 v17 v18 v19 else none else bif(fF (bC v15) (eG v16 v17 v2).2.1 (eG v16 v17 v2).2.2.1)then bif(eH (bT v8 (jT v15 v16 v17 v2)) 1)then rec v0 v1 (eG v16 v17 v2).2.2.1 v3 v4 v5 v6 v7 (bT v8 (jT v15 v16 v17 v2)) v9 v10 v11 v12 v13 v14 v15 v16 v17 v18 v19 else none else none
def yj {γ:Type} (rec:Int->Bool->Int->Int->Bool->Bool->iQ->bK->gW->Int->Int->Int->Int->Bool->gW->bK->(List iQ)->(List lH)->bK->gW->Option γ) (kE:Bool->Int->Bool->Bool->iQ->bK->gW->Int->Int->Int->Int->Bool->gW->bK->(List iQ)->(List lH)->bK->gW->Option γ) (kR:bK->bK->(List iQ)->(List lH)->bK->gW->Option γ) (v0:Int) (v1:Bool) (v2 v3:Int) (v4 v5:Bool) (v6:iQ) (v7:bK) (v8:gW) (v9 v10 v11 v12:Int) (v13:Bool) (v14:gW) (v15:bK) (v16:List iQ) (v17:List lH) (v18:bK) (v19:gW):Option γ:=bif(iw v2 v0)then bif(bM (lV v17 v2) 0)then bif(gI v15 v2)then bif(eH (bT v8 [(bV v15 v2)]) 1)then rec v0 v1 (bU .i64 v2 1) v3 v4 v5 v6 v7 (bT v8 [(bV v15 v2)]) v9 v10 v11 v12 v13 v14 v15 v16 v17 v18 v19 else none else none else bif(gI v16 (ed .i64 (lV v17 v2) 1))then bz (Qb ((eG v16 v17 v2).1,((eG v16 v17 v2).2.1,((eG v16 v17 v2).2.2.1,((eG v16 v17 v2).2.2.2.1,((eG v16 v17 v2).2.2.2.2.1,())))))) fun y0=>bif y0.1 then bif(gI v15 v2)then bif(eH (bT v8 [(bV v15 v2)]) 1)then rec v0 v1 (bU .i64 v2 1) v3 v4 v5 v6 v7 (bT v8 [(bV v15 v2)]) v9 v10 v11 v12 v13 v14 v15 v16 v17 v18 v19 else none else none else bif(bM (eG v16 v17 v2).1 13)then bif(iw (ed .i64 (eG v16 v17 v2).2.2.1 (eG v16 v17 v2).2.1) 2)then bif(eH (bT v8 (bI [])) 1)then rec v0 v1 (eG v16 v17 v2).2.2.1 v3 v4 v5 v6 v7 (bT v8 (bI [])) v9 v10 v11 v12 v13 v14 v15 v16 v17 v18 v19 else none else bif(gI v15 (bU .i64 (eG v16 v17 v2).2.1 1))then bif(bM (iI v15 v16 v17 v2) 36)then bif(bM (iI v15 v16 v17 v2) 36)then mM v8 v15 v16 v17 v2 rec v0 v1 v3 v4 v5 v6 v7 v9 v10 v11 v12 v13 v14 v18 v19 else mO v15 v16 v17 v2 v8 rec v0 v1 v3 v4 v5 v6 v7 v9 v10 v11 v12 v13 v14 v18 v19 else bif(bM (iI v15 v16 v17 v2) 96)then bif(bM (iI v15 v16 v17 v2) 96)then mM v8 v15 v16 v17 v2 rec v0 v1 v3 v4 v5 v6 v7 v9 v10 v11 v12 v13 v14 v18 v19 else mO v15 v16 v17 v2 v8 rec v0 v1 v3 v4 v5 v6 v7 v9 v10 v11 v12 v13 v14 v18 v19 else bif(bM (iI v15 v16 v17 v2) 34)then bif(bM (iI v15 v16 v17 v2) 34)then mM v8 v15 v16 v17 v2 rec v0 v1 v3 v4 v5 v6 v7 v9 v10 v11 v12 v13 v14 v18 v19 else mO v15 v16 v17 v2 v8 rec v0 v1 v3 v4 v5 v6 v7 v9 v10 v11 v12 v13 v14 v18 v19 else bif(bM (iI v15 v16 v17 v2) 92)then mM v8 v15 v16 v17 v2 rec v0 v1 v3 v4 v5 v6 v7 v9 v10 v11 v12 v13 v14 v18 v19 else mO v15 v16 v17 v2 v8 rec v0 v1 v3 v4 v5 v6 v7 v9 v10 v11 v12 v13 v14 v18 v19 else none else bif(iw 0 (bC v8))then bif(eH (bT v19 (bI (ofBytes v8))) 1)then bif(fF (bC v15) (eG v16 v17 v2).2.1 (eG v16 v17 v2).2.2.1)then bif(eH (bT (bT v19 (bI (ofBytes v8))) (jT v15 v16 v17 v2)) 1)then rec v0 true (eG v16 v17 v2).2.2.1 v3 v4 v5 v6 v7 [] v9 v10 v11 v12 v13 v14 v15 v16 v17 v18 (bT (bT v19 (bI (ofBytes v8))) (jT v15 v16 v17 v2))else none else none else none else bif(fF (bC v15) (eG v16 v17 v2).2.1 (eG v16 v17 v2).2.2.1)then bif(eH (bT v19 (jT v15 v16 v17 v2)) 1)then rec v0 true (eG v16 v17 v2).2.2.1 v3 v4 v5 v6 v7 [] v9 v10 v11 v12 v13 v14 v15 v16 v17 v18 (bT v19 (jT v15 v16 v17 v2))else none else none else none else kE v1 v3 v4 v5 v6 v7 v8 v9 v10 v11 v12 v13 v14 v15 v16 v17 v18 v19
def kQ:Nat->Int->Bool->Int->Int->Bool->Bool->iQ->bK->gW->Int->Int->Int->Int->Bool->gW->bK->(List iQ)->(List lH)->bK->gW->Option (xW.den⊕xX.den)
 |0,_,_,_,_,_,_,_,_,_,_,_,_,_,_,_,_,_,_,_,_=>none
 |n+1,v0,v1,v2,v3,v4,v5,v6,v7,v8,v9,v10,v11,v12,v13,v14,v15,v16,v17,v18,v19=>yj (kQ n) (fun e0 e1 e2 e3 e4 e5 e6 e7 e8 e9 e10 e11 e12 e13 e14 e15 e16 e17=>some (.inl ((e0,()),((e1,e2,e3,e4,()),(e5,()),(),(),()),(e6,(e7,e8,e9,e10,e11,()),e12,(),(),(e13,e14,()),e15,(),(e16,()),e17,(),())))) (fun r0 r1 r2 r3 r4 r5=>some (.inr ((),((r0,()),(),(),()),((r1,r2,()),r3,(),(r4,()),r5,(),())))) v0 v1 v2 v3 v4 v5 v6 v7 v8 v9 v10 v11 v12 v13 v14 v15 v16 v17 v18 v19
def abM (n:Nat) (v:Bl.den):=kQ n v.1.1 v.1.2.1 v.1.2.2.1 v.2.1.1.1 v.2.1.1.2.1 v.2.1.1.2.2.1 v.2.1.1.2.2.2.1 v.2.1.2.1.1 v.2.2.1 v.2.2.2.1.1 v.2.2.2.1.2.1 v.2.2.2.1.2.2.1 v.2.2.2.1.2.2.2.1 v.2.2.2.1.2.2.2.2.1 v.2.2.2.2.1 v.2.2.2.2.2.2.2.1.1 v.2.2.2.2.2.2.2.1.2.1 v.2.2.2.2.2.2.2.2.1 v.2.2.2.2.2.2.2.2.2.2.1.1 v.2.2.2.2.2.2.2.2.2.2.2.1
noncomputable def Nl:dC:=fO Qs Bl xW xX (.exit 0) (abM bP) 12
def Bj:SQ:=⟨us [.u,.ptr 2000001 0,.ptr 3000002 0,.ptr 3000003 0,.fn 105 [(3000003,0),(3000002,0)],.v cu] 106,[us [.u,.u,.v .str,.ptr 1000003 0] 9,[.yld 1700008],[]],[.arr 3500003 (.int .u8),.box 3000003 86 [.slc 3500003],.box 3000002 164 [.yld 1700008],.box 2000011 163 [.v .str,.v Uc,.mpv 2000009],.mp 2000009 .i64 .i64,.box 2000001 111 [.ptr 2000011 0],.lp 1700008 191 (us [.u,.u,.v .str,.ptr 1000003 0] 9) [8] 4 0 none,.arr 1500003 (.int .u8),.box 1000003 108 [.slf 1000003,.slc 1500003]]⟩
def D9:SQ:=⟨us [.u,.u,.u,.u,.fn 105 [(3000003,0),(3000002,0)]] 107,[us [.u,.u,.v .str,.ptr 1000003 0] 9,[.yld 1700008],[]],[.arr 3500003 (.int .u8),.box 3000003 86 [.slc 3500003],.box 3000002 164 [.yld 1700008],.box 2000011 163 [.v .str,.v Uc,.mpv 2000009],.mp 2000009 .i64 .i64,.box 2000001 111 [.ptr 2000011 0],.lp 1700008 191 (us [.u,.u,.v .str,.ptr 1000003 0] 9) [8] 4 0 none,.arr 1500003 (.int .u8),.box 1000003 108 [.slf 1000003,.slc 1500003]]⟩
def Eg:SQ:=⟨us [] 112,[us [.u,.u,.v .str,.ptr 1000003 0] 9,[.yld 1700008],[]],[.box 2000011 163 [.v .str,.v Uc,.mpv 2000009],.mp 2000009 .i64 .i64,.box 2000001 111 [.ptr 2000011 0],.lp 1700008 191 (us [.u,.u,.v .str,.ptr 1000003 0] 9) [8] 4 0 none,.arr 1500003 (.int .u8),.box 1000003 108 [.slf 1000003,.slc 1500003]]⟩
def bW (v4:List iQ) (v5:List lH) (v0:Int):=dN v4 (0,(0,(0,(0,(false,()))))) (ed .i64 (lV v5 v0) 1)
def oM (v4:List iQ) (v5:List lH) (v0:Int):=aas ((bW v4 v5 v0).1,((bW v4 v5 v0).2.1,((bW v4 v5 v0).2.2.1,((bW v4 v5 v0).2.2.2.1,((bW v4 v5 v0).2.2.2.2.1,())))))
def jR (v3:bK) (v4:List iQ) (v5:List lH) (v0:Int):=sub v3 (bU .i64 (bW v4 v5 v0).2.1 1) (bW v4 v5 v0).2.2.1
def jS (v3:bK) (v4:List iQ) (v5:List lH) (v0:Int):=bI (sub v3 (bW v4 v5 v0).2.1 (bW v4 v5 v0).2.2.1)
def iy (v7 v2:gW):=bT v7 (bI (ofBytes v2))
def su {γ:Type} (v3:bK) (v4:List iQ) (v5:List lH) (v0:Int) (v2:gW) (rec:Int->bK->gW->bK->(List iQ)->(List lH)->bK->gW->Option γ) (v1 v6:bK) (v7:gW):Option γ:=bif(fF (bC v3) (bW v4 v5 v0).2.1 (bW v4 v5 v0).2.2.1)then bif(eH (bT v2 (jS v3 v4 v5 v0)) 1)then rec (bW v4 v5 v0).2.2.1 v1 (bT v2 (jS v3 v4 v5 v0)) v3 v4 v5 v6 v7 else none else none
def sD {γ:Type} (v4:List iQ) (v5:List lH) (v0:Int) (v3:bK) (v2 v7:gW) (rec:Int->bK->gW->bK->(List iQ)->(List lH)->bK->gW->Option γ) (v1 v6:bK):Option γ:=bif(bM (bW v4 v5 v0).1 4)then bz (oM v4 v5 v0) fun y1=>bif(fF (bC v3) y1.1 y1.2.1)then bif(gU (ofBytes v2) [])then bif(eH (bT v7 (bI (sub v3 y1.1 y1.2.1))) 1)then rec (bW v4 v5 v0).2.2.1 v1 [] v3 v4 v5 v6 (bT v7 (bI (sub v3 y1.1 y1.2.1)))else none else bif(eH (iy v7 v2) 1)then bif(eH (bT (iy v7 v2) (bI (sub v3 y1.1 y1.2.1))) 1)then rec (bW v4 v5 v0).2.2.1 v1 [] v3 v4 v5 v6 (bT (iy v7 v2) (bI (sub v3 y1.1 y1.2.1)))else none else none else none else bif(fF (bC v3) (bU .i64 (bW v4 v5 v0).2.1 1) (bW v4 v5 v0).2.2.1)then bif(!(gU (jR v3 v4 v5 v0) []))then bif(!(gU (jR v3 v4 v5 v0) [10]))then bif(gU (ofBytes v2) [])then bif(eH (bT v7 (bI (jR v3 v4 v5 v0))) 1)then rec (bW v4 v5 v0).2.2.1 v1 [] v3 v4 v5 v6 (bT v7 (bI (jR v3 v4 v5 v0)))else none else bif(eH (iy v7 v2) 1)then bif(eH (bT (iy v7 v2) (bI (jR v3 v4 v5 v0))) 1)then rec (bW v4 v5 v0).2.2.1 v1 [] v3 v4 v5 v6 (bT (iy v7 v2) (bI (jR v3 v4 v5 v0)))else none else none else rec (bW v4 v5 v0).2.2.1 v1 v2 v3 v4 v5 v6 v7 else rec (bW v4 v5 v0).2.2.1 v1 v2 v3 v4 v5 v6 v7 else none
def sF {γ:Type} (y2:xW.den⊕xX.den) (rec:Int->bK->gW->bK->(List iQ)->(List lH)->bK->gW->Option γ) (kR:bK->bK->(List iQ)->(List lH)->bK->gW->Option γ):Option γ:=dL y2 (fun a3=>bif(bM (bC a3.2.2.1) 0)then bif a3.1.1 then bif a3.2.1.1.2.2.1 then rec a3.2.1.1.1 a3.2.1.2.1.1 [] a3.2.2.2.2.2.2.2.1.1 a3.2.2.2.2.2.2.2.1.2.1 a3.2.2.2.2.2.2.2.2.1 a3.2.2.2.2.2.2.2.2.2.2.1.1 a3.2.2.2.2.2.2.2.2.2.2.2.1 else kR a3.2.1.2.1.1 a3.2.2.2.2.2.2.2.1.1 a3.2.2.2.2.2.2.2.1.2.1 a3.2.2.2.2.2.2.2.2.1 a3.2.2.2.2.2.2.2.2.2.2.1.1 a3.2.2.2.2.2.2.2.2.2.2.2.1 else bif(eH (bT a3.2.2.2.2.2.2.2.2.2.2.2.1 (bI (ofBytes a3.2.2.1))) 1)then bif a3.2.1.1.2.2.1 then rec a3.2.1.1.1 a3.2.1.2.1.1 [] a3.2.2.2.2.2.2.2.1.1 a3.2.2.2.2.2.2.2.1.2.1 a3.2.2.2.2.2.2.2.2.1 a3.2.2.2.2.2.2.2.2.2.2.1.1 (bT a3.2.2.2.2.2.2.2.2.2.2.2.1 (bI (ofBytes a3.2.2.1)))else kR a3.2.1.2.1.1 a3.2.2.2.2.2.2.2.1.1 a3.2.2.2.2.2.2.2.1.2.1 a3.2.2.2.2.2.2.2.2.1 a3.2.2.2.2.2.2.2.2.2.2.1.1 (bT a3.2.2.2.2.2.2.2.2.2.2.2.1 (bI (ofBytes a3.2.2.1)))else none else bif(eH (bT a3.2.2.2.2.2.2.2.2.2.2.2.1 (bI (ofBytes a3.2.2.1))) 1)then bif a3.2.1.1.2.2.1 then rec a3.2.1.1.1 a3.2.1.2.1.1 [] a3.2.2.2.2.2.2.2.1.1 a3.2.2.2.2.2.2.2.1.2.1 a3.2.2.2.2.2.2.2.2.1 a3.2.2.2.2.2.2.2.2.2.2.1.1 (bT a3.2.2.2.2.2.2.2.2.2.2.2.1 (bI (ofBytes a3.2.2.1)))else kR a3.2.1.2.1.1 a3.2.2.2.2.2.2.2.1.1 a3.2.2.2.2.2.2.2.1.2.1 a3.2.2.2.2.2.2.2.2.1 a3.2.2.2.2.2.2.2.2.2.2.1.1 (bT a3.2.2.2.2.2.2.2.2.2.2.2.1 (bI (ofBytes a3.2.2.1)))else none) (fun b3=>none)
def sG {γ:Type} (v4:List iQ) (v5:List lH) (v0:Int) (v2:gW) (v1 v3 v6:bK) (v7:gW) (rec:Int->bK->gW->bK->(List iQ)->(List lH)->bK->gW->Option γ) (kR:bK->bK->(List iQ)->(List lH)->bK->gW->Option γ):Option γ:=bif(bM (bW v4 v5 v0).1 5)then bif(gU (ofBytes v2) [])then bz (oM v4 v5 v0) fun y1=>bz (kQ bP y1.2.1 false y1.1 (bW v4 v5 v0).2.2.1 true true ((bW v4 v5 v0).1,((bW v4 v5 v0).2.1,((bW v4 v5 v0).2.2.1,((bW v4 v5 v0).2.2.2.1,((bW v4 v5 v0).2.2.2.2.1,()))))) v1 [] (bW v4 v5 v0).1 (bW v4 v5 v0).2.1 (bW v4 v5 v0).2.2.1 (bW v4 v5 v0).2.2.2.1 (bW v4 v5 v0).2.2.2.2.1 v2 v3 v4 v5 v6 v7) fun y2=>sF y2 rec kR else bif(eH (iy v7 v2) 1)then bz (oM v4 v5 v0) fun y1=>bz (kQ bP y1.2.1 false y1.1 (bW v4 v5 v0).2.2.1 true true ((bW v4 v5 v0).1,((bW v4 v5 v0).2.1,((bW v4 v5 v0).2.2.1,((bW v4 v5 v0).2.2.2.1,((bW v4 v5 v0).2.2.2.2.1,()))))) v1 [] (bW v4 v5 v0).1 (bW v4 v5 v0).2.1 (bW v4 v5 v0).2.2.1 (bW v4 v5 v0).2.2.2.1 (bW v4 v5 v0).2.2.2.2.1 v2 v3 v4 v5 v6 (iy v7 v2)) fun y2=>sF y2 rec kR else none else bif(gU (ofBytes v2) [])then bif(fF (bC v3) (bW v4 v5 v0).2.1 (bW v4 v5 v0).2.2.1)then bif(eH (bT v7 (jS v3 v4 v5 v0)) 1)then rec (bW v4 v5 v0).2.2.1 v1 [] v3 v4 v5 v6 (bT v7 (jS v3 v4 v5 v0))else none else none else bif(eH (iy v7 v2) 1)then bif(fF (bC v3) (bW v4 v5 v0).2.1 (bW v4 v5 v0).2.2.1)then bif(eH (bT (iy v7 v2) (jS v3 v4 v5 v0)) 1)then rec (bW v4 v5 v0).2.2.1 v1 [] v3 v4 v5 v6 (bT (iy v7 v2) (jS v3 v4 v5 v0))else none else none else none
def sH {γ:Type} (v4:List iQ) (v5:List lH) (v0:Int) (v3:bK) (v2 v7:gW) (rec:Int->bK->gW->bK->(List iQ)->(List lH)->bK->gW->Option γ) (v1 v6:bK) (kR:bK->bK->(List iQ)->(List lH)->bK->gW->Option γ):Option γ:=bif(bM (bW v4 v5 v0).1 13)then bif(bM (bW v4 v5 v0).1 13)then sD v4 v5 v0 v3 v2 v7 rec v1 v6 else sG v4 v5 v0 v2 v1 v3 v6 v7 rec kR else bif(bM (bW v4 v5 v0).1 4)then sD v4 v5 v0 v3 v2 v7 rec v1 v6 else sG v4 v5 v0 v2 v1 v3 v6 v7 rec kR
def yh {γ:Type} (rec:Int->bK->gW->bK->(List iQ)->(List lH)->bK->gW->Option γ) (kE:bK->gW->bK->(List iQ)->(List lH)->bK->gW->Option γ) (kR:bK->bK->(List iQ)->(List lH)->bK->gW->Option γ) (v0:Int) (v1:bK) (v2:gW) (v3:bK) (v4:List iQ) (v5:List lH) (v6:bK) (v7:gW):Option γ:=bif(iw v0 (bC v3))then bif(bM (lV v5 v0) 0)then bif(gI v3 v0)then bif(gU v3 v3)then bif(bM v0 v0)then bif(eH (bT v2 [(bV v3 v0)]) 1)then bif(gU v3 v3)then bif(bM v0 v0)then bif(gI v3 v0)then bif(bM (bV v3 v0) (bV v3 v0))then rec (bU .i64 v0 1) v1 (bT v2 [(bV v3 v0)]) v3 v4 v5 v6 v7 else none else none else none else none else none else none else none else none else bif(gI v4 (ed .i64 (lV v5 v0) 1))then bz (Qb ((bW v4 v5 v0).1,((bW v4 v5 v0).2.1,((bW v4 v5 v0).2.2.1,((bW v4 v5 v0).2.2.2.1,((bW v4 v5 v0).2.2.2.2.1,())))))) fun y0=>bif y0.1 then bif y0.1 then su v3 v4 v5 v0 v2 rec v1 v6 v7 else sH v4 v5 v0 v3 v2 v7 rec v1 v6 kR else bif(bM (bW v4 v5 v0).1 14)then su v3 v4 v5 v0 v2 rec v1 v6 v7 else sH v4 v5 v0 v3 v2 v7 rec v1 v6 kR else none else kE v1 v2 v3 v4 v5 v6 v7
def jd:Nat->Int->bK->gW->bK->(List iQ)->(List lH)->bK->gW->Option (D9.den⊕Eg.den)
 |0,_,_,_,_,_,_,_,_=>none
 |n+1,v0,v1,v2,v3,v4,v5,v6,v7=>yh (jd n) (fun e0 e1 e2 e3 e4 e5 e6=>some (.inl ((),((e0,()),(),(),()),(e1,(),(),(e2,e3,()),e4,(),(e5,()),e6,(),())))) (fun r0 r1 r2 r3 r4 r5=>some (.inr ((),((r0,()),(),(),()),((r1,r2,()),r3,(),(r4,()),r5,(),())))) v0 v1 v2 v3 v4 v5 v6 v7
def abL (n:Nat) (v:Bj.den):=jd n v.1.1 v.2.1.1.1 v.2.2.1 v.2.2.2.2.2.1.1 v.2.2.2.2.2.1.2.1 v.2.2.2.2.2.2.1 v.2.2.2.2.2.2.2.2.1.1 v.2.2.2.2.2.2.2.2.2.1
noncomputable def Nk:dC:=fO Qr Bj D9 Eg (.exit 0) (abL bP) 18
def agd (x0:bK):Option Zv:=bz (akh x0) fun y0=>bz (rq bP y0.1 (bC y0.1) 0 x0 [] x0 x0 y0.1 [] []) fun y1=>dL y1 (fun a2=>bz (jd bP 0 a2.2.1.1.2.1 [] a2.2.2.1.1 a2.2.2.1.2.1 a2.2.2.2.1 a2.2.1.1.2.1 a2.2.2.2.2.2.1) fun y3=>dL y3 (fun a4=>bif(gU (ofBytes a4.2.2.1) [])then bif(bM (bC a4.2.2.2.2.2.2.2.2.2.1) (bC a4.2.2.2.2.2.2.2.2.2.1))then some ((ofBytes a4.2.2.2.2.2.2.2.2.2.1),())else none else bif(eH (bT a4.2.2.2.2.2.2.2.2.2.1 (bI (ofBytes a4.2.2.1))) 1)then bif(bM (bC (bT a4.2.2.2.2.2.2.2.2.2.1 (bI (ofBytes a4.2.2.1)))) (bC (bT a4.2.2.2.2.2.2.2.2.2.1 (bI (ofBytes a4.2.2.1)))))then some ((ofBytes (bT a4.2.2.2.2.2.2.2.2.2.1 (bI (ofBytes a4.2.2.1)))),())else none else none) (fun b4=>bif(bM (bC b4.2.2.2.2.2.2.1) (bC b4.2.2.2.2.2.2.1))then some ((ofBytes b4.2.2.2.2.2.2.1),())else none)) (fun b2=>none)
def aq8:Sum:=⟨[.str],tzF,fun x=>agd x.1⟩
noncomputable def Di:Env:=eu prog tt [(68,aih),(107,afo),(153,afr)] [(69,3,UT),(104,4,Qr),(109,5,Qs),(191,500004,at1),(191,600002,atz),(191,600004,atA),(191,600005,atB),(104,600005,aa6),(104,600016,Xg),(104,600017,Xh),(104,600019,Xi),(104,600010,Xf),(104,600020,Xj),(105,600003,aa7),(109,600006,aa8),(109,600016,Xk),(109,600007,aa9),(109,600009,aba),(109,600020,Xl),(71,600001,ad8)] [(69,3,QG),(109,5,Nl),(104,4,Nk)] [191]
def Ru {γ:Type} (a:Fz.den->Option γ) (b:Ib.den->Option γ) (c:Ih.den->Option γ) (v:Fz.den):Option γ:=BP (fun v0 v1 v2 v3 v4 v5 v6 v7 v8 v9=>a ((v0,v1,v2,()),((v3,v4,v5,()),(),()),((v6,v7,()),v8,(),v9,()))) (fun e0 e1 e2 e3 e4 e5 e6=>b ((),((e0,e1,e2,()),(),()),((e3,e4,()),e5,(),e6,()))) (fun r0 r1 r2 r3 r4 r5=>c ((),((r0,()),(),(),()),((r1,r2,()),r3,(),(r4,()),r5,(),()))) v.1.1 v.1.2.1 v.1.2.2.1 v.2.1.1.1 v.2.1.1.2.1 v.2.1.1.2.2.1 v.2.2.1.1 v.2.2.1.2.1 v.2.2.2.1 v.2.2.2.2.2.1
theorem aeF:eQ Di 69 Un QG:=oG (Ru) (h2:=by intros;simp only[Ru,BP,dm,dn,bu,dh,dw])
def NL {γ:Type} (a:Bl.den->Option γ) (b:xW.den->Option γ) (c:xX.den->Option γ) (v:Bl.den):Option γ:=yj (fun v0 v1 v2 v3 v4 v5 v6 v7 v8 v9 v10 v11 v12 v13 v14 v15 v16 v17 v18 v19=>a ((v0,v1,v2,()),((v3,v4,v5,v6,()),(v7,()),(),(),()),(v8,(v9,v10,v11,v12,v13,()),v14,(),(),(v15,v16,()),v17,(),(v18,()),v19,(),()))) (fun e0 e1 e2 e3 e4 e5 e6 e7 e8 e9 e10 e11 e12 e13 e14 e15 e16 e17=>b ((e0,()),((e1,e2,e3,e4,()),(e5,()),(),(),()),(e6,(e7,e8,e9,e10,e11,()),e12,(),(),(e13,e14,()),e15,(),(e16,()),e17,(),()))) (fun r0 r1 r2 r3 r4 r5=>c ((),((r0,()),(),(),()),((r1,r2,()),r3,(),(r4,()),r5,(),()))) v.1.1 v.1.2.1 v.1.2.2.1 v.2.1.1.1 v.2.1.1.2.1 v.2.1.1.2.2.1 v.2.1.1.2.2.2.1 v.2.1.2.1.1 v.2.2.1 v.2.2.2.1.1 v.2.2.2.1.2.1 v.2.2.2.1.2.2.1 v.2.2.2.1.2.2.2.1 v.2.2.2.1.2.2.2.2.1 v.2.2.2.2.1 v.2.2.2.2.2.2.2.1.1 v.2.2.2.2.2.2.2.1.2.1 v.2.2.2.2.2.2.2.2.1 v.2.2.2.2.2.2.2.2.2.2.1.1 v.2.2.2.2.2.2.2.2.2.2.2.1
theorem abY:eQ Di 109 PE Nl:=oG (NL) (h2:=by intros;simp only[NL,yj,dm,dn,bu,dh,dw,eG,iI,jT,mM,mO])
def NK {γ:Type} (a:Bj.den->Option γ) (b:D9.den->Option γ) (c:Eg.den->Option γ) (v:Bj.den):Option γ:=yh (fun v0 v1 v2 v3 v4 v5 v6 v7=>a ((v0,()),((v1,()),(),(),()),(v2,(),(),(v3,v4,()),v5,(),(v6,()),v7,(),()))) (fun e0 e1 e2 e3 e4 e5 e6=>b ((),((e0,()),(),(),()),(e1,(),(),(e2,e3,()),e4,(),(e5,()),e6,(),()))) (fun r0 r1 r2 r3 r4 r5=>c ((),((r0,()),(),(),()),((r1,r2,()),r3,(),(r4,()),r5,(),()))) v.1.1 v.2.1.1.1 v.2.2.1 v.2.2.2.2.2.1.1 v.2.2.2.2.2.1.2.1 v.2.2.2.2.2.2.1 v.2.2.2.2.2.2.2.2.1.1 v.2.2.2.2.2.2.2.2.2.1
theorem abX:eQ Di 104 PD Nk:=oG (NK) (h2:=by intros;simp only[NK,yh,dm,dn,bu,dh,dw,bW,oM,jR,jS,iy,su,sD,sF,sG,sH])
theorem azd:jf V5=[]:=by kernel_rfl
theorem aAw:jA V5=[(cA (cA (cB (cA (cB (cB (V5)))))),cB (cA (cB (cA (cB (cB (V5)))))))]:=by kernel_rfl
theorem azt:dO Di 191 V5:=pU V5 (by rw[aAw];exact(aD (fun _=>(show qJ 191 4=some (cA (cA (cB (cA (cB (cB (V5)))))),cB (cA (cB (cA (cB (cB (V5))))))) by kernel_rfl)) aN)) (by rw[azd];exact aN)
theorem akB:dO Di 69 V6:=wK [Un] (aD (fM (aeF)) aN)
theorem aep:dO Di 104 Pm:=wK [PD] (aD (fM (abX)) aN)
theorem aeq:dO Di 109 Pn:=wK [PE] (aD (fM (abY)) aN)
theorem ajo:dB Di:=eB (aD Su (aD VF (aD VI aN))) [191,69,104,109] (aD ⟨f191,V5,by kernel_rfl,by kernel_rfl,azt⟩ (aD ⟨f69,V6,by kernel_rfl,by kernel_rfl,akB⟩ (aD ⟨f104,Pm,by kernel_rfl,by kernel_rfl,aep⟩ (aD ⟨f109,Pn,by kernel_rfl,by kernel_rfl,aeq⟩ aN))))
theorem aly:dU prog 191 aq8:=sA ajo
def af1 (x0:bK) (x1:Int) (x2:Int×Zu×oW):Option ((Int×Zu×oW)×Unit):=bz (qQ x2.2.1) fun y0=>bif(bM x1 1)then some ((x2.1,(y0.1,(false,()))),())else bif(bM x1 2)then some ((0,(y0.1,((iw 0 (bC y0.1)),()))),())else bif(bM x1 4)then bz (Je x0) fun y1=>bif(bM y1.1 4)then some ((y1.1,(y0.1,(false,()))),())else bif(bM y1.1 5)then some ((y1.1,(y0.1,(false,()))),())else some ((0,(y0.1,(false,()))),())else bif(bM x1 6)then bif(!(bM x2.1 0))then bz (agd x0) fun y1=>bif(gU x0 x0)then bif(bM x2.1 x2.1)then bif(Oc (bM x2.1 5) (bM x2.1 5))then bif(((gU x0 x0)&&true)&&((gU y1.1 y1.1)&&true))then bif(eH (bT y0.1 [(y1.1,((bM x2.1 5),()))]) 24)then bif(gU x0 x0)then bif(bM x2.1 x2.1)then bif(Oc (bM x2.1 5) (bM x2.1 5))then bif((gU y1.1 y1.1)&&((Oc (bM x2.1 5) (bM x2.1 5))&&true))then some ((0,((bT y0.1 [(y1.1,((bM x2.1 5),()))]),(false,()))),())else none else none else none else none else none else none else none else none else none else some ((0,(y0.1,(false,()))),())else some ((0,(y0.1,(false,()))),())
def aqS:Sum:=⟨[.str,cu,.pair cu tyJ],[(.pair cu tyJ,false)],fun x=>af1 x.1 x.2.1 x.2.2.1⟩
noncomputable def axR:Env:=fZ prog tt 147 [(183,yw),(116,RZ),(191,aq8)] [] []
theorem ai2:dB axR:=eA f147 (aD wZ (aD FQ (aD aly aN)))
theorem ali:dU prog 147 aqS:=sA ai2
def WJ (x2:Int×Zu×oW):Option (qh×(Int×Zu×oW)×Unit):=bif((bM x2.1 x2.1)&&((PW tyG x2.2.1 x2.2.1)&&((Oc x2.2.2.1 x2.2.2.1)&&true)))then some ((0,(0,(0,(false,())))),((x2.1,(x2.2.1,(x2.2.2.1,()))),()))else none
def WL (x0:bK) (x1:Int) (x2:Int×Zu×oW):Option (qh×(Int×Zu×oW)×Unit):=bz (af0 x0 x1) fun y0=>bif(fF (bC x0) y0.1.2.1 y0.1.2.2.1)then bz (af1 (sub x0 y0.1.2.1 y0.1.2.2.1) y0.1.1 (x2.1,(x2.2.1,(x2.2.2.1,())))) fun y1=>bif((bM y0.1.1 y0.1.1)&&((bM y0.1.2.1 y0.1.2.1)&&((bM y0.1.2.2.1 y0.1.2.2.1)&&((Oc y0.1.2.2.2.1 y0.1.2.2.2.1)&&true))))then bif(gU x0 x0)then bif(bM y0.1.2.1 y0.1.2.1)then bif(bM y0.1.2.2.1 y0.1.2.2.1)then bif(gU x0 x0)then bif(bM y0.1.2.1 y0.1.2.1)then bif(bM y0.1.2.2.1 y0.1.2.2.1)then bif(fF (bC x0) y0.1.2.1 y0.1.2.2.1)then bif(gU (sub x0 y0.1.2.1 y0.1.2.2.1) (sub x0 y0.1.2.1 y0.1.2.2.1))then bif(bM y0.1.1 y0.1.1)then bif((bM x2.1 x2.1)&&((PW tyG x2.2.1 x2.2.1)&&((Oc x2.2.2.1 x2.2.2.1)&&true)))then some ((y0.1.1,(y0.1.2.1,(y0.1.2.2.1,(y0.1.2.2.2.1,())))),((y1.1.1,(y1.1.2.1,(y1.1.2.2.1,()))),()))else none else none else none else none else none else none else none else none else none else none else none else none
def aao (x0:bK) (x1:Int) (x2:Int×Zu×oW):Option (qh×(Int×Zu×oW)×Unit):=bif(iw x1 0)then WJ x2 else bif(leI (bC x0) x1)then WJ x2 else bif x2.2.2.1 then bif(iw 0 (bC x2.2.1))then bz (aoj x0 x1 (x2.1,(x2.2.1,(x2.2.2.1,())))) fun y0=>some ((y0.1.1,(y0.1.2.1,(y0.1.2.2.1,(y0.1.2.2.2.1,())))),((y0.2.1.1,(y0.2.1.2.1,(y0.2.1.2.2.1,()))),()))else WL x0 x1 x2 else WL x0 x1 x2
def afn:Sum:=⟨[.str,cu,.pair cu tyJ],tzG,fun x=>aao x.1 x.2.1 x.2.2.1⟩
noncomputable def axF:Env:=fZ prog tt 100 [(145,aqQ),(146,aqR),(147,aqS)] [] []
theorem aiH:dB axF:=eA f100 (aD alg (aD alh (aD ali aN)))
theorem VE:dU prog 100 afn:=sA aiH
noncomputable def b42:Code:=(f42.body).getD .skip
noncomputable def V9:Code:=(f117.body).getD .skip
noncomputable def Us:Code:=cA (cA (cB (cB (cB (V9)))))
def UW:dM:=⟨[0,1,3,4,5,93000003],[(100000501,.pair (.list .unit) (.pair .unit tyG)),(300000301,.pair (.list .unit) (.pair .unit tyG))],[],[],[],[]⟩
def ay9:dM:=⟨[2,3,4,5],[],[],[],[],[]⟩
def ayZ:dM:=⟨[0,2,3,4,5],[],[],[],[],[]⟩
def aef:dM:=⟨[0,1,3,4],[],[],[],[],[]⟩
def FD:SQ:=⟨us [.yld 1700010,.ptr 2000001 0,.u,.ptr 3000003 0,.ptr 3000004 0,.v cu] 18,[us [.u,.u,.nils,.ptr 1000003 0,.ptr 1000004 0,.ptr 1000005 0] 13,[.yld 1700010],[]],[.box 3000004 49 [.v cu,.v cu,.v cu,.v .bool],.box 3000003 79 [.v cu,.v (.list tyG),.v .bool],.box 2000001 9 [.v .str],.lp 1700010 42 (us [.u,.u,.nils,.ptr 1000003 0,.ptr 1000004 0,.ptr 1000005 0] 13) [10,11] 6 0 none,.arr 1500004 SS,.box 1000005 79 [.v cu,.v (.list tyG),.v .bool],.box 1000004 50 [.slc 1500004],.box 1000003 79 [.v cu,.nils,.v .bool]]⟩
def Ic:SQ:=⟨us [] 24,[us [.u,.u,.nils,.ptr 1000003 0,.ptr 1000004 0,.ptr 1000005 0] 13,[.yld 1700010],[]],[.box 2000001 9 [.v .str],.lp 1700010 42 (us [.u,.u,.nils,.ptr 1000003 0,.ptr 1000004 0,.ptr 1000005 0] 13) [10,11] 6 0 none,.arr 1500004 SS,.box 1000005 79 [.v cu,.v (.list tyG),.v .bool],.box 1000004 50 [.slc 1500004],.box 1000003 79 [.v cu,.nils,.v .bool]]⟩
def Ii:SQ:=⟨us [] 24,[us [.u,.u,.nils,.ptr 1000003 0,.ptr 1000004 0,.ptr 1000005 0] 13,[.yld 1700010],[]],[]⟩
def BU {γ:Type} (rec:Int->Int->Int->Int->Bool->Int->Zu->Bool->bK->(List qh)->Int->Zu->Bool->Int->Bool->Option γ) (kE:bK->(List qh)->Int->Zu->Bool->Int->Bool->Option γ) (kR:Option γ) (v0 v1 v2 v3:Int) (v4:Bool) (v5:Int) (v6:Zu) (v7:Bool) (v8:bK) (v9:List qh) (v10:Int) (v11:Zu) (v12:Bool) (v13:Int) (v14:Bool):Option γ:=bif(iw v0 (bC v8))then bz (aao v8 v0 (v5,(v6,(v7,())))) fun y0=>bif((bM y0.2.1.1 y0.2.1.1)&&((PW tyG y0.2.1.2.1 y0.2.1.2.1)&&((Oc y0.2.1.2.2.1 y0.2.1.2.2.1)&&true)))then bif(eH (bT v9 [(y0.1.1,(y0.1.2.1,(y0.1.2.2.1,(y0.1.2.2.2.1,()))))]) 32)then bif((bM y0.1.1 y0.1.1)&&((bM y0.1.2.1 y0.1.2.1)&&((bM y0.1.2.2.1 y0.1.2.2.1)&&((Oc y0.1.2.2.2.1 y0.1.2.2.2.1)&&true))))then bif((bM y0.2.1.1 y0.2.1.1)&&((PW tyG y0.2.1.2.1 y0.2.1.2.1)&&((Oc y0.2.1.2.2.1 y0.2.1.2.2.1)&&true)))then bif((bM y0.2.1.1 y0.2.1.1)&&((PW tyG y0.2.1.2.1 y0.2.1.2.1)&&((Oc y0.2.1.2.2.1 y0.2.1.2.2.1)&&true)))then rec y0.1.2.2.1 y0.1.1 y0.1.2.1 y0.1.2.2.1 y0.1.2.2.2.1 y0.2.1.1 y0.2.1.2.1 y0.2.1.2.2.1 v8 (bT v9 [(y0.1.1,(y0.1.2.1,(y0.1.2.2.1,(y0.1.2.2.2.1,()))))]) y0.2.1.1 y0.2.1.2.1 y0.2.1.2.2.1 v13 v14 else none else none else none else none else none else kE v8 v9 v10 v11 v12 v13 v14
def ru:Nat->Int->Int->Int->Int->Bool->Int->Zu->Bool->bK->(List qh)->Int->Zu->Bool->Int->Bool->Option (Ic.den⊕Ii.den)
 |0,_,_,_,_,_,_,_,_,_,_,_,_,_,_,_=>none
 |n+1,v0,v1,v2,v3,v4,v5,v6,v7,v8,v9,v10,v11,v12,v13,v14=>BU (ru n) (fun e0 e1 e2 e3 e4 e5 e6=>some (.inl ((),((),(),(),()),((e0,()),(),e1,(e2,e3,e4,()),(),(e5,e6,()),())))) (some (.inr ((),((),(),(),()),()))) v0 v1 v2 v3 v4 v5 v6 v7 v8 v9 v10 v11 v12 v13 v14
def aeB (n:Nat) (v:FD.den):=ru n v.1.1 v.2.2.1.1 v.2.2.1.2.1 v.2.2.1.2.2.1 v.2.2.1.2.2.2.1 v.2.2.2.1.1 v.2.2.2.1.2.1 v.2.2.2.1.2.2.1 v.2.2.2.2.1.1 v.2.2.2.2.2.2.1 v.2.2.2.2.2.2.2.1.1 v.2.2.2.2.2.2.2.1.2.1 v.2.2.2.2.2.2.2.1.2.2.1 v.2.2.2.2.2.2.2.2.2.1.1 v.2.2.2.2.2.2.2.2.2.1.2.1
noncomputable def QJ:dC:=fO UW FD Ic Ii (.exit 0) (aeB bP) 6
def aoo (x0:bK):Option ((List qh)×(Int×Zu×oW)×Unit):=bz (ru bP 0 0 0 0 false 0 [] false x0 [] 0 [] false 0 false) fun y0=>dL y0 (fun a1=>some (a1.2.2.2.2.1,((a1.2.2.2.2.2.1.1,(a1.2.2.2.2.2.1.2.1,(a1.2.2.2.2.2.1.2.2.1,()))),()))) (fun b1=>none)
def arG:Sum:=⟨[.str],[(.list SS,false),(.pair cu tyJ,false)],fun x=>aoo x.1⟩
noncomputable def afQ:Env:=eu prog tt [(100,afn)] [(117,3,UW),(42,500006,ay9),(42,600003,ayZ),(117,600006,aef)] [(117,3,QJ)] [42]
def Ry {γ:Type} (a:FD.den->Option γ) (b:Ic.den->Option γ) (c:Ii.den->Option γ) (v:FD.den):Option γ:=BU (fun v0 v1 v2 v3 v4 v5 v6 v7 v8 v9 v10 v11 v12 v13 v14=>a ((v0,()),((),(),(),()),((v1,v2,v3,v4,()),(v5,v6,v7,()),(v8,()),(),v9,(v10,v11,v12,()),(),(v13,v14,()),()))) (fun e0 e1 e2 e3 e4 e5 e6=>b ((),((),(),(),()),((e0,()),(),e1,(e2,e3,e4,()),(),(e5,e6,()),()))) (c ((),((),(),(),()),())) v.1.1 v.2.2.1.1 v.2.2.1.2.1 v.2.2.1.2.2.1 v.2.2.1.2.2.2.1 v.2.2.2.1.1 v.2.2.2.1.2.1 v.2.2.2.1.2.2.1 v.2.2.2.2.1.1 v.2.2.2.2.2.2.1 v.2.2.2.2.2.2.2.1.1 v.2.2.2.2.2.2.2.1.2.1 v.2.2.2.2.2.2.2.1.2.2.1 v.2.2.2.2.2.2.2.2.2.1.1 v.2.2.2.2.2.2.2.2.2.1.2.1
theorem aeI:eQ afQ 117 Us QJ:=oG (Ry) (h2:=by intros;simp only[Ry,BU,dm,dn,bu,dh,dw])
theorem aCs:jf b42=[]:=by kernel_rfl
theorem aCY:jA b42=[(cA (cA (cB (cA (cB (cB (cB (b42))))))),cB (cA (cB (cA (cB (cB (cB (b42))))))))]:=by kernel_rfl
theorem aCG:dO afQ 42 b42:=pU b42 (by rw[aCY];exact(aD (fun _=>(show qJ 42 6=some (cA (cA (cB (cA (cB (cB (cB (b42))))))),cB (cA (cB (cA (cB (cB (cB (b42)))))))) by kernel_rfl)) aN)) (by rw[aCs];exact aN)
theorem akE:dO afQ 117 V9:=wK [Us] (aD (fM (aeI)) aN)
theorem anc:dB afQ:=eB (aD VE aN) [42,117] (aD ⟨f42,b42,by kernel_rfl,by kernel_rfl,aCG⟩ (aD ⟨f117,V9,by kernel_rfl,by kernel_rfl,akE⟩ aN))
theorem acN:dU prog 42 arG:=sA anc
def af5 (x0:bK) (x1:qh):Option Zv:=bif(iw x1.2.1 0)then some ([],())else bif(iw x1.2.2.1 x1.2.1)then some ([],())else bif(iw (bC x0) x1.2.2.1)then some ([],())else bif(fF (bC x0) x1.2.1 x1.2.2.1)then some ((sub x0 x1.2.1 x1.2.2.1),())else none
def aqV:Sum:=⟨[.str,SS],tzF,fun x=>af5 x.1 x.2.1⟩
noncomputable def axW:Env:=fZ prog tt 156 [] [] []
theorem ai7:dB axW:=eA f156 aN
theorem alm:dU prog 156 aqV:=sA ai7
noncomputable def aA0:Code:=(f112.body).getD .skip
noncomputable def al9:Code:=cA (cA (cB (cA (cB (aA0)))))
def aoI:dM:=⟨[0,4,7,8,9,100002],[(4,tyD)],[4],[],[4],[]⟩
def XH:SP:=⟨us [.v .str,.u,.u,.u,.slc 1800004,.u,.u,.v (.list SS),.v cu,.v cu] 42,[.arr 1800004 tyD]⟩
def X4:SP:=⟨us [.u,.u,.u,.u,.slc 1800004] 47,[.arr 1800004 tyD]⟩
def Yp:SP:=⟨us [.u,.u,.u,.u,.v uu] 47,[]⟩
def dX (v1:List qh) (v3:Int):=dN v1 (0,(0,(0,(false,())))) v3
def pX (v1:List qh) (v3:Int):=bM (dX v1 v3).2.2.1 (dX v1 v3).2.2.1
def pY (v1:List qh) (v3:Int):=bM (dX v1 v3).2.1 (dX v1 v3).2.1
def vW {γ:Type} (v0:bK) (v1:List qh) (v3:Int) (v4:List gq) (rec:bK->(List qh)->Int->Int->(List gq)->Option γ) (v2:Int):Option γ:=bz (af5 v0 ((dX v1 v3).1,((dX v1 v3).2.1,((dX v1 v3).2.2.1,((dX v1 v3).2.2.2.1,()))))) fun y0=>bif(bM (dX v1 v3).1 (dX v1 v3).1)then bif(gU v0 v0)then bif((bM (dX v1 v3).1 (dX v1 v3).1)&&((pY v1 v3)&&((pX v1 v3)&&((Oc (dX v1 v3).2.2.2.1 (dX v1 v3).2.2.2.1)&&true))))then bif(pY v1 v3)then bif(pX v1 v3)then bif(((gU v0 v0)&&(((bM (dX v1 v3).1 (dX v1 v3).1)&&((pY v1 v3)&&((pX v1 v3)&&((Oc (dX v1 v3).2.2.2.1 (dX v1 v3).2.2.2.1)&&true))))&&true))&&((gU y0.1 y0.1)&&true))then bif(eH (bT v4 [((dX v1 v3).1,(y0.1,((dX v1 v3).2.1,((dX v1 v3).2.2.1,()))))]) 40)then bif(bM (dX v1 v3).1 (dX v1 v3).1)then bif(gU v0 v0)then bif((bM (dX v1 v3).1 (dX v1 v3).1)&&((pY v1 v3)&&((pX v1 v3)&&((Oc (dX v1 v3).2.2.2.1 (dX v1 v3).2.2.2.1)&&true))))then bif(pY v1 v3)then bif(pX v1 v3)then bif((bM (dX v1 v3).1 (dX v1 v3).1)&&((gU y0.1 y0.1)&&((pY v1 v3)&&((pX v1 v3)&&true))))then rec v0 v1 v2 (bU .i64 v3 1) (bT v4 [((dX v1 v3).1,(y0.1,((dX v1 v3).2.1,((dX v1 v3).2.2.1,()))))])else none else none else none else none else none else none else none else none else none else none else none else none else none
def OE {γ:Type} (rec:bK->(List qh)->Int->Int->(List gq)->Option γ) (kE kR:(List gq)->Option γ) (v0:bK) (v1:List qh) (v2 v3:Int) (v4:List gq):Option γ:=bif(iw v3 v2)then bif(gI v1 v3)then bif(iw (dX v1 v3).2.1 0)then rec v0 v1 v2 (bU .i64 v3 1) v4 else bif(iw (dX v1 v3).2.2.1 (dX v1 v3).2.1)then rec v0 v1 v2 (bU .i64 v3 1) v4 else bif(iw (bC v0) (dX v1 v3).2.2.1)then rec v0 v1 v2 (bU .i64 v3 1) v4 else bif(bM (dX v1 v3).1 4)then bif(bM (dX v1 v3).1 4)then vW v0 v1 v3 v4 rec v2 else rec v0 v1 v2 (bU .i64 v3 1) v4 else bif(bM (dX v1 v3).1 5)then bif(bM (dX v1 v3).1 5)then vW v0 v1 v3 v4 rec v2 else rec v0 v1 v2 (bU .i64 v3 1) v4 else bif(bM (dX v1 v3).1 6)then bif(bM (dX v1 v3).1 6)then vW v0 v1 v3 v4 rec v2 else rec v0 v1 v2 (bU .i64 v3 1) v4 else bif(bM (dX v1 v3).1 2)then vW v0 v1 v3 v4 rec v2 else rec v0 v1 v2 (bU .i64 v3 1) v4 else none else kE v4
def xO:Nat->bK->(List qh)->Int->Int->(List gq)->Option (X4.den⊕Yp.den)
 |0,_,_,_,_,_=>none
 |n+1,v0,v1,v2,v3,v4=>OE (xO n) (fun e0=>some (.inl ((),(e0,())))) (fun r0=>some (.inr ((r0,()),()))) v0 v1 v2 v3 v4
def aud (n:Nat) (v:XH.den):=xO n v.1.1 v.1.2.1 v.1.2.2.1 v.1.2.2.2.1 v.2.1
noncomputable def agI:dC:=iD aoI XH X4 Yp (.exit 0) (aud bP) 6
def UG (x0:bK) (x1:List qh):Option ((List gq)×Unit):=bz (xO bP x0 x1 (bC x1) 0 []) fun y0=>dL y0 (fun a1=>some (a1.2.1,())) (fun b1=>none)
def aqF:Sum:=⟨[.str,.list SS],[(.list tyD,true)],fun x=>UG x.1 x.2.1⟩
noncomputable def adp:Env:=fZ prog tt 112 [(156,aqV)] [(2,aoI)] [(2,agI)]
def ahC {γ:Type} (a:XH.den->Option γ) (b:X4.den->Option γ) (c:Yp.den->Option γ) (v:XH.den):Option γ:=OE (fun v0 v1 v2 v3 v4=>a ((v0,v1,v2,v3,()),(v4,()))) (fun e0=>b ((),(e0,()))) (fun r0=>c ((r0,()),())) v.1.1 v.1.2.1 v.1.2.2.1 v.1.2.2.2.1 v.2.1
theorem auB:eQ adp 112 al9 agI:=QF (ahC) (h2:=by intros;simp only[ahC,OE,dm,dn,bu,dh,dw,dX,pX,pY,vW])
theorem azh:dO adp 112 aA0:=wK [al9] (aD (fM (auB)) aN)
theorem aiN:dB adp:=eA f112 (aD alm aN) (azh)
theorem ak7:dU prog 112 aqF:=sA aiN
end
end Go.Proofs.YtfmikaahgehndaaGreatDoor
