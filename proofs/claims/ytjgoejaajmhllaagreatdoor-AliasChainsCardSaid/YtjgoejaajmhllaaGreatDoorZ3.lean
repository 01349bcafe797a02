/- Parts of the proof, joined and shortened by a program: the plain machine, the functions as it prints them, and the mathematics over them. -/
import Derived.ChangeArms
import Derived.WideShapes
import Derived.Test.YtjgoejaajmhllaaGreatDoorProg
import Derived.Shelf.Strings.Builder1
import Derived.Ground.NamesProg
import Derived.Shelf.Strings.Replace
import Derived.Test.YtjgoejaajmhllaaGreatDoorZ1
import Derived.Test.YtjgoejaajmhllaaGreatDoorZ2
set_option linter.unusedVariables false
set_option linter.unusedSimpArgs false
set_option maxRecDepth 100000
set_option maxHeartbeats 4000000
namespace Go.Proofs.YtjgoejaajmhllaaGreatDoor
section
open Option renaming some → a6, none → a7
open List renaming mem_cons_of_mem → ai, mem_cons_self → az
open Nat renaming eq_of_beq_eq_true → ag
open Go.RowKit
def ao0:List (FuncId×Sum)->FuncId->Option Sum
 |[],_=>a7
 |e::l,g=>bif Nat.beq g e.1 then a6 e.2 else ao0 l g
theorem Xu {P:Program}: ∀(l:List (FuncId×Sum)),(∀e∈l,dE P e.1 e.2)-> ∀g s,ao0 l g=a6 s->dE P g s
 |[],_,g,s,h=>by cases h
 |e::l,d,g,s,h=>by
  simp only[ao0]at h;rw[cond_eq_ite]at h;split at h
  .simp_all
  .exact Xu l (fun e f=>d e (ai _ f)) g s h
def aDH (f:FuncId) (l:List (Nat×dZ)) (g:FuncId) (id:Nat):Option dZ:=cond (Nat.beq g f) ((l.find? fun e=>Nat.beq id e.1).map (·.2)) a7
def axw (f:FuncId) (l:List (Nat×dm)) (g:FuncId) (id:Nat):Option dm:=
 bif Nat.beq g f then(match l.find? fun e=>Nat.beq id e.1 with|some e=>a6 e.2|none=>a7)else a7
theorem ab9 {f g:FuncId} (l:List (Nat×dm)) (h:g≠f) (id:Nat):axw f l g id=a7:=by
 grind [ag,axw]
def aAh:FuncId:=128
def Ee (g:FuncId):Bool:=Nat.beq g aAh&& !Nat.beq aAh 1000000
def aAl:List (Nat×Nat×Nat):=[(1000000,2,5)]
def AP (t o n:Nat):Bool:=aAl.any fun e=>Nat.blt e.1 900000&&(Nat.beq e.1 t&&(Nat.beq e.2.1 o&&Nat.beq e.2.2 n))
def ah3:FuncId:=27
def Ef (g:FuncId):Bool:=Nat.beq g ah3&& !Nat.beq ah3 1000000
def aiC:List (FuncId×fP)->FuncId->Option fP
 |[],_=>a7
 |e::l,g=>bif Nat.beq g e.1 then a6 e.2 else aiC l g
theorem LX {P:Program}: ∀(l:List (FuncId×fP)),(∀e∈l,dM P e.1 e.2)-> ∀g s,aiC l g=a6 s->dM P g s
 |[],_,g,s,h=>by cases h
 |e::l,d,g,s,h=>by
  simp only[aiC]at h;cases hb:Nat.beq g e.1 with
  |true=>
   simp_all
  |false=>
   rw[hb]at h;exact LX l (fun e f=>d e (ai _ f)) g s h
def iE (P:Program) (T:TT) (f:FuncId) (sg:List (FuncId×Sum)) (kp:List (Nat×dZ)) (lp:List (Nat×dm)) (sb:List (FuncId×fP):=[]):Env:=
 {P:=P,T:=T,cl:=false,kp:=aDH f kp,sg:=ao0 sg,lp:=axw f lp,bf:=Ee,em:=AP,il:=Ef,sb:=aiC sb}
theorem alC {P:Program} {T:TT} (hT:TOk P T) (h:P.follows .mixedOrders=true) (i:Gf P) {f:FuncId} {sg:List (FuncId×Sum)} {kp:List (Nat×dZ)} {lp:List (Nat×dm)} {sb:List (FuncId×fP)}
  (j: ∀e∈sg,dE P e.1 e.2) {fn:Func} {c:Code} (hf:P.funcs[f]? =a6 fn) (hb:fn.body=a6 c) (hl:dI (iE P T f sg kp lp sb) f c) (l: ∀E,qi P E->aaQ E) (m: ∀g,(Ee g=true->vF P AP g)/\(Ef g=true->F9 P g)) (hx: ∀e∈sb,dM P e.1 e.2:=by simp):eF (iE P T f sg kp lp sb):=by
 have d:qi P (iE P T f sg kp lp sb):= ?_;exact⟨hT,h,i,Xu sg j,d,l _ d,m,LX sb hx⟩;intro g p o q s;by_cases e:g=f
 .simp_all
 .exact je (fun id=>ab9 lp e id) (fun _=>rfl) o
def aA6 (l:List (FuncId×Nat×dZ)) (g:FuncId) (id:Nat):Option dZ:=match l.find? fun e=>Nat.beq g e.1&&Nat.beq id e.2.1 with
 |some e=>a6 e.2.2
 |none=>a7
def aeS:List (FuncId×Nat×dm)->FuncId->Nat->Option dm
 |[],_,_=>a7
 |e::l,g,id=>bif Nat.beq g e.1&&Nat.beq id e.2.1 then a6 e.2.2 else aeS l g id
theorem Ou: ∀(l:List (FuncId×Nat×dm)) (g:FuncId),(∀e∈l,e.1≠g)-> ∀id,aeS l g id=a7
 |[],g,_,id=>rfl
 |e::l,g,h,id=>by
  have d:Nat.beq g e.1=false:=by
   grind [ag]
  simp only[aeS,d,Bool.false_and,ac];exact Ou l g (fun e f=>h e (ai _ f)) id
def gB (P:Program) (T:TT) (sg:List (FuncId×Sum)) (kp:List (FuncId×Nat×dZ)) (lp:List (FuncId×Nat×dm)) (rf:List FuncId) (sb:List (FuncId×fP):=[]):Env:=
 {P:=P,T:=T,cl:=false,kp:=aA6 kp,sg:=ao0 sg,lp:=aeS lp,rf:=fun g _=>rf.any fun x=>Nat.beq g x,bf:=Ee,em:=AP,il:=Ef,sb:=aiC sb}
theorem ahH {P:Program} {T:TT} (hT:TOk P T) (h:P.follows .mixedOrders=true) (i:Gf P) {sg:List (FuncId×Sum)} {kp:List (FuncId×Nat×dZ)} {lp:List (FuncId×Nat×dm)}
  {rf:List FuncId} {sb:List (FuncId×fP)} (j: ∀e∈sg,dE P e.1 e.2) (d:List FuncId) (p:(lp.all fun e=>d.any fun g=>Nat.beq e.1 g)=true) (q:(rf.all fun e=>d.any fun g=>Nat.beq e g)=true) (hl: ∀g∈d,∃fn c,P.funcs[g]? =a6 fn/\fn.body=a6 c/\dI (gB P T sg kp lp rf sb) g c)
  (l: ∀E,qi P E->aaQ E) (m: ∀g,(Ee g=true->vF P AP g)/\(Ef g=true->F9 P g)) (hx: ∀e∈sb,dM P e.1 e.2:=by simp):eF (gB P T sg kp lp rf sb):=by
 have f:qi P (gB P T sg kp lp rf sb):= ?_;exact⟨hT,h,i,Xu sg j,f,l _ f,m,LX sb hx⟩;intro g s o u v;by_cases e:g∈d
 .grind
 .refine je (fun id=>Ou lp g (fun x hx y=>e ?_) id) (fun _=> ?_) o
  .grind [ag]
  .cases hr:rf.any fun x=>Nat.beq g x with
   |false=>exact hr
   |true=>
    simp_all
def bP {d:Type} (a b:List d):List d:=a++b
def dh (i:Int):Nat:=i.toNat
def dB {e:Type} (l:List e) (d:e) (i:Nat):e:=l.getD i d
def takeN {d:Type} (l:List d) (n:Nat):List d:=l.take n
def aFk {d:Type} (n:Nat) (x:d):List d:=List.replicate n x
def fG (a b:List UInt8):Bool:=decide (a.length+b.length<=kF)
def lN {d:Type} (i:Nat) (l:List d):Bool:=KZ i l.length
def aFj (a b:Int):Int:=a.tmod b
def aqH (k:IntKind) (n:Int):Int:=k.wrap n
def aER (a b:Int):Int:=a+b
def aFl (a b:Int):Int:=a-b
def aEM (c:Int) (n:Nat):Bool:=decide (c.toNat*n<=kF)
def ja (a b:Bool):Bool:=a==b
def mg (t:Ty) (x y:List t.den):Bool:=uw (Uo t) x y
def ibW (s:List UInt8) (c:Int):Int:=Lib.indexByte s c.toNat.toUInt8
def ag8 (a b:List UInt8):Int:=Lib.compareBytes a b
def cA:Code->Code
 |.seq a _=>a
 |.block _ c=>c
 |.loop c=>c
 |.scope c=>c
 |.cond _ a _=>a
 |.rangeFunc _ _ a _=>a
 |c=>c
def cB:Code->Code
 |.seq _ b=>b
 |.cond _ _ b=>b
 |.rangeFunc _ _ _ b=>b
 |c=>c
def jy:Code->List Code
 |.seq a b=>jy a++jy b
 |.cond _ a b=>jy a++jy b
 |.block _ c=>jy c
 |.scope c=>jy c
 |.loop c=>jy c++[c]
 |.rangeFunc _ _ a b=>jy a++jy b
 |_=>[]
def jO:Code->List (Code×Code)
 |.seq a b=>jO a++jO b
 |.cond _ a b=>jO a++jO b
 |.block _ c=>jO c
 |.scope c=>jO c
 |.loop c=>jO c
 |.rangeFunc _ _ a b=>(a,b)::(jO a++jO b)
 |_=>[]
def nP:Code->List Code
 |.seq a b=>nP a++(b::nP b)
 |.cond _ a b=>nP a++nP b
 |.block _ c=>nP c
 |.scope c=>nP c
 |.loop c=>nP c
 |.rangeFunc _ _ a b=>nP a++nP b
 |_=>[]
def Ve (E:Env) (f:FuncId) (c:Code):Bool:=(nP c).all fun d=>(E.lp f (800000+dn d)).isNone
theorem jE {R:Type} {E:Env} {x:lI R} {e:TP} {f:FuncId}: ∀c:Code,(∀x∈jO c,E.rf f (dn x.2)=true->rq f (dn x.2)=a6 x)->(∀d∈jy c,∀L,E.lp f (dn d)=a6 L->L.dep.ble E.dp=true->TN E x e f d L)->
  (∀d∈nP c,∀L,E.lp f (800000+dn d)=a6 L->L.dep.ble E.dp=true->aaN E x e f d L)->jb E x e f c
 |.seq a b,g,h,k=>⟨⟨jE a (fun d hd=>g d (List.mem_append.2 (.inl hd))) (fun d hd=>h d (List.mem_append.2 (.inl hd))) fun d hd=>k d (List.mem_append.2 (.inl hd)),k b (List.mem_append.2 (.inr az))⟩,
   jE b (fun d hd=>g d (List.mem_append.2 (.inr hd))) (fun d hd=>h d (List.mem_append.2 (.inr hd))) fun d hd=>k d (List.mem_append.2 (.inr (ai _ hd)))⟩
 |.cond _ a b,g,h,k=>⟨jE a (fun d hd=>g d (List.mem_append.2 (.inl hd))) (fun d hd=>h d (List.mem_append.2 (.inl hd))) fun d hd=>k d (List.mem_append.2 (.inl hd)),jE b (fun d hd=>g d (List.mem_append.2 (.inr hd))) (fun d hd=>h d (List.mem_append.2 (.inr hd))) fun d hd=>k d (List.mem_append.2 (.inr hd))⟩
 |.block _ c,g,h,k=>jE (E:=E) c g h k
 |.scope c,g,h,k=>jE (E:=E) c g h k
 |.loop c,g,h,k=>⟨jE c g (fun d hd=>h d (List.mem_append.2 (.inl hd))) k,h c (List.mem_append.2 (.inr (List.mem_singleton.2 rfl)))⟩
 |.rangeFunc _ _ a b,g,h,k=>⟨jE a (fun d hd=>g d (ai _ (List.mem_append.2 (.inl hd)))) (fun d hd=>h d (List.mem_append.2 (.inl hd))) fun d hd=>k d (List.mem_append.2 (.inl hd)),
   jE b (fun d hd=>g d (ai _ (List.mem_append.2 (.inr hd)))) (fun d hd=>h d (List.mem_append.2 (.inr hd))) fun d hd=>k d (List.mem_append.2 (.inr hd)),g (a,b) az⟩
 |.skip,_,_,_|.label _,_,_,_|.region _ _ _,_,_,_|.exit _,_,_,_|.goto _,_,_,_|.ret,_,_,_|.refuse _,_,_,_=>trivial
theorem AV {E:Env} {f:FuncId} (c:Code) (g: ∀x∈jO c,E.rf f (dn x.2)=true->rq f (dn x.2)=a6 x) (h: ∀d∈jy c,∀L,E.lp f (dn d)=a6 L->dJ E f d L)
  (k: ∀d∈nP c,∀L,E.lp f (800000+dn d)=a6 L->rJ E f d L):dI E f c:=fun R m=>
 jE (E:=E.at m) c g (fun d hd L i j=>by
  have e:=h d hd L i R (m-L.dep);rw[show m-L.dep+L.dep=m from Nat.sub_add_cancel (Nat.le_of_ble_eq_true (m:=m) j)]at e;exact e) fun d hd L i j=>by
  have e:=k d hd L i R (m-L.dep);rw[show m-L.dep+L.dep=m from Nat.sub_add_cancel (Nat.le_of_ble_eq_true (m:=m) j)]at e;exact e
theorem ait {E:Env} {f:FuncId} {c:Code} (h:Ve E f c=true): ∀d∈nP c,∀L,E.lp f (800000+dn d)=a6 L->rJ E f d L:=fun d hd L e=>by
 have:=List.all_eq_true.1 h d hd;simp_all
def IR (E:Env) (f:FuncId) (c:Code):List Code:=(nP c).filter fun d=>(E.lp f (800000+dn d)).isSome
theorem GY {E:Env} {f:FuncId} {c:Code} (h: ∀d∈IR E f c,∀L,E.lp f (800000+dn d)=a6 L->rJ E f d L): ∀d∈nP c,∀L,E.lp f (800000+dn d)=a6 L->rJ E f d L:=fun d hd L e=>
 h d (List.mem_filter.2 ⟨hd,by rw[e];rfl⟩) L e
theorem vK {E:Env} {f:FuncId} (c:Code) (g: ∀x∈jO c,E.rf f (dn x.2)=true->rq f (dn x.2)=a6 x) (h: ∀d∈jy c,∀L,E.lp f (dn d)=a6 L->dJ E f d L) (k:Ve E f c=true:=by kernel_rfl):dI E f c:=
 AV c g h (ait k)
theorem ab5 {E:Env} {f:FuncId} (c:Code) (e: ∀id,E.rf f id=false) (h: ∀d∈jy c,∀L,E.lp f (dn d)=a6 L->dJ E f d L) (k:Ve E f c=true:=by kernel_rfl):dI E f c:=
 vK c (fun x _ g=>by simp_all) h k
theorem bV {d e:Type} (b:Bool) (x y:Option d) (k:d->Option e):bz (bif b then x else y) k=bif b then bz x k else bz y k:=by cases b<;>rfl
theorem bW {d e:Type} (k:d->Option e):bz a7 k=a7:=rfl
theorem bu {d e:Type} (x:d) (k:d->Option e):bz (a6 x) k=k x:=rfl
theorem bT {d e f:Type} (x:Option d) (k:d->Option e) (l:e->Option f):bz (bz x k) l=bz x fun a=>bz (k a) l:=by cases x<;>rfl
theorem an4 {d h e:Type} (a:d) (f:d->e) (g:h->e):dL (.inl a) f g=f a:=rfl
theorem aBV {h d e:Type} (b:d) (f:h->e) (g:d->e):dL (.inr b) f g=g b:=rfl
theorem bY {e h d i:Type} (o:e⊕h) (f:e->Option d) (g:h->Option d) (k:d->Option i):bz (dL o f g) k=dL o (fun a=>bz (f a) k) fun b=>bz (g b) k:=by cases o<;>rfl
end
section
open Option renaming some → a6, none → a7
open List renaming drop_eq_nil_of_le → aS
open Nat renaming le_refl → af
open Tryz
open Go.RowKit
theorem arW (w:World) (B:Nat) (x:TypeId) (v:Value) (n l c2:Nat) (o:List Value) (i j:Value) (V:B<=w.heap.size) (q:w.ownsRow B x 2 v n o) (hn:n<=2199023255552) (W:i.oneCell'=true) (h2:j.oneCell'=true)
  (X:gp w l 0 [i,j]):
  Calls prog ah3 #[v,.int .i64 (n:Int),.slice (a6 ⟨l,0,a7⟩) 1 c2] w fun e w'=> ∃d f,e=.returned d/\w'.ownsRow B f 2 d (n+1) (o++[i,j])/\w.grownBy w' v.ownBlock/\(d.ownBlock=v.ownBlock\/ ∃k,d.ownBlock=a6 k/\w.heap.size<=k)/\d.oneCell'=true:=by
 obtain⟨i0,z,y,A,D,E,G⟩:=amr;have I: ∀u,∃d w' f,(Builtin.append_ #[22,22] u #[v,.slice (a6 ⟨l,0,a7⟩) 1 c2]).run prog w=.ok d w'/\w'.ownsRow B f 2 d (n+1) (o++[i,j])/\w.grownBy w' v.ownBlock/\(d.ownBlock=v.ownBlock\/d.ownBlock=a6 w.heap.size)/\d.oneCell'=true/\(f=x\/f=39):=fun u=>
  EH underlying22 y A D E G (by decide) q (a:=a6 ⟨l,0,a7⟩) (m:=1) (cp:=c2) (news:=[i,j]) rfl (by simp[W,h2]) (.inr ⟨l,0,rfl,X⟩) (by unfold maxLen;omega) (by omega) V u
 obtain⟨d,w',f,J,K,L,M,N,_⟩:=I 22;have ae: ¬((1:Int)=0):=by omega
 have mixed:prog.follows .mixedOrders=true:=by kernel_rfl
 have O: ∃p f,Ending.returned d=.returned p/\w'.ownsRow B f 2 p (n+1) (o++[i,j])/\w.grownBy w' v.ownBlock/\(p.ownBlock=v.ownBlock\/ ∃k,p.ownBlock=a6 k/\w.heap.size<=k)/\p.oneCell'=true:=
  ⟨d,f,rfl,K,L,M.imp (fun h=>h) (fun h=>⟨_,h,af _⟩),N⟩
 have Y:=show ah3=27 from rfl
 rw[Y];generalize S:(fun(e:Ending) (w':World)=> ∃d f,e=.returned d/\w'.ownsRow B f 2 d (n+1) (o++[i,j])/\w.grownBy w' v.ownBlock/\(d.ownBlock=v.ownBlock\/ ∃k,d.ownBlock=a6 k/\w.heap.size<=k)/\d.oneCell'=true)=Post;have s:Post (.returned d) w':=by rw[<-S];exact O
 clear O;obtain⟨U,Z,rfl,ag,ah⟩:=Dw q;have ad:U=a7->n=0/\Z=0:=fun h=>by
  rcases q.2 with ⟨f,e2⟩|⟨g,ai,aj,f,_⟩
  .cases f;exact⟨e2,rfl⟩
  .cases f;cases h
 clear S K L M N I q y A D E G;cases U with
 |none=>
  obtain⟨rfl,rfl⟩:=ad rfl
  go_enter func27,ntmps27
  go_wp2_with (at_builtin;refine Lib.wpList_append_run _ rfl _ _ _ _ rfl _ _ rfl rfl _ _ J ?_)
  first|exact s|(go_ret;exact s)
 |some a=>
  obtain⟨ab,ao,ak⟩:=a
  go_enter func27,ntmps27
  go_wp2_with (at_builtin;refine Lib.wpList_append_run _ rfl _ _ _ _ rfl _ _ rfl rfl _ _ J ?_)
  all_goals first|exact s|(go_ret;exact s)
theorem Ue {P:Program} {f:FuncId} {fn:Func} {d:Code} (e:(fn.name== "runtime.NumGoroutine")=false) (hf:P.funcs[f]? =a6 fn) (hb:fn.body=a6 d) (args:Array Value) (w:World):(callFunc f args).run P w=.ok (.enter f args) w:=by
 simp_all [callFunc]
theorem ah5:F9 prog ah3:=by
 intro w B j v n i d p q f h A D ad E l I hi U ae s u x V ag ah;refine⟨Ue (fn:=f27) (by kernel_rfl) (by kernel_rfl) (show _=a6 ((f27.body).getD .skip) by kernel_rfl) _ _, ?_⟩;have W:gp w d 0 [f,h]:=by
  have:=(gp.of_block_cells x).sub 0 2;simpa using this
 by_cases m:i=n
 .subst m;refine(arW w B j v i d p q f h E l I s u W).mono ?_;rintro e J ⟨X,Y,g1,g2,g3,g4,g5⟩;refine⟨X,Y,g1, ?_,g3,g4,g5⟩;have hl:=l.1;rw[List.take_of_length_le (by omega),aS (by omega),List.append_nil];exact g2
 .have m:i<n:=by omega
  rcases l.2 with ⟨rfl,e⟩|⟨g,o,y,rfl,Z,K,ab,L,M,z⟩
  .omega
  .have N:g≠d:=fun e=>V (by rw[e];rfl);have O: ∀v∈y.toList.take (n*2),v.oneCell'=true:=by rw[z];exact U
   have S:(q.take (i*2)++[f,h]++q.drop (i*2)).length=(n+1)*2:=by
    have:=l.1;simp;omega
   by_cases hroom:n+1<=o
   .refine(amu g n o i d p y j A f h D w m hroom (by unfold maxLen at L;omega) K M x N O s u).mono ?_;rintro e J ⟨rfl,R,g1,g2,g3,g4⟩;refine⟨_,j,rfl,⟨S,.inr ⟨g,o,R,rfl,Z,g2,hroom,L,g3, ?_⟩⟩,g1,.inl rfl,rfl⟩;rw[g4,z]
   .refine(ams g n o i d p y j A f h D w m ab (by omega) I K M x N O s u).mono ?_;rintro e J ⟨G,R,rfl,g1,g2,g3,g4,g5,g6⟩;refine⟨_,39,rfl,⟨S,.inr ⟨w.heap.size,G,R,rfl,E,g4,g1,g2,g5, ?_⟩⟩,⟨g3.os,g3.tape,g3.output,g3.size,fun k hk _=>g3.block k hk (by simp)⟩,.inr ⟨_,rfl,af _⟩,rfl⟩;rw[g6,z]
end
section
open Option renaming some → a6, none → a7
open Bool renaming and_eq_true → ae, not_eq_true → aV
open List renaming mem_cons_of_mem → ai
open Nat renaming le_refl → af
open Go.RowKit
def TT.allK:TT->Bool
 |.nil=>true
 |.node _ i l r=>i.known&&(l.allK&&r.allK)
theorem TT.allK_at: ∀(T:TT) (t:TypeId),T.allK=true->(T.at t).ty.isSome=true->(T.at t).known=true
 |.nil,t,_,h=>by assumption
 |.node k i l r,t,h,d=>by
  simp only[TT.allK,ae]at h;simp only[TT.at]at d ⊢;by_cases e:Nat.beq k t=true
  .simp_all
  .have f:Nat.beq k t=false:=(aV _).mp e;simp only[f,ac]at d ⊢;by_cases e2:Nat.blt t k=true
   .simp only[e2,aa]at d ⊢;exact TT.allK_at l t h.2.1 d
   .have g:Nat.blt t k=false:=(aV _).mp e2;simp only[g,ac]at d ⊢;exact TT.allK_at r t h.2.2 d
def wfD:(t:Ty)->t.den->Prop
 |.unit,_=>True
 |.bool,_=>True
 |.int k,x=>(Lit.int k x).wf=true
 |.str,x=>x.length<=maxLen
 |.list e,d=>d.length<=maxLen/\ ∀x∈d,wfD e x
 |.pair a b,x=>wfD a x.1/\wfD b x.2
section
variable {P:Program} {T:TT} {w:World} {H:Type} {enc:TypeId×Value->H} {spare:Nat->Bool} {held:Bool}
theorem aqF {t:TypeId} {k:TK} (h:(P.underlying t).map jU=a6 (a6 k)): ∃d,P.underlying t=a6 d/\jU d=a6 k:=by
 simp_all
theorem EL (hT:TOk P T) {t:TypeId} (hk:(T.at t).known=true):P.cellsOf t=(T.at t).size:=by
 obtain⟨h,_⟩:=hT t hk;unfold Program.cellsOf;cases hi:P.info? t with
 |none=>simp_all
 |some f=>
  simp_all
theorem aqY {a:Addr} {v:Value} (h:w.cell? a=a6 v):a.block<w.heap.size/\a.spot=a7:=by
 unfold World.cell? at h;split at h
 .rename_i d
  refine⟨(Array.getElem?_eq_some_iff.1 d).1, ?_⟩;simp_all
 .cases h
theorem addr_add_add (a:Addr) (x m:Nat):(a.add x).add m=a.add (x+m):=by
 grind [Addr.add]
theorem Z9 {e:Ty} {size:Nat} (q:e.size=size) {a:Addr} {len:Nat} {F:List Value->Option (DataW H×List MemPlace)} (o: ∀cs y,F cs=a6 y-> ∃x:e.den,dY w (fun b=>b<w.heap.size) e x cs/\wfD e x)
  (h: ∀i,i<len-> ∃y,(w.cells? 0 (a.add (i*size)) size).bind F=a6 y): ∀(k j:Nat),j+k<=len->
  ∃(xs:List e.den) (d:List Value),xs.length=k/\eY (dY w (fun b=>b<w.heap.size) e) e.size xs d/\(∀m (f:m<d.length),w.cell? (a.add (j*size+m))=a6 d[m])/\ ∀x∈xs,wfD e x
 |0,j,_=>⟨[],[],rfl,rfl,fun m f=>absurd f (by simp),fun x g=>by cases g⟩
 |k+1,j,A=>by
  obtain⟨xs,d,s,u,B,D⟩:=Z9 q o h k (j+1) (by omega);obtain⟨y,l⟩:=h j (by omega);obtain⟨c,p,l⟩:=Option.bind_eq_some_iff.1 l;obtain⟨x,g,E⟩:=o c y l;have v:c.length=e.size:=dY.length e x c g;have G: ∀m (f:m<c.length),w.cell? (a.add (j*size+m))=a6 c[m]:=fun m f=>by
   simp only[World.cells?,Nat.zero_le,if_true]at p;have:=mapM_some_get p m m (by simp_all);simp_all [addr_add_add]
  refine⟨x::xs,c++d,by simp[s],⟨c,d,rfl,v,g,u⟩,fun m f=> ?_,fun z I=> ?_⟩
  all_goals grind
theorem NJ (hT:TOk P T) {n:Nat} {cs:List Value} (e: ∀(t:TypeId) (cs:List Value) (y:DataW H×List MemPlace) (ty:Ty),(T.at t).known=true->(T.at t).ty=a6 ty->DataW.trod enc P w 0 spare held n t cs=a6 y-> ∃x:ty.den,dY w (fun b=>b<w.heap.size) ty x cs/\wfD ty x):
  ∀(f:List (Nat×TypeId)) (off:Nat) (ty:Ty),ji T off f=a6 ty->(∀p∈f,∃y,DataW.trod enc P w 0 spare held n p.2 ((cs.drop p.1).take (P.cellsOf p.2))=a6 y)->
   ∃x:ty.den,dY w (fun b=>b<w.heap.size) ty x ((cs.drop off).take ty.size)/\wfD ty x
 |[],off,ty,h,_=>by
  simp only[ji,Option.some.injEq]at h;subst h;exact⟨(),by simp[dY,Ty.size],trivial⟩
 |(o,g)::l,off,ty,h,i=>by
  simp only[ji]at h;split at h
  .rename_i m
   split at h
   .rename_i a q
    split at h
    .rename_i d
     split at h
     .rename_i b s
      simp only[Option.some.injEq]at h;subst h m;obtain⟨y,j⟩:=i (o,g) (by simp);simp only[EL hT d.2,<-d.1]at j;obtain⟨u,v,z⟩:=e g _ y a d.2 q j;obtain⟨A,B,D⟩:=NJ hT e l _ b s fun p E=>i p (ai _ E);refine⟨(u,A),⟨_,_, ?_,v,B⟩,z,D⟩;simp_all [Ty.size,List.take_add]
     .cases h
    .cases h
   .cases h
  .cases h
theorem Qe (hT:TOk P T) (q:T.allK=true): ∀(m:Nat) (t:TypeId) (cs:List Value) (y:DataW H×List MemPlace) (ty:Ty),(T.at t).known=true->(T.at t).ty=a6 ty->DataW.trod enc P w 0 spare held m t cs=a6 y->
  ∃x:ty.den,dY w (fun b=>b<w.heap.size) ty x cs/\wfD ty x
 |0,t,cs,y,ty,_,_,h=>by simp[DataW.trod]at h
 |m+1,t,cs,y,ty,hk,L,h=>by
  obtain⟨ag,M,ah,N,-,-,-,-⟩:=hT t hk;obtain⟨d,hd,l⟩:=aqF M;have g:kH T (T.at t).k=a6 ty:=by
   simp_all
  have hc:=EL hT hk;have aj:=N ty L;cases d with
  |bool=>
   simp only[jU,Option.some.injEq]at l;rw[<-l]at g;simp only[kH,Option.some.injEq]at g;subst g;obtain⟨b,rfl,_⟩:=DataW.trod_bool hd h;exact⟨b,rfl,trivial⟩
  |int k=>
   simp only[jU,Option.some.injEq]at l;rw[<-l]at g;simp only[kH,Option.some.injEq]at g;subst g;obtain⟨b,rfl,_,A⟩:=DataW.trod_int hd h;exact⟨b,rfl,A⟩
  |string=>
   simp only[jU,Option.some.injEq]at l;rw[<-l]at g;simp only[kH,Option.some.injEq]at g;subst g;obtain⟨s,rfl,_,A⟩:=DataW.trod_string hd h;exact⟨s.data.toList,by simp[dY],(show s.data.toList.length<=maxLen from by assumption)⟩
  |slice e=>
   simp only[jU,Option.some.injEq]at l;rw[<-l]at g;simp only[kH,Option.map_eq_some_iff]at g;obtain⟨o,u,rfl⟩:=g;have v:=TT.allK_at T e q (by rw[u];rfl);have O:o.size=(T.at e).size:=(hT e v).2.2.2.1 o u;have S:=EL hT v;rcases DataW.trod_slice hd h with ⟨rfl,_⟩|⟨a,B,U,ak,al,n,V,rfl,_,_,hl,hm,W,an,_,_⟩
   .exact⟨[],⟨a7,0,[],rfl,af _,rfl,.inl rfl⟩,Nat.zero_le _,fun x X=>by cases X⟩
   .obtain rfl:n=m:=by omega
    have Y: ∀i,i<B-> ∃y,(w.cells? 0 (a.add (i*P.cellsOf e)) (P.cellsOf e)).bind (DataW.trod enc P w 0 spare held n e)=a6 y:=fun i Z=>by
     simp_all
    obtain⟨D,E,z,G,h3,h4⟩:=Z9 (w:=w) (e:=o) (O.trans S.symm) (fun cs y hy=>Qe hT q n e cs y o v u hy) Y B 0 (by omega);refine⟨D,⟨a6 a,U,E,by rw[z],by omega,G, ?_⟩,by rw[z];omega,h4⟩;by_cases hz:E=[]
    .exact .inl hz
    .have I:=h3 0 (List.length_pos_iff.2 hz);rw[show a.add (0*P.cellsOf e+0)=a by simp[Addr.add]]at I;obtain⟨J,K⟩:=aqY I;obtain⟨ab,ao,au⟩:=a;simp only at J K;subst K;refine .inr ⟨ab,ao,rfl,J,fun j hj=> ?_⟩;simp_all [jG]
  |struct fs=>
   simp only[jU,Option.some.injEq]at l;rw[<-l]at g;simp only[kH]at g;obtain⟨D,n,V,_,W,av,hf⟩:=DataW.trod_struct hd h;obtain rfl:n=m:=by omega
   obtain⟨x,z,G⟩:=NJ (P:=P) (T:=T) (w:=w) (enc:=enc) (spare:=spare) (held:=held) (cs:=cs) hT (fun t cs y ty a b c=>Qe hT q n t cs y ty a b c) _ 0 ty g (fun p hp=>by
    obtain⟨f,ad,rfl⟩:=List.mem_map.1 hp;obtain⟨i,Z⟩:=List.getElem?_of_mem ad
    grind)
   grind
  |func a b c=>
   grind [jU,kH]
  |array a b=>simp[jU]at l
  |_=>
   grind [jU,kH]
theorem OO (hT:TOk P T) (y:T.allK=true) {t:TypeId} {v:Value} {d:DataW H} {B:List MemPlace} {r:Reach} {b0:Nat} {ty:Ty} (m:(T.at t).ty=a6 ty) (q:Value.okWide P w r b0 t v) (h:DataW.Trod enc P w 0 spare held t v d B):
  ∃x:ty.den,VD (jC w fun _=>False) ty x v/\wfD ty x:=by
 have hk:=TT.allK_at T t y (by rw[m];rfl);obtain⟨D,E⟩:=h;obtain⟨x,s,G⟩:=Qe hT y D t _ _ ty hk m E;have u:dY w (jC w fun _=>False).free ty x v.cells.toList:=dY.mono (fun b I=>⟨⟨I,(by rintro ⟨i,o,h,_⟩;simp[jC,dG]at h),by simp[jC],fun h=>h⟩,rfl⟩) ty x _ s;refine⟨x, ?_,G⟩;obtain⟨M,J,K,-⟩:=hT t hk;obtain⟨z,hd,j⟩:=aqF J;have g:kH T (T.at t).k=a6 ty:=by
  rcases K with s|s
  .rw[s]at m;cases m
  .rw[<-s,m]
 cases ha:ty.isAgg with
 |true=>
  cases z with
  |struct A=>
   obtain⟨cs,rfl,_⟩:=Go.WideShapes.okWide_struct hd q;exact(VD.agg ha).2 ⟨cs,rfl,u⟩
  |array a b=>simp[jU]at j
  |slice e=>
   simp only[jU,Option.some.injEq]at j;rw[<-j]at g;simp only[kH,Option.map_eq_some_iff]at g;obtain⟨N,_,rfl⟩:=g;cases ha
  |_=>
   simp only[jU,Option.some.injEq]at j;rw[<-j]at g;simp[kH]at g
   all_goals (subst g;cases ha)
 |false=>
  rw[VD.leaf ha];have L:v.cells= #[v]:=by
   cases z with
   |struct A=>
    simp only[jU,Option.some.injEq]at j;rw[<-j]at g;simp only[kH]at g;exfalso;cases hfs:(A.toList.map fun f=>(f.offset,f.type))with
    |nil=>rw[hfs]at g;simp only[ji,Option.some.injEq]at g;subst g;cases ha
    |cons p l=>
     rw[hfs]at g;simp only[ji]at g;split at g
     .split at g
      .split at g
       .split at g
        .simp only[Option.some.injEq]at g;subst g;cases ha
        .cases g
       .cases g
      .cases g
     .cases g
   |array a b=>simp[jU]at j
   |bool=>obtain⟨b,rfl⟩:=Go.WideShapes.okWide_bool hd q;rfl
   |int k=>obtain⟨b,rfl⟩:=Go.WideShapes.okWide_int hd q;rfl
   |string=>obtain⟨b,rfl⟩:=Go.WideShapes.okWide_string hd q;rfl
   |slice e=>obtain⟨a,b,c,rfl⟩:=Go.WideShapes.okWide_slice hd q;rfl
   |_=>
    simp only[jU,Option.some.injEq]at j;rw[<-j]at g;simp[kH]at g
  rw[L]at u;exact u
end
abbrev bQ:Type:=List UInt8
abbrev dw:Ty:=.int .i64
abbrev taB:Type:=(List (Int×bQ×(Int×Int×Unit)))×Int×(List (Int×Int×Int×Int×Unit))×Int×Int×Unit
abbrev Qk:Ty:=.pair dw (.pair dw .unit)
abbrev iO:Type:=Int×Int×Int×Int×Bool×Unit
abbrev iQ:Type:=Int×bQ×(Int×Int×Unit)
abbrev jc:Type:=Int×Int×Int×Int×Unit
abbrev F6:Ty:=.pair dw (.pair dw (.pair dw (.pair dw (.pair .bool .unit))))
abbrev tyD:Ty:=.pair dw (.pair .str Qk)
abbrev BX:Ty:=.pair dw (.pair dw Qk)
abbrev lF:Type:=bQ×(bQ×(Unit))
abbrev nH:Type:=Bool×Unit
abbrev lZ:Type:=Int×Int×Unit
abbrev tyF:Ty:=.pair .bool .unit
abbrev tyG:Ty:=.pair .str (.pair .str .unit)
abbrev iU:Type:=List (Int)
abbrev DN:Type:=Bool×Bool×bQ×(Unit)
abbrev QS:Ty:=.pair .bool (.pair .bool (.pair .str .unit))
abbrev taK:Type:=Int×Int×Int×Bool×Unit
abbrev qF:Type:=taB×(Unit)
abbrev Yj:Type:=(List lZ)×Bool×Int×Unit
abbrev ED:Type:=bQ×(iU×nH)
abbrev Iq:Type:=List (bQ×nH)
abbrev D5:Ty:=.pair .str tyF
abbrev tyJ:Ty:=.pair (.list dw) tyF
abbrev rD:Type:=Int×Int
abbrev BR:Type:=Int×Unit
abbrev taR:Type:=taK×(Int×Iq×nH)×Unit
abbrev tyK:Ty:=.pair dw (.pair dw tyF)
abbrev DR:Ty:=.list tyD
abbrev QR:Type:=bQ×Unit
abbrev taT:Type:=(Int×(List lF)×Unit)×(bQ×Bool×Unit)
abbrev tyM:Ty:=.pair (.list D5) tyF
abbrev JL:Ty:=.list tyG
abbrev QT:Ty:=.list F6
abbrev taU:Type:=ED×Unit
abbrev uZ:List (Ty×Bool):=[(.list tyD,false),(.int .i64,false),(.list BX,true),(.int .i64,false),(.int .i64,false)]
abbrev tzB:List (Ty×Bool):=[(.list Qk,true),(.bool,false),(.int .i64,false)]
abbrev Ip:List (Ty×Bool):=[(.bool,false)]
abbrev Ql:List (Ty×Bool):=[(.int .i64,false)]
abbrev Yo:List (Ty×Bool):=[(.str,false)]
abbrev tzF:List (Ty×Bool):=[(.pair .str tyJ,false)]
abbrev tzG:List (Ty×Bool):=[(.int .i64,false),(.list tyG,true)]
abbrev tzH:List (Ty×Bool):=[(.pair dw tyK,false),(.pair dw tyM,false)]
abbrev tzI:List (Ty×Bool):=[(.int .i64,false),(.int .i64,false)]
end
section
open Option renaming some → a6, none → a7
open Bool renaming and_eq_true → ae, not_true → ak
open Nat renaming eq_of_beq_eq_true → ag
open Tryz
open Go.RowKit
def iy:TI:=⟨true,.fn,1,8,a7,[.nilfn],false,false,true⟩
def ti2:TI:=⟨true,(.int .i64),1,8,a6 (.int .i64),[.val (.int .i64) 0],false,false,true⟩
def ti4:TI:=⟨true,.bool,1,1,a6 .bool,[.val .bool false],false,false,true⟩
def ti5:TI:=⟨true,(.int .u8),1,1,a6 (.int .u8),[.val (.int .u8) 0],false,false,true⟩
def ti7:TI:=⟨true,(.struct [(0,2),(1,3),(2,4),(3,6)]),4,24,a7,[.val (.int .i64) 0,.val (.int .i64) 0,.val .bool false,.val (.int .u8) 0],false,false,true⟩
def ti9:TI:=⟨true,.str,1,16,a6 .str,[.val .str []],false,false,true⟩
def atG:TI:=⟨true,(.int .u64),1,8,a6 (.int .u64),[.val (.int .u64) 0],false,false,true⟩
def aCN:TI:=⟨true,(.struct [(0,9),(1,12)]),2,24,a6 (.pair .str (.pair (.int .u64) .unit)),[.val .str [],.val (.int .u64) 0],false,false,true⟩
def aDS:TI:=⟨true,(.ptr 250),1,8,a7,[.nilp],false,false,true⟩
def aDT:TI:=⟨true,(.ptr 253),1,8,a7,[.nilp],false,false,true⟩
def aDU:TI:=⟨true,(.ptr 260),1,8,a7,[.nilp],false,false,true⟩
def aCV:TI:=⟨true,(.struct [(0,17)]),1,8,a7,[.nilp],false,false,true⟩
def azx:TI:=⟨true,(.int .i32),1,4,a6 (.int .i32),[.val (.int .i32) 0],false,false,true⟩
def aDV:TI:=⟨true,(.slice 39),1,24,a6 (.list (.pair .str (.pair .str .unit))),[.nils],false,false,true⟩
def aDW:TI:=⟨true,(.ptr 60),1,8,a7,[.nilp],false,false,true⟩
def aDX:TI:=⟨true,(.slice 9),1,24,a6 (.list .str),[.nils],false,false,true⟩
def aDY:TI:=⟨true,(.struct [(0,9),(1,9)]),2,32,a6 (.pair .str (.pair .str .unit)),[.val .str [],.val .str []],false,false,true⟩
def aDZ:TI:=⟨true,(.struct [(0,9),(1,9)]),2,32,a6 (.pair .str (.pair .str .unit)),[.val .str [],.val .str []],true,false,true⟩
def aD0:TI:=⟨true,(.struct [(0,3),(1,3),(2,3),(3,4)]),4,32,a6 (.pair (.int .i64) (.pair (.int .i64) (.pair (.int .i64) (.pair .bool .unit)))),[.val (.int .i64) 0,.val (.int .i64) 0,.val (.int .i64) 0,.val .bool false],false,false,true⟩
def aD1:TI:=⟨true,(.struct [(0,3),(1,3),(2,3),(3,4)]),4,32,a6 (.pair (.int .i64) (.pair (.int .i64) (.pair (.int .i64) (.pair .bool .unit)))),[.val (.int .i64) 0,.val (.int .i64) 0,.val (.int .i64) 0,.val .bool false],true,false,true⟩
def aD2:TI:=⟨true,(.slice 77),1,24,a6 (.list (.pair .str (.pair .bool .unit))),[.nils],false,false,true⟩
def aD3:TI:=⟨true,(.struct [(0,3),(1,51),(2,4)]),3,40,a6 (.pair (.int .i64) (.pair (.list (.pair .str (.pair .bool .unit))) (.pair .bool .unit))),[.val (.int .i64) 0,.nils,.val .bool false],false,false,true⟩
def aD4:TI:=⟨true,(.struct [(0,3),(1,51),(2,4)]),3,40,a6 (.pair (.int .i64) (.pair (.list (.pair .str (.pair .bool .unit))) (.pair .bool .unit))),[.val (.int .i64) 0,.nils,.val .bool false],false,false,false⟩
def aD5:TI:=⟨true,(.slice 5),1,24,a6 (.list (.int .u8)),[.nils],false,false,true⟩
def aD6:TI:=⟨true,(.slice 50),1,24,a6 (.list (.pair (.int .i64) (.pair (.int .i64) (.pair (.int .i64) (.pair .bool .unit))))),[.nils],false,false,true⟩
def aC5:TI:=⟨true,(.struct [(0,3),(1,22)]),2,32,a6 (.pair (.int .i64) (.pair (.list (.pair .str (.pair .str .unit))) .unit)),[.val (.int .i64) 0,.nils],false,false,true⟩
def aD7:TI:=⟨true,(.slice 3),1,24,a6 (.list (.int .i64)),[.nils],false,false,true⟩
def aD8:TI:=⟨true,(.struct [(0,9),(1,4)]),2,24,a6 (.pair .str (.pair .bool .unit)),[.val .str [],.val .bool false],false,false,true⟩
def aD9:TI:=⟨true,(.struct [(0,9),(1,4)]),2,24,a6 (.pair .str (.pair .bool .unit)),[.val .str [],.val .bool false],true,false,true⟩
def aEa:TI:=⟨true,(.slice 93),1,24,a6 (.list (.pair (.int .i64) (.pair .str (.pair (.int .i64) (.pair (.int .i64) .unit))))),[.nils],false,false,true⟩
def aEb:TI:=⟨true,(.map 3 3),1,8,a7,[.undef],false,false,true⟩
def aEc:TI:=⟨true,(.slice 91),1,24,a6 (.list (.pair (.int .i64) (.pair (.int .i64) (.pair (.int .i64) (.pair (.int .i64) .unit))))),[.nils],false,false,true⟩
def aEe:TI:=⟨true,(.struct [(0,3),(1,3),(2,3),(3,3)]),4,32,a6 (.pair (.int .i64) (.pair (.int .i64) (.pair (.int .i64) (.pair (.int .i64) .unit)))),[.val (.int .i64) 0,.val (.int .i64) 0,.val (.int .i64) 0,.val (.int .i64) 0],false,false,true⟩
def aEf:TI:=⟨true,(.struct [(0,3),(1,3),(2,3),(3,3)]),4,32,a6 (.pair (.int .i64) (.pair (.int .i64) (.pair (.int .i64) (.pair (.int .i64) .unit)))),[.val (.int .i64) 0,.val (.int .i64) 0,.val (.int .i64) 0,.val (.int .i64) 0],true,false,true⟩
def aEg:TI:=⟨true,(.struct [(0,3),(1,9),(2,3),(3,3)]),4,40,a6 (.pair (.int .i64) (.pair .str (.pair (.int .i64) (.pair (.int .i64) .unit)))),[.val (.int .i64) 0,.val .str [],.val (.int .i64) 0,.val (.int .i64) 0],false,false,true⟩
def aEh:TI:=⟨true,(.struct [(0,3),(1,9),(2,3),(3,3)]),4,40,a6 (.pair (.int .i64) (.pair .str (.pair (.int .i64) (.pair (.int .i64) .unit)))),[.val (.int .i64) 0,.val .str [],.val (.int .i64) 0,.val (.int .i64) 0],true,false,true⟩
def avW:TI:=⟨true,(.struct [(0,9),(1,66),(2,4)]),3,48,a6 (.pair .str (.pair (.list (.int .i64)) (.pair .bool .unit))),[.val .str [],.nils,.val .bool false],false,false,true⟩
def aCG:TI:=⟨true,(.slice 110),1,24,a6 (.list (.pair .bool (.pair .bool (.pair .str .unit)))),[.nils],false,false,true⟩
def aCH:TI:=⟨true,(.struct [(0,4),(1,4),(2,9)]),3,24,a6 (.pair .bool (.pair .bool (.pair .str .unit))),[.val .bool false,.val .bool false,.val .str []],false,false,true⟩
def aCI:TI:=⟨true,(.struct [(0,4),(1,4),(2,9)]),3,24,a6 (.pair .bool (.pair .bool (.pair .str .unit))),[.val .bool false,.val .bool false,.val .str []],true,false,true⟩
def aCJ:TI:=⟨true,(.ptr 118),1,8,a7,[.nilp],false,false,true⟩
def avX:TI:=⟨true,(.struct [(0,82),(1,3),(2,88),(3,3),(4,3)]),5,72,a6 (.pair (.list (.pair (.int .i64) (.pair .str (.pair (.int .i64) (.pair (.int .i64) .unit))))) (.pair (.int .i64) (.pair (.list (.pair (.int .i64) (.pair (.int .i64) (.pair (.int .i64) (.pair (.int .i64) .unit))))) (.pair (.int .i64) (.pair (.int .i64) .unit))))),[.nils,.val (.int .i64) 0,.nils,.val (.int .i64) 0,.val (.int .i64) 0],false,false,true⟩
def aCK:TI:=⟨true,(.ptr 125),1,8,a7,[.nilp],false,false,true⟩
def aCL:TI:=⟨true,(.struct [(0,123),(1,56)]),2,32,a7,[.nilp,.nils],false,false,true⟩
def aCM:TI:=⟨true,(.struct [(0,123),(1,56)]),2,32,a7,[.nilp,.nils],false,true,true⟩
def aCO:TI:=⟨true,(.slice 145),1,24,a6 (.list (.pair (.int .i64) (.pair (.int .i64) (.pair (.int .i64) (.pair (.int .i64) (.pair .bool .unit)))))),[.nils],false,false,true⟩
def aCP:TI:=⟨true,(.struct [(0,3),(1,3),(2,3),(3,3),(4,4)]),5,40,a6 (.pair (.int .i64) (.pair (.int .i64) (.pair (.int .i64) (.pair (.int .i64) (.pair .bool .unit))))),[.val (.int .i64) 0,.val (.int .i64) 0,.val (.int .i64) 0,.val (.int .i64) 0,.val .bool false],false,false,true⟩
def aCQ:TI:=⟨true,(.struct [(0,3),(1,3),(2,3),(3,3),(4,4)]),5,40,a6 (.pair (.int .i64) (.pair (.int .i64) (.pair (.int .i64) (.pair (.int .i64) (.pair .bool .unit))))),[.val (.int .i64) 0,.val (.int .i64) 0,.val (.int .i64) 0,.val (.int .i64) 0,.val .bool false],true,false,true⟩
def aCR:TI:=⟨true,(.int .u32),1,4,a6 (.int .u32),[.val (.int .u32) 0],false,false,true⟩
def aCS:TI:=⟨true,(.ptr 5),1,8,a7,[.nilp],false,false,true⟩
def aCT:TI:=⟨true,(.ptr 209),1,8,a7,[.nilp],false,false,true⟩
def aCU:TI:=⟨true,(.slice 207),1,24,a6 (.list (.pair (.int .i64) (.pair (.int .i64) .unit))),[.nils],false,false,true⟩
def aCW:TI:=⟨true,(.ptr 214),1,8,a7,[.nilp],false,false,true⟩
def aCX:TI:=⟨true,(.slice 104),1,24,a6 (.list (.pair .str (.pair (.list (.int .i64)) (.pair .bool .unit)))),[.nils],false,false,true⟩
def aCY:TI:=⟨true,(.ptr 3),1,8,a7,[.nilp],false,false,true⟩
def aCZ:TI:=⟨true,(.ptr 201),1,8,a7,[.nilp],false,false,true⟩
def aC0:TI:=⟨true,(.struct [(0,3),(1,3)]),2,16,a6 (.pair (.int .i64) (.pair (.int .i64) .unit)),[.val (.int .i64) 0,.val (.int .i64) 0],false,false,true⟩
def aC1:TI:=⟨true,(.struct [(0,3),(1,3)]),2,16,a6 (.pair (.int .i64) (.pair (.int .i64) .unit)),[.val (.int .i64) 0,.val (.int .i64) 0],true,false,true⟩
def avY:TI:=⟨true,(.struct [(0,173),(1,4),(2,3)]),3,40,a6 (.pair (.list (.pair (.int .i64) (.pair (.int .i64) .unit))) (.pair .bool (.pair (.int .i64) .unit))),[.nils,.val .bool false,.val (.int .i64) 0],false,false,true⟩
def avZ:TI:=⟨true,(.struct [(0,9),(1,142),(2,84)]),3,48,a7,[.val .str [],.nils,.undef],false,false,true⟩
def aC2:TI:=⟨true,(.ptr 189),1,8,a7,[.nilp],false,false,true⟩
def aC3:TI:=⟨true,(.ptr 230),1,8,a7,[.nilp],false,false,true⟩
def av1:TI:=⟨true,(.struct [(0,142),(1,66)]),2,48,a6 (.pair (.list (.pair (.int .i64) (.pair (.int .i64) (.pair (.int .i64) (.pair (.int .i64) (.pair .bool .unit)))))) (.pair (.list (.int .i64)) .unit)),[.nils,.nils],false,false,true⟩
def aC4:TI:=⟨true,(.ptr 145),1,8,a7,[.nilp],false,false,true⟩
def av2:TI:=⟨true,(.struct [(0,5),(1,5)]),2,2,a6 (.pair (.int .u8) (.pair (.int .u8) .unit)),[.val (.int .u8) 0,.val (.int .u8) 0],false,false,true⟩
def av3:TI:=⟨true,(.struct [(0,17),(1,17),(2,17),(3,9)]),4,40,a7,[.nilp,.nilp,.nilp,.val .str []],false,false,true⟩
def av4:TI:=⟨true,(.struct [(0,12),(1,12),(2,160),(3,254),(4,5),(5,5),(6,255),(7,256),(8,165),(9,257),(10,258)]),11,48,a7,[.val (.int .u64) 0,.val (.int .u64) 0,.val (.int .u32) 0,.val (.int .u8) 0,.val (.int .u8) 0,.val (.int .u8) 0,.val (.int .u8) 0,.nilfn,.nilp,.val (.int .i32) 0,.val (.int .i32) 0],false,false,true⟩
def tt:TT:=(.node 125 aCM (.node 66 aD7 (.node 33 iy (.node 16 aDT (.node 9 ti9 (.node 4 ti4 (.node 2 ti2 (.node 1 iy .nil .nil) (.node 3 ti2 .nil .nil)) (.node 7 ti7 (.node 5 ti5 .nil .nil) (.node 8 ti7 .nil .nil))) (.node 13 aCN (.node 11 ti9 (.node 10 ti9 .nil .nil) (.node 12 atG .nil .nil)) (.node 15 aDS (.node 14 aCN .nil .nil) .nil))) (.node 24 iy (.node 21 azx (.node 18 aCV (.node 17 aDU .nil .nil) (.node 19 aCV .nil .nil)) (.node 23 iy (.node 22 aDV .nil .nil) .nil)) (.node 29 iy (.node 26 iy (.node 25 aDW .nil .nil) (.node 27 iy .nil .nil)) (.node 32 iy (.node 31 iy .nil .nil) .nil)))) (.node 50 aD1 (.node 42 iy (.node 37 iy (.node 35 iy (.node 34 aDX .nil .nil) (.node 36 iy .nil .nil)) (.node 39 aDZ (.node 38 aDY .nil .nil) (.node 40 ti2 .nil .nil))) (.node 47 iy (.node 44 iy (.node 43 iy .nil .nil) (.node 46 iy .nil .nil)) (.node 49 aD0 (.node 48 iy .nil .nil) .nil))) (.node 58 iy (.node 55 iy (.node 52 aD3 (.node 51 aD2 .nil .nil) (.node 53 aD4 .nil .nil)) (.node 57 aD6 (.node 56 aD5 .nil .nil) .nil)) (.node 63 iy (.node 60 aC5 (.node 59 aC5 .nil .nil) (.node 61 iy .nil .nil)) (.node 65 iy (.node 64 iy .nil .nil) .nil))))) (.node 97 iy (.node 83 iy (.node 75 iy (.node 70 iy (.node 68 iy (.node 67 iy .nil .nil) (.node 69 iy .nil .nil)) (.node 72 iy (.node 71 iy .nil .nil) (.node 73 iy .nil .nil))) (.node 79 iy (.node 77 aD9 (.node 76 aD8 .nil .nil) (.node 78 iy .nil .nil)) (.node 82 aEa (.node 81 iy .nil .nil) .nil))) (.node 90 aEe (.node 87 iy (.node 85 iy (.node 84 aEb .nil .nil) (.node 86 iy .nil .nil)) (.node 89 iy (.node 88 aEc .nil .nil) .nil)) (.node 94 iy (.node 92 aEg (.node 91 aEf .nil .nil) (.node 93 aEh .nil .nil)) (.node 96 iy (.node 95 iy .nil .nil) .nil)))) (.node 111 iy (.node 104 avW (.node 101 iy (.node 99 iy (.node 98 iy .nil .nil) (.node 100 iy .nil .nil)) (.node 103 avW (.node 102 iy .nil .nil) .nil)) (.node 108 iy (.node 106 iy (.node 105 iy .nil .nil) (.node 107 aCG .nil .nil)) (.node 110 aCI (.node 109 aCH .nil .nil) .nil))) (.node 118 avX (.node 115 iy (.node 113 iy (.node 112 iy .nil .nil) (.node 114 iy .nil .nil)) (.node 117 avX (.node 116 aCJ .nil .nil) .nil)) (.node 122 atG (.node 120 iy (.node 119 iy .nil .nil) (.node 121 iy .nil .nil)) (.node 124 aCL (.node 123 aCK .nil .nil) .nil)))))) (.node 188 iy (.node 159 iy (.node 143 iy (.node 136 iy (.node 132 iy (.node 130 iy (.node 129 iy .nil .nil) (.node 131 iy .nil .nil)) (.node 134 iy (.node 133 iy .nil .nil) (.node 135 iy .nil .nil))) (.node 140 iy (.node 138 iy (.node 137 iy .nil .nil) (.node 139 iy .nil .nil)) (.node 142 aCO (.node 141 iy .nil .nil) .nil))) (.node 151 iy (.node 148 iy (.node 145 aCQ (.node 144 aCP .nil .nil) (.node 147 iy .nil .nil)) (.node 150 iy (.node 149 iy .nil .nil) .nil)) (.node 156 iy (.node 153 ti2 (.node 152 iy .nil .nil) (.node 155 iy .nil .nil)) (.node 158 iy (.node 157 iy .nil .nil) .nil)))) (.node 173 aCU (.node 166 iy (.node 163 iy (.node 161 iy (.node 160 aCR .nil .nil) (.node 162 atG .nil .nil)) (.node 165 aCS (.node 164 iy .nil .nil) .nil)) (.node 170 aCT (.node 168 iy (.node 167 iy .nil .nil) (.node 169 iy .nil .nil)) (.node 172 iy (.node 171 iy .nil .nil) .nil))) (.node 181 aCW (.node 178 iy (.node 176 iy (.node 175 iy .nil .nil) (.node 177 iy .nil .nil)) (.node 180 iy (.node 179 iy .nil .nil) .nil)) (.node 185 iy (.node 183 iy (.node 182 iy .nil .nil) (.node 184 iy .nil .nil)) (.node 187 iy (.node 186 aCX .nil .nil) .nil))))) (.node 224 iy (.node 208 avY (.node 198 iy (.node 192 iy (.node 190 iy (.node 189 atG .nil .nil) (.node 191 iy .nil .nil)) (.node 194 iy (.node 193 aCY .nil .nil) (.node 196 iy .nil .nil))) (.node 205 aCZ (.node 203 iy (.node 199 iy .nil .nil) (.node 204 iy .nil .nil)) (.node 207 aC1 (.node 206 aC0 .nil .nil) .nil))) (.node 215 iy (.node 212 iy (.node 210 iy (.node 209 avY .nil .nil) (.node 211 iy .nil .nil)) (.node 214 avZ (.node 213 avZ .nil .nil) .nil)) (.node 221 iy (.node 218 iy (.node 217 iy .nil .nil) (.node 220 iy .nil .nil)) (.node 223 aC2 (.node 222 iy .nil .nil) .nil)))) (.node 239 av2 (.node 231 iy (.node 228 aC3 (.node 226 iy (.node 225 iy .nil .nil) (.node 227 iy .nil .nil)) (.node 230 av1 (.node 229 av1 .nil .nil) .nil)) (.node 235 iy (.node 233 iy (.node 232 aC4 .nil .nil) (.node 234 iy .nil .nil)) (.node 237 iy (.node 236 iy .nil .nil) .nil))) (.node 249 av3 (.node 245 iy (.node 242 iy (.node 240 av2 .nil .nil) (.node 244 iy .nil .nil)) (.node 248 iy (.node 246 iy .nil .nil) .nil)) (.node 258 azx (.node 256 iy (.node 250 av3 .nil .nil) (.node 257 azx .nil .nil)) (.node 260 av4 (.node 259 av4 .nil .nil) .nil)))))))
theorem atN {P:Program} {t:TypeId} {j:TypeInfo} {k:IntKind} (h:(P.info? t).map (·.zero)=a6 (a6 (.int k 0))) (d:P.info? t=a6 j):j.zero=a6 (.int k 0):=by rw[d]at h;simpa using h
theorem tkN {P:Program} {T:TT} {t:TypeId} {i:TI} (u:(P.info? t).map (fun f=>(f.size,f.bytes,f.zero.map fun z=>(z.cells.toList.map ut,z.cells.toList.all Value.oneCell')))=a6 (i.size,i.bytes,a6 (i.zero,true)):=by kernel_rfl)
  (h2:(P.underlying t).map jU=a6 (a6 i.k):=by kernel_rfl) (g:(match i.ty with|none=>a7|some _=>i.ty)=(match i.ty with|none=>a7|some _=>kH T i.k):=by kernel_rfl) (l:(match i.ty with|none=>true|some y=>Nat.beq y.size i.size)=true:=by kernel_rfl) (m:(i.isAgg||Nat.beq i.size 1)=true:=by kernel_rfl)
  (e:(!i.eq||(!P.eqGuardType P.depth t&&(!P.stoodInHeld t&&((P.underlying t).map (fun d=>match d with|.struct fs=>fs.toList.all fun f=>f.name != "_" |_=>false)).getD false)))=true:=by kernel_rfl)
  (v:(P.underlying t).map (fun d=>match d with|.struct fs=>fs.toList.all fun f=>(P.info? f.type).isSome|_=>true)=a6 true:=by kernel_rfl) (x:Nat.beq i.zero.length i.size=true:=by kernel_rfl)
  (p:(match i.ty with|some (.int .u8)=>Nat.beq t lS|_=>true)=true:=by kernel_rfl) (q:(!i.bld||Nat.beq t Q3)=true:=by kernel_rfl)
  (s:(match i.k with|.int _=>(P.info? t).map (fun j:TypeInfo=>j.zero)|_=>a7)=(match i.k with|.int k=>a6 (a6 (Value.int k 0))|_=>a7):=by kernel_rfl):awf P T t i:=fun _=>by
 refine⟨u,h2, ?_,fun y A=> ?_, ?_,fun B=> ?_,v,ag x,fun D=> ?_,fun E=> ?_,fun k hk j G=> ?_⟩
 .cases hi:i.ty with
  |none=>exact .inl rfl
  |some y=>rw[hi]at g;exact .inr g
 .rw[A]at l;exact ag l
 .rw[Bool.or_eq_true]at m;exact m.imp id ag
 .rw[B]at e;simp only[ak,Bool.false_or,ae,Bool.not_eq_true']at e;refine⟨e.1,e.2.1, ?_⟩;have h:=e.2.2;generalize (P.underlying t).map _=o at h ⊢;cases o with
  |none=>cases h
  |some b=>exact congrArg a6 h
 .rw[D]at p;exact ag p
 .rw[E]at q;exact ag q
 .rw[hk]at s;exact atN s G
theorem tok:TOk prog tt:=TOk.of_all (by repeat' first|exact trivial|refine⟨tkN, ?_, ?_⟩)
def ax5 (P:Program):Bool:=P.funcs.toList.all fun fn=>fn.body.isNone|| !(fn.name== "runtime.NumGoroutine")
theorem anR {P:Program} (h:ax5 P=true):Gf P:=fun f fn c d e=>by
 have g:=List.all_eq_true.1 h fn (by have:=Array.mem_of_getElem? d;simpa using this);simpa [e] using g
theorem OJ:Gf prog:=anR (by kernel_rfl)
theorem mixed:prog.follows .mixedOrders=true:=by kernel_rfl
noncomputable def sg0 (g:FuncId):Option Sum:=cond (Nat.beq g 201) (a6 aqx)<|cond (Nat.beq g 126) (a6 adF) a7
theorem aoZ: ∀g s,sg0 g=a6 s->dE prog g s:=fun g s h=>by
 unfold sg0 at h;rw[cond_eq_ite]at h;split at h
 .rename_i d
  obtain rfl:g=201:=ag d;cases h;exact(aaz func201 (by kernel_rfl) (by kernel_rfl) (by kernel_rfl) (by kernel_rfl))
 rw[cond_eq_ite]at h;split at h
 .rename_i d
  obtain rfl:g=126:=ag d;cases h;exact(TC func126 (by kernel_rfl) (by kernel_rfl) (by kernel_rfl) (by kernel_rfl))
 cases h
def aki:Go.Shelf.Ren:=⟨fun|240=>128|276=>161|n=>n,fun|0=>0|4=>4|9=>9|20=>20|37=>56|70=>123|72=>125|164=>195|n=>n,fun n=>n⟩
theorem adW:Go.Proofs.Lays.n240 prog aki:={
 mixed:=mixed,
 f240:=(func128).trans (by kernel_rfl),
 f276:=(func161).trans (by kernel_rfl),
 t0:=underlying0,a0:=isAgg0,z0:=sizeOf0,v0:=zeroValue0,
 t4:=underlying4,a4:=isAgg4,z4:=sizeOf4,v4:=zeroValue4,
 t9:=underlying9,a9:=isAgg9,z9:=sizeOf9,v9:=zeroValue9,
 t20:=underlying20,a20:=isAgg20,z20:=sizeOf20,v20:=zeroValue20,
 t70:=underlying123,a70:=isAgg123,z70:=sizeOf123,v70:=zeroValue123,
 t72:=underlying125,a72:=isAgg125,z72:=sizeOf125,v72:=zeroValue125,
 t164:=underlying195,a164:=isAgg195,z164:=sizeOf195,v164:=zeroValue195}
theorem aAi:Go.Proofs.Builder.X72 prog aki:={sizeBuilder:=by kernel_rfl,liesBuilder:=by kernel_rfl}
theorem aqZ:MN prog AP 128:=by
 intro w b t o n e d;simp[AP,aAl]at d
theorem aq0 (g:FuncId) (h:Ee g=true):vF prog AP g:=by
 simp only[Ee,ae]at h;obtain rfl:g=128:=ag h.1;exact⟨fun w b e f=>⟨yO OJ func128 (show f128.body=a6 ((f128.body).getD .skip) by kernel_rfl) _ _,fun d=>Any.Builder_copyCheck_used adW aAi b w d,fun d=>Any.Builder_copyCheck_fresh adW aAi b w d e f⟩,aqZ⟩
theorem awX (g:FuncId) (h:Ef g=true):F9 prog g:=by
 simp only[Ef,ae]at h;obtain rfl:g=ah3:=ag h.1;exact ah5
theorem Nu (g:FuncId):(Ee g=true->vF prog AP g)/\(Ef g=true->F9 prog g):=⟨aq0 g,awX g⟩
noncomputable def akv:Env:={P:=prog,T:=tt,cl:=true,kp:=fun _ _=>a7,sg:=sg0,lp:=fun _ _=>a7,bf:=Ee,em:=AP,il:=Ef}
theorem Z8: ∀E,qi prog E->aaQ E:=fun E h f k d e g=>att h f k d e g
theorem ad2:eF akv:=⟨tok,mixed,OJ,aoZ,fun f fn c _ _=>je (fun _=>rfl) (fun _=>rfl) c,Z8 _ fun f fn c _ _=>je (fun _=>rfl) (fun _=>rfl) c,Nu,fun _ _ h=>by cases h⟩
abbrev F7:Ty:=(.pair .str (.pair .bool .unit))
def xH (l:List F7.den):Option (List F7.den):=cond (dN l 24) (a6 l) a7
theorem YD (xs:List F7.den):jS akv 1000000 (.call 89 [.lst F7 xs false]) ⟨[],[],[],0⟩ (fun v st=>iL true [(.list F7,true)] (DY 1 v) st.hp)=(bif dN xs 24 then a6 (xs,())else a7):=by kernel_rfl
theorem YE:jS akv 1000000 (.call 89 [.lst F7 [] true]) ⟨[],[],[],0⟩ (fun v st=>match v,st.hp with|.nils,[]=>a6 ()|_,_=>a7)=a6 ():=by kernel_rfl
def uq (l:List F7.den):Option (List F7.den×Unit):=match xH l with|some y=>a6 (y,())|none=>a7
def P5:Sum:=⟨[.list F7],[(.list F7,true)],fun x=>uq x.1⟩
theorem xC:dE prog 89 P5:=by
 have base:=Ae ad2 (e:=F7) (e2:=F7) (g:=89) (f:=xH) (show 0<F7.size by decide) (show 0<F7.size by decide) (fun i y h=>by
  unfold xH at h;rw[YD];cases hf:dN i 24 with
  |true=>rw[hf]at h;cases h;rfl
  |false=>rw[hf]at h;cases h) fun y h=>by
  have e:xH []=a6 []:=rfl;rw[e]at h;cases h;exact⟨rfl,YE⟩
 intro w j l x y m o hd d;refine base w j l x y m o hd ?_;have d:uq x.1=a6 y:=d;unfold uq at d;cases hc:xH x.1 with
 |none=>rw[hc]at d;cases d
 |some z=>rw[hc]at d;simp only[hc];exact d
abbrev vz:Ty:=(.pair (.int .i64) (.pair (.int .i64) .unit))
def pq (l:List vz.den):Option (List vz.den):=cond (dN l 16) (a6 l) a7
theorem Uh (xs:List vz.den):jS akv 1000000 (.call 207 [.lst vz xs false]) ⟨[],[],[],0⟩ (fun v st=>iL true [(.list vz,true)] (DY 1 v) st.hp)=(bif dN xs 16 then a6 (xs,())else a7):=by kernel_rfl
theorem Ui:jS akv 1000000 (.call 207 [.lst vz [] true]) ⟨[],[],[],0⟩ (fun v st=>match v,st.hp with|.nils,[]=>a6 ()|_,_=>a7)=a6 ():=by kernel_rfl
def l9 (l:List vz.den):Option (List vz.den×Unit):=match pq l with|some y=>a6 (y,())|none=>a7
def wB:Sum:=⟨[.list vz],[(.list vz,true)],fun x=>l9 x.1⟩
theorem uX:dE prog 207 wB:=by
 have base:=Ae ad2 (e:=vz) (e2:=vz) (g:=207) (f:=pq) (show 0<vz.size by decide) (show 0<vz.size by decide) (fun i y h=>by
  unfold pq at h;rw[Uh];cases hf:dN i 16 with
  |true=>rw[hf]at h;cases h;rfl
  |false=>rw[hf]at h;cases h) fun y h=>by
  have e:pq []=a6 []:=rfl;rw[e]at h;cases h;exact⟨rfl,Ui⟩
 intro w j l x y m o hd d;refine base w j l x y m o hd ?_;have d:l9 x.1=a6 y:=d;unfold l9 at d;cases hc:pq x.1 with
 |none=>rw[hc]at d;cases d
 |some z=>rw[hc]at d;simp only[hc];exact d
noncomputable def sg1 (g:FuncId):Option Sum:=cond (Nat.beq g 89) (a6 P5)<|cond (Nat.beq g 207) (a6 wB)<|sg0 g
theorem adt: ∀g s,sg1 g=a6 s->dE prog g s:=fun g s h=>by
 unfold sg1 at h;rw[cond_eq_ite]at h;split at h
 .rename_i d
  obtain rfl:g=89:=ag d;cases h;exact xC
 rw[cond_eq_ite]at h;split at h
 .rename_i d
  obtain rfl:g=207:=ag d;cases h;exact uX
 exact aoZ g s h
noncomputable def aDD:Env:={P:=prog,T:=tt,cl:=true,kp:=fun _ _=>a7,sg:=sg1,lp:=fun _ _=>a7,bf:=Ee,em:=AP,il:=Ef}
theorem aDb:eF aDD:=⟨tok,mixed,OJ,adt,fun f fn c _ _=>je (fun _=>rfl) (fun _=>rfl) c,Z8 _ fun f fn c _ _=>je (fun _=>rfl) (fun _=>rfl) c,Nu,fun _ _ h=>by cases h⟩
end
section
open Go.ChangeShapes Go.WideShapes Go.RowKit
theorem au5 {P:Program} {w:World} {H:Type} {enc:TypeId×Value->H} {base:Nat} {spare:Nat->Bool} {held:Bool} {c:Cx} {f:Ty} {x:List f.den} {t e:TypeId} {v:Value} {d:DataW H} {m:List MemPlace}
  (o:P.underlying t=some (.slice e)) (hx:VD c (.list f) x v) (h:DataW.Trod enc P w base spare held t v d m):x.length=0\/ ∃g p,d=.slice g p/\g.length=x.length:=by
 have i:=(VD.leaf rfl).1 hx;simp only[dY]at i;obtain⟨a,k,y,j,z,A,B⟩:=i;simp only[List.cons.injEq,and_true]at j;obtain⟨D,l⟩:=h;subst j;have q:(Value.slice a x.length k).cells.toList=[.slice a x.length k]:=rfl;rw[q]at l;rcases DataW.trod_slice o l with ⟨s,u⟩|⟨E,G,I,J,K,n,s,u,L,M,N,O,S,U⟩
 all_goals simp_all
end
section
open Option renaming some → a6, none → a7
open Tryz
open Go.RowKit
theorem rH {E:Env} {f:FuncId} {c:Code} {k:dZ} {l i j:SP} {m p:Ex} {D:Nat} {lp:Nat->l.den->Option (i.den⊕j.den)}
  (st:{g:Type}->(l.den->Option g)->(i.den->Option g)->(j.den->Option g)->l.den->Option g)
  (hk:E.kp f (dn c)=a6 k:=by kernel_rfl) (q: ∀v,lp 0 v=a7:=by intro _;rfl) (s: ∀n v,lp (n+1) v=st (lp n) (fun e=>a6 (.inl e)) (fun r=>a6 (.inr r)) v:=by intro _ _;rfl)
  (u: ∀{R:Type} (d n:Nat) (K:Ex->St->Option R) (v:l.den),iter (a6 k) (yl E (d+D) f c) (n+1) (jA l v) K=st (fun v=>iter (a6 k) (yl E (d+D) f c) n (jA l v) K) (fun e=>K m (jA i e)) (fun r=>K p (jA j r)) v:=by intro _ d n K v;kernel_rfl)
  (h2: ∀{g A:Type} (x:l.den->Option g) (y:i.den->Option g) (z:j.den->Option g) (v:l.den) (K:g->Option A),bz (st x y z v) K=st (fun v=>bz (x v) K) (fun e=>bz (y e) K) (fun r=>bz (z r) K) v):
  dJ E f c (eP k l i j m (fun v=>lp bG v) D p):=by
 refine ail hk fun R d K v o h=>⟨bG, ?_⟩;have B: ∀(n:Nat) (v:l.den),iter (a6 k) (yl E (d+D) f c) n (jA l v) K=bz (lp n v) fun o=>dL o (fun a=>K m (jA i a)) fun b=>K p (jA j b):=by
  intro n
  induction n with
  |zero=>intro v;rw[q];rfl
  |succ n G=>intro v;rw[u,s,h2,funext G];rfl
 exact(B bG v).trans (congrArg (fun o=>bz o _) h)
theorem nU {E:Env} {f:FuncId} {c:Code} {k:dZ} {l i j:SQ} {m p:Ex} {D:Nat} {lp:Nat->l.den->Option (i.den⊕j.den)}
  (st:{g:Type}->(l.den->Option g)->(i.den->Option g)->(j.den->Option g)->l.den->Option g)
  (hk:E.kp f (dn c)=a6 k:=by kernel_rfl) (q: ∀v,lp 0 v=a7:=by intro _;rfl) (s: ∀n v,lp (n+1) v=st (lp n) (fun e=>a6 (.inl e)) (fun r=>a6 (.inr r)) v:=by intro _ _;rfl)
  (u: ∀{R:Type} (d n:Nat) (K:Ex->St->Option R) (v:l.den),iter (a6 k) (yl E (d+D) f c) (n+1) (oO l v) K=st (fun v=>iter (a6 k) (yl E (d+D) f c) n (oO l v) K) (fun e=>K m (oO i e)) (fun r=>K p (oO j r)) v:=by intro _ d n K v;kernel_rfl)
  (h2: ∀{g A:Type} (x:l.den->Option g) (y:i.den->Option g) (z:j.den->Option g) (v:l.den) (K:g->Option A),bz (st x y z v) K=st (fun v=>bz (x v) K) (fun e=>bz (y e) K) (fun r=>bz (z r) K) v):
  dJ E f c (fQ k l i j m (fun v=>lp bG v) D p):=by
 refine ab4 hk fun R d K v o h=>⟨bG, ?_⟩;have B: ∀(n:Nat) (v:l.den),iter (a6 k) (yl E (d+D) f c) n (oO l v) K=bz (lp n v) fun o=>dL o (fun a=>K m (oO i a)) fun b=>K p (oO j b):=by
  intro n
  induction n with
  |zero=>intro v;rw[q];rfl
  |succ n G=>intro v;rw[u,s,h2,funext G];rfl
 exact(B bG v).trans (congrArg (fun o=>bz o _) h)
theorem azv {E:Env} (d:eF E) {g:FuncId} {s:Sum} (e:news s.rs<=1) (h: ∀x,Ph E g s.ps s.rs x=s.f x):dE E.P g s:=
 P6 d e fun x y i=>(h x).trans i
theorem fL {E:Env} {f:FuncId} {c:Code} {L:dm} (e:E.lp f (dn c)=a6 L) (h2:dJ E f c L): ∀d,E.lp f (dn c)=a6 d->dJ E f c d:=fun d h=>by
 simp_all
theorem fC {E:Env} {f:FuncId} {c:Code} {L:dm} (e:E.lp f (800000+dn c)=a6 L) (h2:rJ E f c L): ∀d,E.lp f (800000+dn c)=a6 d->rJ E f c d:=fun d h=>by
 simp_all
theorem aC {d:Type} {p:d->Prop} {a:d} {l:List d} (h:p a/\ ∀x∈l,p x): ∀x∈a::l,p x:=List.forall_mem_cons.2 h
theorem aN {d:Type} {p:d->Prop}: ∀x∈([]:List d),p x:=fun _ h=>absurd h List.not_mem_nil
theorem avT {E:Env} (d:eF E) {g:FuncId} {s:fP} (h: ∀x y,aoq E g s.bt s.cs s.ps s.rs x y=s.f x y):dM E.P g s:=aay d fun x y _ e=>(h x y).trans e
theorem uV {P:Program} {g:FuncId} {s:fP} (h: ∀x y,s.f x y=a7):dM P g s:=fun W0 c x y z _ _ _ _ e _ d=>nomatch (show(a7:Option _)=a6 z from(h x y).symm.trans d)
theorem aD {d:Type} {p:d->Prop} {a:d} {l:List d} (h:p a) (h2: ∀x∈l,p x): ∀x∈a::l,p x:=aC ⟨h,h2⟩
theorem fM {E:Env} {f:FuncId} {c:Code} {L:dm} (h2:dJ E f c L) (e:E.lp f (dn c)=a6 L:=by kernel_rfl): ∀d,E.lp f (dn c)=a6 d->dJ E f c d:=fL e h2
theorem sA {E:Env} (d:eF E) {g:FuncId} {s:Sum} (e:news s.rs<=1:=by decide) (h: ∀x,Ph E g s.ps s.rs x=s.f x:=by intro x;kernel_rfl):dE E.P g s:=azv d e h
theorem sB {E:Env} (d:eF E) {g:FuncId} {s:fP} (h: ∀x y,aoq E g s.bt s.cs s.ps s.rs x y=s.f x y:=by intro x y;kernel_rfl):dM E.P g s:=avT d h
theorem nG {E:Env} {f:FuncId} {c:Code} (l:List Code) (h: ∀d∈l,∀L,E.lp f (dn d)=a6 L->dJ E f d L) (hl:jy c=l:=by kernel_rfl) (k:Ve E f c=true:=by kernel_rfl) (e: ∀id,E.rf f id=false:=by intro _;rfl):dI E f c:=ab5 c e (by rw[hl];exact h) k
theorem eA {f:FuncId} {sg:List (FuncId×Sum)} {kp:List (Nat×dZ)} {lp:List (Nat×dm)} {sb:List (FuncId×fP)} (fn:Func) (d: ∀e∈sg,dE prog e.1 e.2) (hl:dI (iE prog tt f sg kp lp sb) f (fn.body.getD .skip):=by exact je (fun _=>rfl) (fun _=>rfl) _) (hf:prog.funcs[f]? =a6 fn:=by kernel_rfl) (hb:fn.body=a6 (fn.body.getD .skip):=by kernel_rfl) (hx: ∀e∈sb,dM prog e.1 e.2:=by simp):eF (iE prog tt f sg kp lp sb):=alC tok mixed OJ d hf hb hl Z8 Nu hx
theorem eB {sg:List (FuncId×Sum)} {kp:List (FuncId×Nat×dZ)} {lp:List (FuncId×Nat×dm)} {rf:List FuncId} {sb:List (FuncId×fP)} (f: ∀e∈sg,dE prog e.1 e.2) (d:List FuncId) (hl: ∀g∈d,∃fn c,prog.funcs[g]? =a6 fn/\fn.body=a6 c/\dI (gB prog tt sg kp lp rf sb) g c) (hx: ∀e∈sb,dM prog e.1 e.2:=by simp) (h:(lp.all fun e=>d.any fun g=>Nat.beq e.1 g)=true:=by kernel_rfl) (i:(rf.all fun e=>d.any fun g=>Nat.beq e g)=true:=by kernel_rfl):eF (gB prog tt sg kp lp rf sb):=ahH tok mixed OJ f d h i hl Z8 Nu hx
theorem sE {g:FuncId} {s:Sum} {l:List (FuncId×Sum)} (h:dE prog g s) (h2: ∀e∈l,dE prog e.1 e.2): ∀e∈(g,s)::l,dE prog e.1 e.2:=aD (p:=fun e:FuncId×Sum=>dE prog e.1 e.2) h h2
theorem sF {g:FuncId} {s:fP} {l:List (FuncId×fP)} (h:dM prog g s) (h2: ∀e∈l,dM prog e.1 e.2): ∀e∈(g,s)::l,dM prog e.1 e.2:=aD (p:=fun e:FuncId×fP=>dM prog e.1 e.2) h h2
theorem qA {g:FuncId} {s:Sum} {sg:List (FuncId×Sum)} {sb:List (FuncId×fP)} (fn:Func) (kp:List (Nat×dZ)) (d: ∀e∈sg,dE prog e.1 e.2) (hx: ∀e∈sb,dM prog e.1 e.2:=by exact aN) (hf:prog.funcs[g]? =a6 fn:=by kernel_rfl) (hb:fn.body=a6 (fn.body.getD .skip):=by kernel_rfl) (h: ∀x,Ph (iE prog tt g sg kp [] sb) g s.ps s.rs x=s.f x:=by intro x;kernel_rfl) (i:news s.rs<=1:=by decide):dE prog g s:=azv (eA fn d (hl:=je (fun _=>by show(bif Nat.beq g g then a7 else a7)=a7;cases Nat.beq g g<;>rfl) (fun _=>rfl) _) (hf:=hf) (hb:=hb) (hx:=hx)) i h
theorem qC {g:FuncId} {s:Sum} {sg:List (FuncId×Sum)} {sb:List (FuncId×fP)} (kp:List (FuncId×Nat×dZ)) (d: ∀e∈sg,dE prog e.1 e.2) (hx: ∀e∈sb,dM prog e.1 e.2:=by exact aN) (h: ∀x,Ph (gB prog tt sg kp [] [] sb) g s.ps s.rs x=s.f x:=by intro x;kernel_rfl) (i:news s.rs<=1:=by decide):dE prog g s:=azv (eB d [] aN hx) i h
theorem qB {g:FuncId} {s:fP} {sg:List (FuncId×Sum)} {sb:List (FuncId×fP)} (kp:List (FuncId×Nat×dZ)) (d: ∀e∈sg,dE prog e.1 e.2) (hx: ∀e∈sb,dM prog e.1 e.2:=by exact aN) (h: ∀x y,aoq (gB prog tt sg kp [] [] sb) g s.bt s.cs s.ps s.rs x y=s.f x y:=by intro x y;kernel_rfl):dM prog g s:=avT (eB d [] aN hx) h
end
section
open Option renaming some → a6, none → a7
open Tryz
open Go.RowKit
def rP (d:List lZ) (e:Bool) (f g:Int):Option (Yj×(Unit)):=cond (fV d (ed .i64 (bD d) 1)) (cond (lN (dh (ed .i64 (bD d) 1)) d) (a6 (((ig d (dh (ed .i64 (bD d) 1)) (g,((dB d (0,(0,())) (dh (ed .i64 (bD d) 1))).2.1,()))),(e,(f,()))),())) a7) a7
def apw:fP:=⟨209,tzB,[dw],[],fun x y=>rP x.1 x.2.1 x.2.2.1 y.1⟩
theorem JG:dM prog 174 apw:=qB [] aN
def uD (d:List lZ) (e:Bool) (f:Int):Option (Yj×(Unit)):=cond (gJ 1 (bD d)) (cond (eG (bD d) 0 (ed .i64 (bD d) 1)) (a6 (((takeN d (dh (ed .i64 (bD d) 1))),(e,(f,()))),())) a7)<|some ((d,(e,(f,()))),())
def apx:fP:=⟨209,tzB,[],[],fun x y=>uD x.1 x.2.1 x.2.2.1⟩
theorem uj:dM prog 175 apx:=qB [] aN
def aer (d:List lZ) (e:Bool) (f:Int):Option (Yj×BR):=cond (fV d (zu (ed .i64 (bD d) 2) 0)) (cond (lN (dh (zu (ed .i64 (bD d) 2) 0)) d) (a6 ((d,(e,(f,()))),((dB d (0,(0,())) (dh (zu (ed .i64 (bD d) 2) 0))).1,()))) a7) a7
def ay6:fP:=⟨209,tzB,[],[dw],fun x y=>aer x.1 x.2.1 x.2.2.1⟩
theorem ai7:dM prog 202 ay6:=qB [] aN
def JX (f:List lZ) (g:Bool) (h i:Int):Option (Yj×nH):=cond (bJ i 40) (bz (rP f g h 3) fun d=>a6 ((d.1.1,(true,(d.1.2.2.1,()))),(true,())))<|cond (bJ i 123) (bz (aer f g h) fun d=>cond (bJ d.2.1 5) (cond (bJ d.2.1 5) (bz (rP d.1.1 d.1.2.1 d.1.2.2.1 8) fun e=>a6 ((e.1.1,(e.1.2.1,(e.1.2.2.1,()))),(true,())))<|bz (rP d.1.1 d.1.2.1 d.1.2.2.1 7) fun e=>a6 ((e.1.1,(e.1.2.1,(e.1.2.2.1,()))),(true,())))<|cond (bJ d.2.1 8) (bz (rP d.1.1 d.1.2.1 d.1.2.2.1 8) fun e=>a6 ((e.1.1,(e.1.2.1,(e.1.2.2.1,()))),(true,())))<|bz (rP d.1.1 d.1.2.1 d.1.2.2.1 7) fun e=>a6 ((e.1.1,(e.1.2.1,(e.1.2.2.1,()))),(true,())))<|cond (bJ i 36) (bz (uD f g h) fun d=>a6 ((d.1.1,(d.1.2.1,(d.1.2.2.1,()))),(true,())))<|bz (uD f g h) fun d=>a6 ((d.1.1,(d.1.2.1,(d.1.2.2.1,()))),(false,()))
def apv:fP:=⟨209,tzB,[.int .u8],[.bool],fun x y=>JX x.1 x.2.1 x.2.2.1 y.1⟩
theorem aiZ:dM prog 173 apv:=qB [] aN (sF JG (sF uj (sF ai7 aN)))
noncomputable def b76:Code:=(f76.body).getD .skip
noncomputable def yJ:Code:=cB (cB (cB (cB (cB (cB (cB (cA (cA (cB (b76))))))))))
noncomputable def yK:Code:=cB (cB (b76))
noncomputable def yL:Code:=cB (cA (cB (cA (cB (cB (b76))))))
noncomputable def yM:Code:=cB (cB (cB (cA (cB (cA (cB (cB (b76))))))))
def zf:dZ:=⟨[0,18,900011],[],[0],[],[2],[]⟩
def zg:dZ:=⟨[0,900012],[],[2],[],[2],[]⟩
def zh:dZ:=⟨[33,34,900020],[],[],[],[2],[]⟩
def zi:dZ:=⟨[42,900026],[],[],[],[2],[]⟩
def aq {a b c d e g h R:Type} (f:a->b->c->d->e->g->h->R) (v:((a×b×c×Unit)×((d×e×g×h×Unit)×Unit×Unit)×Unit)):R:=f v.1.1 v.1.2.1 v.1.2.2.1 v.2.1.1.1 v.2.1.1.2.1 v.2.1.1.2.2.1 v.2.1.1.2.2.2.1
def ar {a R:Type} (f:((a×Unit)×Unit)->R):a->R:=fun a=>f ((a,()),())
def aE {a b R:Type} (f:((a×b×Unit)×Unit)->R):a->b->R:=fun a b=>f ((a,b,()),())
def aL {a b c d R:Type} (f:((a×b×c×d×Unit)×Unit)->R):a->b->c->d->R:=fun a b c d=>f ((a,b,c,d,()),())
def aM {a b c d R:Type} (f:a->b->c->d->R) (v:((a×b×c×d×Unit)×Unit)):R:=f v.1.1 v.1.2.1 v.1.2.2.1 v.1.2.2.2.1
def aR {a b c R:Type} (f:((a×b×c×Unit)×Unit)->R):a->b->c->R:=fun a b c=>f ((a,b,c,()),())
def ba {a b c R:Type} (f:a->b->c->R) (v:((a×b×c×Unit)×Unit)):R:=f v.1.1 v.1.2.1 v.1.2.2.1
def bb {a b c d e g h i j k l R:Type} (f:a->b->c->d->e->g->h->i->j->k->l->R) (v:((a×b×c×d×Unit)×((e×g×h×i×j×Unit)×k×l×Unit))):R:=f v.1.1 v.1.2.1 v.1.2.2.1 v.1.2.2.2.1 v.2.1.1 v.2.1.2.1 v.2.1.2.2.1 v.2.1.2.2.2.1 v.2.1.2.2.2.2.1 v.2.2.1 v.2.2.2.1
def bc {a b c d e g R:Type} (f:(Unit×((a×Unit)×Unit×Unit×Unit)×((b×c×Unit)×d×Unit×(e×Unit)×g×Unit×Unit))->R):a->b->c->d->e->g->R:=fun a b c d e g=>f ((),((a,()),(),(),()),((b,c,()),d,(),(e,()),g,(),()))
def be {a b c d e g h i j k l m n o p q r s t u R:Type} (f:a->b->c->d->e->g->h->i->j->k->l->m->n->o->p->q->r->s->t->u->R) (v:((a×b×c×Unit)×((d×e×g×h×Unit)×(i×Unit)×Unit×Unit×Unit)×(j×(k×l×m×n×o×Unit)×p×Unit×Unit×(q×r×Unit)×s×Unit×(t×Unit)×u×Unit×Unit))):R:=f v.1.1 v.1.2.1 v.1.2.2.1 v.2.1.1.1 v.2.1.1.2.1 v.2.1.1.2.2.1 v.2.1.1.2.2.2.1 v.2.1.2.1.1 v.2.2.1 v.2.2.2.1.1 v.2.2.2.1.2.1 v.2.2.2.1.2.2.1 v.2.2.2.1.2.2.2.1 v.2.2.2.1.2.2.2.2.1 v.2.2.2.2.1 v.2.2.2.2.2.2.2.1.1 v.2.2.2.2.2.2.2.1.2.1 v.2.2.2.2.2.2.2.2.1 v.2.2.2.2.2.2.2.2.2.2.1.1 v.2.2.2.2.2.2.2.2.2.2.2.1
def bh {a b c d e g h i j k l m n o p R:Type} (f:a->b->c->d->e->g->h->i->j->k->l->m->n->o->p->R) (v:((a×Unit)×(Unit×Unit×Unit×Unit)×((b×c×d×e×Unit)×(g×h×i×Unit)×(j×Unit)×Unit×k×(l×m×n×Unit)×Unit×(o×p×Unit)×Unit))):R:=f v.1.1 v.2.2.1.1 v.2.2.1.2.1 v.2.2.1.2.2.1 v.2.2.1.2.2.2.1 v.2.2.2.1.1 v.2.2.2.1.2.1 v.2.2.2.1.2.2.1 v.2.2.2.2.1.1 v.2.2.2.2.2.2.1 v.2.2.2.2.2.2.2.1.1 v.2.2.2.2.2.2.2.1.2.1 v.2.2.2.2.2.2.2.1.2.2.1 v.2.2.2.2.2.2.2.2.2.1.1 v.2.2.2.2.2.2.2.2.2.1.2.1
def bj {a b c d e R:Type} (f:a->b->c->d->e->R) (v:((a×b×c×d×Unit)×(e×Unit))):R:=f v.1.1 v.1.2.1 v.1.2.2.1 v.1.2.2.2.1 v.2.1
def bk {a b c d e g R:Type} (f:((a×Unit)×(Unit×Unit)×((b×c×d×e×Unit)×g×Unit))->R):a->b->c->d->e->g->R:=fun a b c d e g=>f ((a,()),((),()),((b,c,d,e,()),g,()))
def bl {a b c d e g R:Type} (f:a->b->c->d->e->g->R) (v:((a×Unit)×(Unit×Unit)×((b×c×d×e×Unit)×g×Unit))):R:=f v.1.1 v.2.2.1.1 v.2.2.1.2.1 v.2.2.1.2.2.1 v.2.2.1.2.2.2.1 v.2.2.2.1
def bm {a b c d e R:Type} (f:(Unit×(Unit×Unit)×((a×b×c×d×Unit)×e×Unit))->R):a->b->c->d->e->R:=fun a b c d e=>f ((),((),()),((a,b,c,d,()),e,()))
def bo {a b c d e R:Type} (f:a->b->c->d->e->R) (v:(Unit×(Unit×Unit)×((a×b×c×d×Unit)×e×Unit))):R:=f v.2.2.1.1 v.2.2.1.2.1 v.2.2.1.2.2.1 v.2.2.1.2.2.2.1 v.2.2.2.1
def bp {a b c d e g h i j k l R:Type} (f:(Unit×((a×b×Unit)×(c×d×Unit)×(e×g×Unit)×Unit×Unit)×(Unit×Unit×h×(i×j×k×l×Unit)×Unit))->R):a->b->c->d->e->g->h->i->j->k->l->R:=fun a b c d e g h i j k l=>f ((),((a,b,()),(c,d,()),(e,g,()),(),()),((),(),h,(i,j,k,l,()),()))
def bq {a b c d e g R:Type} (f:(Unit×((a×b×Unit)×(c×d×Unit)×(e×g×Unit)×Unit×Unit)×Unit)->R):a->b->c->d->e->g->R:=fun a b c d e g=>f ((),((a,b,()),(c,d,()),(e,g,()),(),()),())
def br {a b c d e g h i j k l R:Type} (f:a->b->c->d->e->g->h->i->j->k->l->R) (v:(Unit×((a×b×Unit)×(c×d×Unit)×(e×g×Unit)×Unit×Unit)×(Unit×Unit×h×(i×j×k×l×Unit)×Unit))):R:=f v.2.1.1.1 v.2.1.1.2.1 v.2.1.2.1.1 v.2.1.2.1.2.1 v.2.1.2.2.1.1 v.2.1.2.2.1.2.1 v.2.2.2.2.1 v.2.2.2.2.2.1.1 v.2.2.2.2.2.1.2.1 v.2.2.2.2.2.1.2.2.1 v.2.2.2.2.2.1.2.2.2.1
def bs {a b c d e g R:Type} (f:a->b->c->d->e->g->R) (v:((a×b×c×d×e×Unit)×(g×Unit))):R:=f v.1.1 v.1.2.1 v.1.2.2.1 v.1.2.2.2.1 v.1.2.2.2.2.1 v.2.1
def bv {a b c d e g h i j k l m R:Type} (f:a->b->c->d->e->g->h->i->j->k->l->m->R) (v:((a×b×c×Unit)×((d×e×g×Unit)×(h×i×Unit)×(j×k×l×m×Unit)×Unit))):R:=f v.1.1 v.1.2.1 v.1.2.2.1 v.2.1.1 v.2.1.2.1 v.2.1.2.2.1 v.2.2.1.1 v.2.2.1.2.1 v.2.2.2.1.1 v.2.2.2.1.2.1 v.2.2.2.1.2.2.1 v.2.2.2.1.2.2.2.1
def bw {a b c d e g h i j k l m n o p R:Type} (f:a->b->c->d->e->g->h->i->j->k->l->m->n->o->p->R) (v:((a×b×c×Unit)×((d×e×g×Unit)×(h×i×Unit)×(j×k×l×m×Unit)×(n×o×p×Unit)×Unit))):R:=f v.1.1 v.1.2.1 v.1.2.2.1 v.2.1.1 v.2.1.2.1 v.2.1.2.2.1 v.2.2.1.1 v.2.2.1.2.1 v.2.2.2.1.1 v.2.2.2.1.2.1 v.2.2.2.1.2.2.1 v.2.2.2.1.2.2.2.1 v.2.2.2.2.1.1 v.2.2.2.2.1.2.1 v.2.2.2.2.1.2.2.1
def cJ:FK:=.ptr 0 0
def cz:FK:=.fn 239 [(1000001,0),(2000003,0)]
def bE:FK:=.v dw
def ei:FK:=.ptr 1000001 0
def bL:List FK:=[cJ]
def bx:List (List FK):=[us [cJ,.u,cz,.u,.u,.u,bE,bE,.u,.u,.u,.u,.u,.u,.u,.u,.u,.u,.u,.u,.u,.u,.u,.u,.u,.u,.u,.u,.u,.u,.u,.u,.u,.u,.u,.u,.u,cz] 16,us [cJ,bE,cz,.u,.u,.u,.u,.u,.u,.u,.u,.u,.u,cJ,bE,cz] 8,[.u,ei,bE,.ptr 2000003 0,.u,.u,.u,.u,.u,.u,.u,.u,.u,.u,.u,.u,.u,.u,.u,.u,.u,.u,.u,.u,.u,.u,.u,.u,cJ,bE,cz,.u],bL]
def bA:HK:=.box 0 118 [.v DR,bE,.slc 1,bE,bE]
def bB:FK:=.v .str
def bN:HK:=.box 1000003 125 [.slf 1000003,.slc 1500003]
def eg:FK:=.ptr 2000001 0
def cF:FK:=.fn 183 [(3000003,0),(3000002,0)]
def bX:FK:=.v .bool
def cS:FK:=.ptr 2000011 0
def bO:List FK:=[.u,eg,.ptr 3000002 0,.ptr 3000003 0,cF,bE,.ptr 3000006 0,.u,.u,.u,.u,.u,.u,.u,.u,.u,.u,.u,.u,.u,.u,.u,.u,.u,.u,.u,.u,.u,.u,.u,.u,.u,.u,.u,.u,.u,.u,.u,.u,.u,.u,.u,.u,.u,.u,.u,.u,.u,.u,.u,.u,.u,.u,.u,.u,.u,.u,.u,.u,.u,.u,.u,.u,.u,.u,.u,.u,.u,.u,.u,.u,.u,.u,.u,.u,.u,.u,.u,.u,.u,.u,.u,.u,.u,.u,.u,.u,.u,.u,.u,.u,.u,.u,.u,.u,.u,.u,.u,.u,.u,.u,cF,bX,bX,cS,.v F6,.yld 1700008,.u,.u,.u,.u,.u]
def d8:FK:=.fn 215 [(1000001,0)]
def bR:List (List FK):=[us [cJ,.u,d8,.u,.u,.u,bE,bE,.u,.u,.u,.u,.u,.u,.u,.u,.u,.u,.u,.u,.u,.u,.u,.u,.u,.u,.u,.u,.u,.u,.u,.u,.u,.u,.u,.u,.u,d8] 16,[.u,ei,.u,.u,.u,.u,.u,cJ,d8,.u],bL]
def dk:FK:=.ptr 3000011 0
def ez:FK:=.v JL
def bS:List FK:=[.u,bB,.u,.u,.u,dk,ez,.u,.u,.u,.u,.u,.u,.u,.u,.u,.u,.u,.u,.u,.u,.u,.u,.u,.u,.u,.u,.u,.u,.u,.u,.u,.u,.u,.u,.u,.u,.u,.u,.u,.u,.u,.u,.u,.u,.u,.u,.u,.u,.u,.u,.u,.u,.u,.u,.u,.u,.u,.u,.u,.u,.u,dk,bB,.u,.u,.u,.u,.u]
def cq:HK:=.box 2000011 214 [bB,.v QT,.mpv 2000009]
def cQ:HK:=.mp 2000009 .i64 .i64
def d9:HK:=.box 2000001 181 [cS]
def cD:FK:=.ptr 1000003 0
def ca:List FK:=us [.u,.u,bB,cD] 9
def ck:HK:=.arr 1500003 (.int .u8)
def b6:List HK:=[cq,cQ,d9,.lp 1700008 98 (ca) [8] 4 0 a7,ck,bN]
def cK:List FK:=[.yld 1700008]
def b9:List HK:=[.arr 4800009 (.int .u8),.box 3000006 145 [bE,bE,bE,bE,bX],.arr 3500003 (.int .u8),.box 3000003 56 [.nils],.box 3000002 215 cK,cq,cQ,d9,.lp 1700008 98 (ca) [8] 4 0 a7,ck,bN]
def ej:FK:=.ptr 1000004 0
def cy:FK:=.ptr 1000005 0
def ce:List FK:=us [.u,.u,.nils,cD,ej,cy] 13
def cf:List HK:=[.arr 3500003 (.int .u8),.box 3000003 56 [.slc 3500003],.box 3000002 215 cK,cq,cQ,d9,.lp 1700008 98 (ca) [8] 4 0 a7,ck,bN]
def cN:HK:=.arr 1000012 (.pair .str tyJ)
def cg:List HK:=[.box 1000008 145 [bE,bE,bE,bE,bX],.arr 1800005 F6,cN]
def ci:HK:=.box 1000001 116 bL
def cj:HK:=.arr 1 BX
def dr:FK:=.v (.list Qk)
def cm:List HK:=[.lp 1700014 96 (us [.u,.u,bB,.u,.u,cy] 15) [14] 5 0 a7,.box 2000001 173 [dr],.box 1000005 56 [.slc 1500005],.arr 1500005 (.int .u8)]
def co:List (List FK):=[us [ez,bB,.u,.u,.u,.u,.u,.u,.u,.u,.u,.u,.u,.u,.u,.u,.u,.u,.u,.u,.u,ez] 47,[]]
def dq:HK:=.box 1000009 230 [.slc 1500009,.slc 1502009]
def cr:List HK:=[.arr 1502009 dw,.arr 1500009 F6,dq]
def ct:List FK:=[bE,.v (.list D5),bX]
def cw:List FK:=[cJ,bB,.u,.u,.u,.u,cJ,cJ,.ptr 0 1,.slc 1,bB,.u,.u,.u]
def cx:List HK:=[.box 0 230 [.slc 1,.slc 2],.arr 1 F6,.arr 2 dw]
def cC:HK:=.box 2000004 209 [.slc 2000002,bX,bE]
def ev:HK:=.box 1000005 53 ct
def cE:List HK:=[.box 1000011 53 ct,.box 1000007 53 [bE,.nils,bX],.box 1000006 50 [bE,bE,bE,bX],ev]
def cG:List FK:=us [ei] 12
def cH:HK:=.box 3000011 60 [bE,.slc 3502011]
def cI:List FK:=[.u,.u,.u,.u,bE]
def cL:List FK:=us [bB,bE,.u,.u,.u,cy,.ptr 1000006 0,.ptr 1000007 0,.u,.u,.u,.ptr 1000011 0,.u,.u,bE] 171
def cM:FK:=.v (.int .u8)
def cP:List (List FK):=[us [.u,.u,bB,.u,.u,cy] 15,[.yld 1700014],[]]
def cR:List HK:=[.box 1000011 53 ct,.box 1000007 53 [bE,.nils,bX],.box 1000006 50 [bE,bE,bE,bX]]
def cT:List FK:=[bB,bE,.u,.u,.u,.u,.u,.u,.u,bB,bE,.u]
def cU:List FK:=[bB,bE,.u,.u,.u,bB,bE,.u,.u,.u,.u,.u]
def en:List FK:=[bB,.v (.list dw),bX]
def cV:List HK:=[.box 1000003 104 en,.box 1000002 104 [bB,.nils,bX]]
def cW:List HK:=[bA,cj]
def cX:List HK:=[.box 1000005 77 [bB,bX]]
def cY:HK:=.arr 2000002 Qk
def c6:HK:=.box 1000004 145 [bE,bE,bE,bE,bX]
def c7:FK:=.slc 1000012
def c8:List FK:=us [.u,.u,.u,.u,.u,.u,.u,bE] 25
def c9:List FK:=us [] 13
def da:FK:=.v (.list .str)
def db:List FK:=[.u,.u,.u,.u,bX]
def de:List FK:=us [.u,.u,.u,.u,.u,.u,bB] 103
def dg:List FK:=us [.u,.u,.v QT] 119
def dj:FK:=.slc 1800005
def dt:List FK:=[bB,bE,.u,.u,.u,bB,bE,.u]
def du:HK:=.arr 3502011 tyG
def dv:List HK:=[cY,.box 0 209 [.slc 2000002,bX,bE],.arr 1 Qk]
def dx:List HK:=[.box 2000003 1 [.mfn 234 [(0,0)]],ci,cj,bA]
def dy:List HK:=[.box 2000003 1 [.mfn 235 [(0,0)]],ci,cj,bA]
def dz:List HK:=[.box 2000003 1 [.mfn 236 [(0,0)]],ci,cj,bA]
def d5:List HK:=[.box 2000003 1 [.mfn 237 [(0,0)]],ci,cj,bA]
def d6:List HK:=[.box 2000003 1 [.mfn 238 [(0,0)]],ci,cj,bA]
def d7:List HK:=[.box 2000003 1 [.mfn 233 [(0,0)]],ci,cj,bA]
def eb:List FK:=us [.u,.u,bE] 45
def ec:FK:=.ptr 1000009 0
def ef:FK:=.ptr 2000004 0
def eh:FK:=.ptr 1000008 0
def ek:List FK:=us [bB,.u,.u,.u,.u,cy,.u,.u,.u,bE,bE] 63
def eo:List FK:=[.u,.u,bX]
def er:List FK:=[.u,.u,bB]
def ey:List HK:=[.box 0 209 [.slc 1,bX,bE],.arr 1 Qk]
def eC:HK:=.arr 1000015 .str
def Fb:SP:=⟨us [cM,.u,.u,.u,.u,.u,.u,.u,.u,.u,.u,.u,.u,.u,.u,.u,.u,.u,bX] 29,[]⟩
def qW:SP:=⟨us [cM] 47,[]⟩
def qX:SP:=⟨eb,[]⟩
def BJ {d:Type} (e f:Int->Option d) (g:Int) (h:Bool):Option d:=cond h (f 5)<|e g
def kX (d:Int) (e:Bool):Option (qW.den⊕qX.den):=BJ (fun f=>a6 (.inl ((f,()),()))) (fun g=>a6 (.inr ((g,()),()))) d e
noncomputable def Ku:dm:=eP zf Fb qW qX (.exit 999999) (fun v=>kX v.1.1 v.1.2.1) 6
def Fg:SP:=⟨[.u,.u,.u,.u,.u,.u,.u,.u,.u,.u,.u,.u,.u,.u,.u,.u,.u,.u,.u,.u,.u,.u,.u,.u,.u,.u,.u,.u,.u,.u,.u,.u,.u,.u,.u,.u,.u,.u,.u,.u,.u,.u,bX,.u,.u,.u,.u,.u],[]⟩
def vV:SP:=⟨us [] 48,[]⟩
def vZ:SP:=⟨eb,[]⟩
def BM {d:Type} (e:Option d) (f:Int->Option d) (g:Bool):Option d:=cond g (f 4) e
def kY (d:Bool):Option (vV.den⊕vZ.den):=BM (a6 (.inl ((),()))) (fun e=>a6 (.inr ((e,()),()))) d
noncomputable def Ky:dm:=eP zi Fg vV vZ (.exit 999999) (fun v=>kY v.1.1) 12
def Ff:SP:=⟨us [.u,.u,.u,.u,.u,.u,.u,.u,.u,.u,.u,.u,.u,.u,.u,.u,.u,.u,.u,.u,.u,.u,.u,.u,.u,.u,.u,.u,.u,.u,.u,.u,.u,cM,bX] 13,[]⟩
def vU:SP:=⟨us [] 48,[]⟩
def vY:SP:=⟨eb,[]⟩
def BL {j:Type} (h:Option j) (g:Int->Option j) (d:Int) (l:Bool):Option j:=cond l (g 3)<|cond (bJ d 92) (bz (kY (bJ d 92)) fun e=>dL e (fun i=>h) (fun f=>g f.1.1))<|cond (bJ d 39) (bz (kY (bJ d 39)) fun e=>dL e (fun i=>h) (fun f=>g f.1.1))<|cond (bJ d 34) (bz (kY (bJ d 34)) fun e=>dL e (fun i=>h) (fun f=>g f.1.1))<|cond (bJ d 96) (bz (kY (bJ d 96)) fun e=>dL e (fun i=>h) (fun f=>g f.1.1))<|bz (kY (bJ d 36)) fun e=>dL e (fun i=>h) (fun f=>g f.1.1)
def jF (d:Int) (e:Bool):Option (vU.den⊕vY.den):=BL (a6 (.inl ((),()))) (fun f=>a6 (.inr ((f,()),()))) d e
noncomputable def Kw:dm:=eP zh Ff vU vY (.exit 999999) (fun v=>jF v.1.1 v.1.2.1) 18
def Fe:SP:=⟨us [cM] 47,[]⟩
def vT:SP:=⟨[],[]⟩
def vX:SP:=⟨eb,[]⟩
def BK {i:Type} (j:Option i) (e:Int->Option i) (d:Int):Option i:=cond (bJ d 124) (bz (jF d (bJ d 124)) fun f=>dL f (fun h=>e 0) (fun g=>e g.1.1))<|cond (bJ d 38) (bz (jF d (bJ d 38)) fun f=>dL f (fun h=>e 0) (fun g=>e g.1.1))<|cond (bJ d 59) (bz (jF d (bJ d 59)) fun f=>dL f (fun h=>e 0) (fun g=>e g.1.1))<|cond (bJ d 60) (bz (jF d (bJ d 60)) fun f=>dL f (fun h=>e 0) (fun g=>e g.1.1))<|cond (bJ d 62) (bz (jF d (bJ d 62)) fun f=>dL f (fun h=>e 0) (fun g=>e g.1.1))<|cond (bJ d 40) (bz (jF d (bJ d 40)) fun f=>dL f (fun h=>e 0) (fun g=>e g.1.1))<|bz (jF d (bJ d 41)) fun f=>dL f (fun h=>e 0) (fun g=>e g.1.1)
def vM (d:Int):Option (vT.den⊕vX.den):=BK (a6 (.inl ((),()))) (fun e=>a6 (.inr ((e,()),()))) d
noncomputable def Kv:dm:=eP zg Fe vT vX (.exit 0) (fun v=>vM v.1.1) 24
def NR (d:qW.den⊕qX.den):Option BR:=dL d (fun e=>bz (vM e.1.1) fun f=>dL f (fun i=>a7) (fun g=>a6 (g.1.1,()))) (fun h=>a6 (h.1.1,()))
def UH (d:Int):Option BR:=cond (leI 65 d) (cond (leI d 90) (bz (kX d (leI d 90)) fun e=>NR e)<|bz (kX d (bJ d 95)) fun e=>NR e)<|bz (kX d (bJ d 95)) fun e=>NR e
def al8 (d:Int):Option BR:=cond (bJ d 10) (a6 (2,()))<|cond (leI 48 d) (cond (leI d 57) (a6 (6,()))<|cond (leI 97 d) (cond (leI d 122) (bz (kX d (leI d 122)) fun e=>NR e)<|UH d)<|UH d)<|cond (leI 97 d) (cond (leI d 122) (bz (kX d (leI d 122)) fun e=>NR e)<|UH d)<|UH d
def Qo (d:Int):Option BR:=cond (bJ d 32) (cond (bJ d 32) (a6 (1,()))<|al8 d)<|cond (bJ d 9) (a6 (1,()))<|al8 d
def aql:Sum:=⟨[.int .u8],Ql,fun x=>Qo x.1⟩
noncomputable def uu:Env:=iE prog tt 76 [] [(800011,zf),(800012,zg),(800020,zh),(800026,zi)] [(800011,Ku),(800026,Ky),(800020,Kw),(800012,Kv)]
theorem QL {R:Type} (d:Nat) (K:Ex->St->Option R) (e:Int) (f:Bool):
  iter (a6 zf) (Am (yl uu (d+6) 76 yJ)) 1 (jA Fb ((e,f,()),())) K=
   BJ (fun g=>K (.exit 999999) (jA qW ((g,()),()))) (fun h=>K .ret (jA qX ((h,()),()))) e f:=by kernel_rfl
theorem Zf {R:Type} (d:Nat) (K:Ex->St->Option R) (e:Int) (f:Bool):
  iter (a6 zf) (Am (yl uu (d+6) 76 yJ)) 1 (jA Fb ((e,f,()),())) K=bz (kX e f) fun o=>dL o (fun a=>K (.exit 999999) (jA qW a)) fun b=>K .ret (jA qX b):=by
  rw[QL];simp only[kX,BJ,bV,bW,bu,bT,bY]
  try simp only[dL]
theorem ZL:rJ uu 76 yJ Ku:=Ak (by kernel_rfl) fun R d K v o h=>⟨1,(Zf d K (v.1.1) (v.1.2.1)).trans (congrArg (fun o=>bz o _) h)⟩
theorem QO {R:Type} (d:Nat) (K:Ex->St->Option R) (e:Bool):
  iter (a6 zi) (Am (yl uu (d+12) 76 yM)) 1 (jA Fg ((e,()),())) K=
   BM (K (.exit 999999) (jA vV ((),()))) (fun f=>K .ret (jA vZ ((f,()),()))) e:=by kernel_rfl
theorem Zi {R:Type} (d:Nat) (K:Ex->St->Option R) (e:Bool):
  iter (a6 zi) (Am (yl uu (d+12) 76 yM)) 1 (jA Fg ((e,()),())) K=bz (kY e) fun o=>dL o (fun a=>K (.exit 999999) (jA vV a)) fun b=>K .ret (jA vZ b):=by
  rw[QO];simp only[kY,BM,bV,bW,bu,bT,bY]
  try simp only[dL]
theorem ZO:rJ uu 76 yM Ky:=Ak (by kernel_rfl) fun R d K v o h=>⟨1,(Zi d K (v.1.1)).trans (congrArg (fun o=>bz o _) h)⟩
theorem QN {R:Type} (d:Nat) (K:Ex->St->Option R) (e:Int) (f:Bool):
  iter (a6 zh) (Am (yl uu (d+18) 76 yL)) 1 (jA Ff ((e,f,()),())) K=
   BL (K (.exit 999999) (jA vU ((),()))) (fun g=>K .ret (jA vY ((g,()),()))) e f:=by kernel_rfl
theorem Zh {R:Type} (d:Nat) (K:Ex->St->Option R) (e:Int) (f:Bool):
  iter (a6 zh) (Am (yl uu (d+18) 76 yL)) 1 (jA Ff ((e,f,()),())) K=bz (jF e f) fun o=>dL o (fun a=>K (.exit 999999) (jA vU a)) fun b=>K .ret (jA vY b):=by
  rw[QN];simp only[jF,BL,bV,bW,bu,bT,bY]
  try simp only[dL]
theorem ZN:rJ uu 76 yL Kw:=Ak (by kernel_rfl) fun R d K v o h=>⟨1,(Zh d K (v.1.1) (v.1.2.1)).trans (congrArg (fun o=>bz o _) h)⟩
theorem QM {R:Type} (d:Nat) (K:Ex->St->Option R) (e:Int):
  iter (a6 zg) (Am (yl uu (d+24) 76 yK)) 1 (jA Fe ((e,()),())) K=
   BK (K (.exit 0) (jA vT ((),()))) (fun f=>K .ret (jA vX ((f,()),()))) e:=by kernel_rfl
theorem Zg {R:Type} (d:Nat) (K:Ex->St->Option R) (e:Int):
  iter (a6 zg) (Am (yl uu (d+24) 76 yK)) 1 (jA Fe ((e,()),())) K=bz (vM e) fun o=>dL o (fun a=>K (.exit 0) (jA vT a)) fun b=>K .ret (jA vX b):=by
  rw[QM];simp only[vM,BK,bV,bW,bu,bT,bY]
  try simp only[dL]
theorem ZM:rJ uu 76 yK Kv:=Ak (by kernel_rfl) fun R d K v o h=>⟨1,(Zg d K (v.1.1)).trans (congrArg (fun o=>bz o _) h)⟩
theorem aA9:jy b76=[]:=by kernel_rfl
theorem aAg:IR uu 76 b76=[yJ,yK,yL,yM]:=by kernel_rfl
theorem aBE:dI uu 76 b76:=AV b76 (fun x _ d=>absurd (show false=true from d) (by decide)) (by rw[aA9];exact aN) (GY (by rw[aAg];exact(aD (fC (by kernel_rfl) (ZL)) (aD (fC (by kernel_rfl) (ZM)) (aD (fC (by kernel_rfl) (ZN)) (aD (fC (by kernel_rfl) (ZO)) aN))))))
theorem alm:eF uu:=eA f76 aN (aBE)
theorem uU:dE prog 76 aql:=sA alm
def Ea (e:Int):Option nH:=bz (Qo e) fun d=>cond (bJ d.1 1) (cond (bJ d.1 1) (a6 (true,()))<|some (false,()))<|cond (bJ d.1 2) (cond (bJ d.1 2) (a6 (true,()))<|some (false,()))<|cond (bJ d.1 3) (a6 (true,()))<|some (false,())
def ay0:Sum:=⟨[.int .u8],Ip,fun x=>Ea x.1⟩
theorem Tz:dE prog 172 ay0:=qA f172 [] (sE uU aN)
def uF (f:List lZ) (g:Bool) (d e:Int):Option (Yj×(Unit)):=cond (bJ e e) (cond (bJ d d) (cond (dN (bP f [(e,(d,()))]) 16) (cond (bJ e e) (cond (bJ d d) (cond ((bJ e e)&&((bJ d d)&&true)) (a6 (((bP f [(e,(d,()))]),(g,(d,()))),())) a7) a7) a7) a7) a7) a7
def ay8:fP:=⟨209,tzB,[dw],[],fun x y=>uF x.1 x.2.1 x.2.2.1 y.1⟩
theorem yF:dM prog 204 ay8:=qB [] aN
def NQ (e:List lZ) (f:Bool) (g h:Int):Option (Yj×nH):=cond (bJ h 92) (bz (uF e f g 13) fun d=>a6 ((d.1.1,(d.1.2.1,(d.1.2.2.1,()))),(true,())))<|cond (bJ h 36) (bz (uF e f g 12) fun d=>a6 ((d.1.1,(d.1.2.1,(d.1.2.2.1,()))),(true,())))<|cond (bJ h 96) (bz (uF e f g 6) fun d=>a6 ((d.1.1,(d.1.2.1,(d.1.2.2.1,()))),(true,())))<|some ((e,(f,(g,()))),(false,()))
def aze:fP:=⟨209,tzB,[.int .u8],[.bool],fun x y=>NQ x.1 x.2.1 x.2.2.1 y.1⟩
theorem JJ:dM prog 222 aze:=qB [] aN (sF yF aN)
def GM (d:Int) (e:List lZ) (f:Int):Option (Yj×(Unit)):=bz (Ea d) fun g=>a6 ((e,(g.1,(f,()))),())
def Ru (f:List lZ) (h:Bool) (g j e:Int):Option (Yj×(Unit)):=cond (bJ e 92) (bz (uF f h g 13) fun d=>a6 ((d.1.1,(d.1.2.1,(d.1.2.2.1,()))),()))<|cond (bJ e 35) (cond h (bz (uF f h g 14) fun d=>a6 ((d.1.1,(d.1.2.1,(d.1.2.2.1,()))),()))<|GM e f g)<|cond (bJ e 40) (cond (!(bJ j 0)) (bz (uF f h g 2) fun d=>bz (Ea e) fun i=>a6 ((d.1.1,(i.1,(d.1.2.2.1,()))),()))<|GM e f g)<|cond (bJ e 41) (cond (!(bJ j 0)) (bz (uD f h g) fun d=>a6 ((d.1.1,((!(bJ j 1)),(d.1.2.2.1,()))),()))<|some ((f,((!(bJ j 1)),(g,()))),()))<|cond (bJ e 39) (bz (uF f h g 4) fun d=>bz (Ea e) fun i=>a6 ((d.1.1,(i.1,(d.1.2.2.1,()))),()))<|cond (bJ e 34) (bz (uF f h g 5) fun d=>bz (Ea e) fun i=>a6 ((d.1.1,(i.1,(d.1.2.2.1,()))),()))<|cond (bJ e 36) (cond (bJ e 36) (bz (NQ f h g e) fun d=>bz (Ea e) fun i=>a6 ((d.1.1,(i.1,(d.1.2.2.1,()))),()))<|GM e f g)<|cond (bJ e 96) (bz (NQ f h g e) fun d=>bz (Ea e) fun i=>a6 ((d.1.1,(i.1,(d.1.2.2.1,()))),()))<|GM e f g
def ay7:fP:=⟨209,tzB,[dw,.int .u8],[],fun x y=>Ru x.1 x.2.1 x.2.2.1 y.1 y.2.1⟩
theorem ai8:dM prog 203 ay7:=qB [] (sE Tz aN) (sF uj (sF yF (sF JJ aN)))
def aes (g:List lZ) (h:Bool) (i j f:Int):Option (Yj×(Unit)):=bz (NQ g h i f) fun d=>cond d.2.1 (a6 ((d.1.1,(d.1.2.1,(d.1.2.2.1,()))),()))<|cond (bJ f 40) (bz (uF d.1.1 d.1.2.1 d.1.2.2.1 10) fun e=>a6 ((e.1.1,(e.1.2.1,(e.1.2.2.1,()))),()))<|cond (bJ f 41) (cond (bJ j 10) (bz (uD d.1.1 d.1.2.1 d.1.2.2.1) fun e=>a6 ((e.1.1,(e.1.2.1,(e.1.2.2.1,()))),()))<|cond (bJ f 41) (bz (rP d.1.1 d.1.2.1 d.1.2.2.1 11) fun e=>a6 ((e.1.1,(e.1.2.1,(e.1.2.2.1,()))),()))<|some ((d.1.1,(d.1.2.1,(d.1.2.2.1,()))),()))<|cond (bJ f 41) (bz (rP d.1.1 d.1.2.1 d.1.2.2.1 11) fun e=>a6 ((e.1.1,(e.1.2.1,(e.1.2.2.1,()))),()))<|some ((d.1.1,(d.1.2.1,(d.1.2.2.1,()))),())
def ay9:fP:=⟨209,tzB,[dw,.int .u8],[],fun x y=>aes x.1 x.2.1 x.2.2.1 y.1 y.2.1⟩
theorem ai9:dM prog 205 ay9:=qB [] aN (sF JG (sF uj (sF yF (sF JJ aN))))
def UB (f g:Int) (d:(Yj×nH)):Option (Yj×(Unit)):=cond (bJ f 39) (cond (bJ g 7) (bz (uF d.1.1 d.1.2.1 d.1.2.2.1 4) fun e=>a6 ((e.1.1,(e.1.2.1,(e.1.2.2.1,()))),()))<|some ((d.1.1,(d.1.2.1,(d.1.2.2.1,()))),()))<|some ((d.1.1,(d.1.2.1,(d.1.2.2.1,()))),())
def UC (f:Int) (d:(Yj×nH)) (g:Int):Option (Yj×(Unit)):=cond (bJ f 34) (bz (uF d.1.1 d.1.2.1 d.1.2.2.1 5) fun e=>a6 ((e.1.1,(e.1.2.1,(e.1.2.2.1,()))),()))<|cond (bJ f 125) (cond (!(bJ g 5)) (bz (uD d.1.1 d.1.2.1 d.1.2.2.1) fun e=>a6 ((e.1.1,(e.1.2.1,(e.1.2.2.1,()))),()))<|UB f g d)<|UB f g d
def aet (h:List lZ) (i:Bool) (j f e:Int):Option (Yj×(Unit)):=bz (NQ h i j e) fun d=>cond d.2.1 (a6 ((d.1.1,(d.1.2.1,(d.1.2.2.1,()))),()))<|cond (bJ e 34) (cond (bJ f 5) (bz (uD d.1.1 d.1.2.1 d.1.2.2.1) fun g=>a6 ((g.1.1,(g.1.2.1,(g.1.2.2.1,()))),()))<|UC e d f)<|UC e d f
def aza:fP:=⟨209,tzB,[dw,.int .u8],[],fun x y=>aet x.1 x.2.1 x.2.2.1 y.1 y.2.1⟩
theorem aja:dM prog 206 aza:=qB [] aN (sF uj (sF yF (sF JJ aN)))
def yX (h:Int) (e:List lZ) (f:Bool) (g i:Int):Option (Yj×(Unit)):=cond (bJ h 13) (bz (uD e f g) fun d=>cond d.1.2.1 (a6 ((d.1.1,((bJ i 10),(d.1.2.2.1,()))),()))<|some ((d.1.1,(false,(d.1.2.2.1,()))),()))<|cond (bJ h 4) (cond (bJ i 39) (bz (uD e f g) fun d=>a6 ((d.1.1,(d.1.2.1,(d.1.2.2.1,()))),()))<|some ((e,(f,(g,()))),()))<|cond (bJ h 14) (cond (bJ i 10) (bz (uD e f g) fun d=>a6 ((d.1.1,(true,(d.1.2.2.1,()))),()))<|some ((e,(f,(g,()))),()))<|cond (bJ h 6) (cond (bJ i 96) (bz (uD e f g) fun d=>a6 ((d.1.1,(d.1.2.1,(d.1.2.2.1,()))),()))<|cond (bJ i 92) (bz (uF e f g 13) fun d=>a6 ((d.1.1,(d.1.2.1,(d.1.2.2.1,()))),()))<|some ((e,(f,(g,()))),()))<|cond (bJ h 9) (cond (bJ h 9) (bz (aes e f g h i) fun d=>a6 ((d.1.1,(d.1.2.1,(d.1.2.2.1,()))),()))<|bz (aet e f g h i) fun d=>a6 ((d.1.1,(d.1.2.1,(d.1.2.2.1,()))),()))<|cond (bJ h 10) (bz (aes e f g h i) fun d=>a6 ((d.1.1,(d.1.2.1,(d.1.2.2.1,()))),()))<|bz (aet e f g h i) fun d=>a6 ((d.1.1,(d.1.2.1,(d.1.2.2.1,()))),())
def JY (f:List lZ) (g:Bool) (h d i:Int):Option (Yj×(Unit)):=cond (bJ d 0) (cond (bJ d 0) (bz (Ru f g h d i) fun e=>a6 ((e.1.1,(e.1.2.1,(e.1.2.2.1,()))),()))<|yX d f g h i)<|cond (bJ d 1) (cond (bJ d 1) (bz (Ru f g h d i) fun e=>a6 ((e.1.1,(e.1.2.1,(e.1.2.2.1,()))),()))<|yX d f g h i)<|cond (bJ d 2) (bz (Ru f g h d i) fun e=>a6 ((e.1.1,(e.1.2.1,(e.1.2.2.1,()))),()))<|yX d f g h i
def apy:fP:=⟨209,tzB,[dw,.int .u8],[],fun x y=>JY x.1 x.2.1 x.2.2.1 y.1 y.2.1⟩
theorem ai0:dM prog 176 apy:=qB [] aN (sF uj (sF ai8 (sF yF (sF ai9 (sF aja aN)))))
noncomputable def awj:Code:=(f137.body).getD .skip
noncomputable def Ud:Code:=cA (cA (cA (cB (cB (cA (awj))))))
def abO:dZ:=⟨[0,1,100002],[],[0],[],[],[]⟩
def mr:dZ:=⟨[0,1],[],[],[],[],[]⟩
def Vt:SQ:=⟨us [cJ,cM] 63,[bL],dv⟩
def VX:SQ:=⟨us bL 64,[bL],dv⟩
def WI:SQ:=⟨us [] 65,[bL],[]⟩
def XA {j:Type} (m:Int->(List lZ)->Bool->Int->(List lZ)->Option j) (l:(List lZ)->Bool->Int->(List lZ)->Option j) (o:Option j) (f:Int) (e:List lZ) (h:Bool) (i:Int) (g:List lZ):Option j:=cond (fV e (ed .i64 (bD e) 1)) (cond (lN (dh (ed .i64 (bD e) 1)) e) (cond (bJ (dB e (0,(0,())) (dh (ed .i64 (bD e) 1))).1 12) (bz (JX e h i f) fun d=>cond d.2.1 (l d.1.1 d.1.2.1 d.1.2.2.1 g)<|m f d.1.1 d.1.2.1 d.1.2.2.1 g)<|cond (bJ (dB e (0,(0,())) (dh (ed .i64 (bD e) 1))).1 3) (cond (bJ f 40) (bz (rP e h i 9) fun d=>l d.1.1 false d.1.2.2.1 g)<|bz (rP e h i 1) fun d=>m f d.1.1 d.1.2.1 d.1.2.2.1 g)<|cond (bJ (dB e (0,(0,())) (dh (ed .i64 (bD e) 1))).1 11) (cond (bJ f 41) (bz (uD e h i) fun d=>l d.1.1 d.1.2.1 d.1.2.2.1 g)<|bz (rP e h i 9) fun d=>m f d.1.1 d.1.2.1 d.1.2.2.1 g)<|bz (JY e h i (dB e (0,(0,())) (dh (ed .i64 (bD e) 1))).1 f) fun d=>l d.1.1 d.1.2.1 d.1.2.2.1 g) a7) a7
def UX:Nat->Int->(List lZ)->Bool->Int->(List lZ)->Option (VX.den⊕WI.den)
 |0,_,_,_,_,_=>a7
 |n+1,d,e,f,g,h=>XA (UX n) (fun i j l m=>a6 (.inl ((),((),()),(i,(j,l,()),m,())))) (a6 (.inr ((),((),()),()))) d e f g h
def asb (n:Nat) (v:Vt.den):=UX n v.1.1 v.2.2.1 v.2.2.2.1.1 v.2.2.2.1.2.1 v.2.2.2.2.1
noncomputable def U7:dm:=fQ abO Vt VX WI (.exit 0) (asb bG) 6
def Hr:SQ:=⟨us [cJ,cM] 63,[bL],ey⟩
def Jj:SQ:=⟨us bL 64,[bL],ey⟩
def Jl:SQ:=⟨us [] 65,[bL],[]⟩
def yw {i:Type} (l:Int->Bool->Int->(List lZ)->Option i) (j:Bool->Int->(List lZ)->Option i) (m:Option i) (f:Int) (g:Bool) (h:Int) (e:List lZ):Option i:=cond (fV e (ed .i64 (bD e) 1)) (cond (lN (dh (ed .i64 (bD e) 1)) e) (cond (bJ (dB e (0,(0,())) (dh (ed .i64 (bD e) 1))).1 12) (bz (JX e g h f) fun d=>cond d.2.1 (j d.1.2.1 d.1.2.2.1 d.1.1)<|l f d.1.2.1 d.1.2.2.1 d.1.1)<|cond (bJ (dB e (0,(0,())) (dh (ed .i64 (bD e) 1))).1 3) (cond (bJ f 40) (bz (rP e g h 9) fun d=>j false d.1.2.2.1 d.1.1)<|bz (rP e g h 1) fun d=>l f d.1.2.1 d.1.2.2.1 d.1.1)<|cond (bJ (dB e (0,(0,())) (dh (ed .i64 (bD e) 1))).1 11) (cond (bJ f 41) (bz (uD e g h) fun d=>j d.1.2.1 d.1.2.2.1 d.1.1)<|bz (rP e g h 9) fun d=>l f d.1.2.1 d.1.2.2.1 d.1.1)<|bz (JY e g h (dB e (0,(0,())) (dh (ed .i64 (bD e) 1))).1 f) fun d=>j d.1.2.1 d.1.2.2.1 d.1.1) a7) a7
def tV:Nat->Int->Bool->Int->(List lZ)->Option (Jj.den⊕Jl.den)
 |0,_,_,_,_=>a7
 |n+1,d,e,f,g=>yw (tV n) (fun h i j=>a6 (.inl ((),((),()),((h,i,()),j,())))) (a6 (.inr ((),((),()),()))) d e f g
def aio (n:Nat) (v:Hr.den):=tV n v.1.1 v.2.2.1.1 v.2.2.1.2.1 v.2.2.2.1
noncomputable def Ja:dm:=fQ abO Hr Jj Jl (.exit 0) (aio bG) 12
def Rq (e:List lZ) (h:Bool) (i g:Int):Option (Yj×(Unit)):=cond (bJ (bD e) 0) (bz (UX bG g [(0,(0,()))] true 0 e) fun f=>dL f (fun d=>a6 ((d.2.2.1,(d.2.2.2.1.1,((bZ .i64 d.2.2.2.1.2.1 1),()))),())) (fun j=>a7))<|bz (tV bG g h i e) fun f=>dL f (fun d=>a6 ((d.2.2.2.1,(d.2.2.1.1,((bZ .i64 d.2.2.1.2.1 1),()))),())) (fun j=>a7)
def Yc:fP:=⟨209,tzB,[.int .u8],[],fun x y=>Rq x.1 x.2.1 x.2.2.1 y.1⟩
noncomputable def ND:Env:=gB prog tt [] [(137,2,abO),(137,600001,mr)] [(137,2,jV U7 Ja)] [] [(173,apv),(174,apw),(175,apx),(176,apy)]
def agb {d:Type} (a:Vt.den->Option d) (b:VX.den->Option d) (c:WI.den->Option d) (v:Vt.den):Option d:=XA (fun e f g h i=>a ((e,()),((),()),(f,(g,h,()),i,()))) (fun j l m o=>b ((),((),()),(j,(l,m,()),o,()))) (c ((),((),()),())) v.1.1 v.2.2.1 v.2.2.2.1.1 v.2.2.2.1.2.1 v.2.2.2.2.1
theorem asQ:dJ ND 137 Ud U7:=nU (agb) (h2:=by intros;simp only[agb,XA,bV,bW,bu,bT,bY])
def S9 {d:Type} (a:Hr.den->Option d) (b:Jj.den->Option d) (c:Jl.den->Option d) (v:Hr.den):Option d:=yw (fun e f g h=>a ((e,()),((),()),((f,g,()),h,()))) (fun i j l=>b ((),((),()),((i,j,()),l,()))) (c ((),((),()),())) v.1.1 v.2.2.1.1 v.2.2.1.2.1 v.2.2.2.1
theorem aiu:dJ ND 137 Ud Ja:=nU (S9) (h2:=by intros;simp only[S9,yw,bV,bW,bu,bT,bY])
theorem axg:dI ND 137 awj:=nG [Ud] (aD (fun L h=>by rw[show(ND).lp 137 (dn Ud)=a6 (jV U7 Ja) by kernel_rfl]at h;cases h;exact pK asQ aiu) aN)
theorem ahi:eF ND:=eB aN [137] (aD ⟨f137,awj,by kernel_rfl,by kernel_rfl,axg⟩ aN) (hx:=(aD aiZ (aD JG (aD uj (aD ai0 aN)))))
theorem JE:dM prog 137 Yc:=sB ahi
def Rx (d:Int):Option BR:=cond (bJ d 3) (a6 (1,()))<|cond (bJ d 11) (a6 (9,()))<|some (d,())
def apK:Sum:=⟨[dw],Ql,fun x=>Rx x.1⟩
theorem ajg:dE prog 223 apK:=qA f223 [] aN
noncomputable def aqR:Code:=(f208.body).getD .skip
noncomputable def aj6:Code:=cA (cA (cB (cA (cB (aqR)))))
noncomputable def aj7:Code:=cA (cA (cB (cB (cB (aqR)))))
def amN:dZ:=⟨[0,1,2,6,100002],[],[0,1],[],[],[]⟩
def amO:dZ:=⟨[0,77,78,79,100009],[],[],[],[],[]⟩
def VG:SQ:=⟨us [cJ,dr,bE,.u,.u,.u,bE] 141,[bL],cx⟩
def Wh:SQ:=⟨us [cJ,dr] 146,[bL],cx⟩
def WU:SQ:=⟨us [] 148,[bL],[]⟩
def iW (d:iU) (e:Int):=dB d 0 (dh (ed .i64 e 1))
def uf (d:List iO) (e:iU) (f g:Int):=ig d (dh (iW e f)) ((dB d (0,(0,(0,(0,(false,()))))) (dh (iW e f))).1,((dB d (0,(0,(0,(0,(false,()))))) (dh (iW e f))).2.1,((bZ .i64 g 1),((dB d (0,(0,(0,(0,(false,()))))) (dh (iW e f))).2.2.2.1,((dB d (0,(0,(0,(0,(false,()))))) (dh (iW e f))).2.2.2.2.1,())))))
def ug (f:List iO) (d:iU) (e g:Int):=dB (uf f d e g) (0,(0,(0,(0,(false,()))))) (dh (iW d e))
def DC {h:Type} (f:List iO) (e:iU) (d g:Int) (i:(List lZ)->Int->Int->(List iO)->iU->Option h) (j:List lZ):Option h:=cond (fV f (iW e d)) (cond (lN (dh (iW e d)) f) (cond (fV (uf f e d g) (iW e d)) (cond (lN (dh (iW e d)) (uf f e d g)) (cond (eG (bD e) 0 (ed .i64 d 1)) (i j g (ed .i64 d 1) (ig (uf f e d g) (dh (iW e d)) ((ug f e d g).1,((ug f e d g).2.1,((ug f e d g).2.2.1,((ug f e d g).2.2.2.1,(false,())))))) (takeN e (dh (ed .i64 d 1)))) a7) a7) a7) a7) a7
def MG {h:Type} (i:(List lZ)->Int->Int->(List iO)->iU->Option h) (j:(List lZ)->(List iO)->iU->Option h) (m:Option h) (f:List lZ) (l d:Int) (g:List iO) (e:iU):Option h:=cond (gJ 0 d) (cond (fV e (ed .i64 d 1)) (cond (lN (dh (ed .i64 d 1)) e) (cond (leI d (bD f)) (cond (fV f (ed .i64 d 1)) (cond (fV g (iW e d)) (cond (lN (dh (iW e d)) g) (cond (bJ (gu f (0,(0,())) (ed .i64 d 1)).2.1 (dB g (0,(0,(0,(0,(false,()))))) (dh (iW e d))).2.1) (j f g e)<|DC g e d l i f) a7) a7) a7)<|DC g e d l i f) a7) a7)<|j f g e
def Ha:Nat->(List lZ)->Int->Int->(List iO)->iU->Option (Wh.den⊕WU.den)
 |0,_,_,_,_,_=>a7
 |n+1,d,e,f,g,h=>MG (Ha n) (fun i j l=>a6 (.inl ((i,()),((),()),((),j,l,())))) (a6 (.inr ((),((),()),()))) d e f g h
def asr (n:Nat) (v:VG.den):=Ha n v.1.1 v.1.2.1 v.1.2.2.1 v.2.2.2.1 v.2.2.2.2.1
noncomputable def ae8:dm:=fQ amN VG Wh WU (.exit 0) (asr bG) 6
def VH:SQ:=⟨us [cJ,.u,.u,.u,.u,.u,.u,.u,.u,.u,.u,.u,.u,.u,.u,.u,.u,.u,.u,.u,.u,.u,.u,.u,.u,.u,.u,.u,.u,.u,.u,.u,.u,.u,.u,.u,.u,.u,.u,.u,.u,.u,.u,.u,.u,.u,.u,.u,.u,.u,.u,.u,.u,.u,.u,.u,.u,.u,.u,.u,.u,.u,.u,.u,.u,.u,.u,.u,.u,.u,.u,.u,.u,.u,.u,.u,.u,dr,bE,bE] 68,[bL],cx⟩
def Wi:SQ:=⟨us [] 148,[bL],cx⟩
def WV:SQ:=⟨us [] 148,[bL],[]⟩
def jJ (d:List iO) (e:iU) (f:Int):=dB d (0,(0,(0,(0,(false,()))))) (dh (dB e 0 (dh f)))
def kQ (d:List lZ) (e:Int):=bJ (gu d (0,(0,())) e).2.1 (gu d (0,(0,())) e).2.1
def kS (d:List lZ) (e:Int):=bJ (gu d (0,(0,())) e).1 (gu d (0,(0,())) e).1
def zQ {i:Type} (l:(List lZ)->Int->Int->(List iO)->iU->Option i) (m:(List iO)->iU->Option i) (o:Option i) (g:List lZ) (j d:Int) (f:List iO) (e:iU):Option i:=cond (gJ d j) (cond (fV g d) (cond (gJ d (bD e)) (cond (fV e d) (cond (lN (dh d) e) (bz (Rx (gu g (0,(0,())) d).1) fun h=>cond (fV f (dB e 0 (dh d))) (cond (lN (dh (dB e 0 (dh d))) f) (cond (fV (ig f (dh (dB e 0 (dh d))) (h.1,((jJ f e d).2.1,((jJ f e d).2.2.1,((jJ f e d).2.2.2.1,((jJ f e d).2.2.2.2.1,())))))) (dB e 0 (dh d))) (cond ((eqN (dh (dB e 0 (dh d))) (dh (dB e 0 (dh d))))&&true) (l g j (bZ .i64 d 1) (ig f (dh (dB e 0 (dh d))) (h.1,((jJ f e d).2.1,((jJ f e d).2.2.1,((jJ f e d).2.2.2.1,((jJ f e d).2.2.2.2.1,())))))) e) a7) a7) a7) a7) a7) a7)<|cond (gJ 0 d) (cond (fV e (ed .i64 d 1)) (cond (lN (dh (ed .i64 d 1)) e) (cond (dN (bP e [(bD f)]) 8) (cond (bJ (bD f) (bD f)) (bz (Rx (gu g (0,(0,())) d).1) fun h=>cond (kS g d) (cond (kQ g d) (cond (bJ (dB e 0 (dh (ed .i64 d 1))) (dB e 0 (dh (ed .i64 d 1)))) (cond (((kS g d)&&true)&&((bJ h.1 h.1)&&true)) (cond (dN (bP f [(h.1,((gu g (0,(0,())) d).2.1,(0,((dB e 0 (dh (ed .i64 d 1))),(true,())))))]) 40) (cond (kS g d) (cond (kQ g d) (cond (bJ (dB e 0 (dh (ed .i64 d 1))) (dB e 0 (dh (ed .i64 d 1)))) (cond ((bJ h.1 h.1)&&((kQ g d)&&((bJ 0 0)&&((bJ (dB e 0 (dh (ed .i64 d 1))) (dB e 0 (dh (ed .i64 d 1))))&&((ja true true)&&true))))) (l g j (bZ .i64 d 1) (bP f [(h.1,((gu g (0,(0,())) d).2.1,(0,((dB e 0 (dh (ed .i64 d 1))),(true,())))))]) (bP e [(bD f)])) a7) a7) a7) a7) a7) a7) a7) a7) a7) a7) a7) a7) a7)<|cond (dN (bP e [(bD f)]) 8) (cond (bJ (bD f) (bD f)) (bz (Rx (gu g (0,(0,())) d).1) fun h=>cond (kS g d) (cond (kQ g d) (cond (bJ (-1) (-1)) (cond (((kS g d)&&true)&&((bJ h.1 h.1)&&true)) (cond (dN (bP f [(h.1,((gu g (0,(0,())) d).2.1,(0,((-1),(true,())))))]) 40) (cond (kS g d) (cond (kQ g d) (cond (bJ (-1) (-1)) (cond ((bJ h.1 h.1)&&((kQ g d)&&((bJ 0 0)&&((bJ (-1) (-1))&&((ja true true)&&true))))) (l g j (bZ .i64 d 1) (bP f [(h.1,((gu g (0,(0,())) d).2.1,(0,((-1),(true,())))))]) (bP e [(bD f)])) a7) a7) a7) a7) a7) a7) a7) a7) a7) a7) a7) a7)<|m f e
def qp:Nat->(List lZ)->Int->Int->(List iO)->iU->Option (Wi.den⊕WV.den)
 |0,_,_,_,_,_=>a7
 |n+1,d,e,f,g,h=>zQ (qp n) (fun i j=>a6 (.inl ((),((),()),((),i,j,())))) (a6 (.inr ((),((),()),()))) d e f g h
def ass (n:Nat) (v:VH.den):=qp n v.1.1 v.1.2.1 v.1.2.2.1 v.2.2.2.1 v.2.2.2.2.1
noncomputable def ae9:dm:=fQ amO VH Wi WV (.exit 2) (ass bG) 12
def YY (h:List iO) (f:iU) (d:List lZ) (i:Int):Option (((List iO)×iU×Unit)×(Unit)):=cond (eG (bD d) 1 (bD d)) (bz (Ha bG (sub d 1 (bD d)) i (bD f) h f) fun j=>dL j (fun e=>bz (qp bG e.1.1 (bD e.1.1) 0 e.2.2.2.1 e.2.2.2.2.1) fun l=>dL l (fun g=>a6 ((g.2.2.2.1,(g.2.2.2.2.1,())),())) (fun m=>a7)) (fun o=>a7)) a7
def apF:fP:=⟨230,[(.list F6,true),(.list dw,true)],[.list Qk,dw],[],fun x y=>YY x.1 x.2.1 y.1 y.2.1⟩
noncomputable def Un:Env:=gB prog tt [(223,apK)] [(208,2,amN),(208,9,amO)] [(208,2,ae8),(208,9,ae9)] []
def agn {d:Type} (a:VG.den->Option d) (b:Wh.den->Option d) (c:WU.den->Option d) (v:VG.den):Option d:=MG (fun e f g h i=>a ((e,f,g,()),((),()),((),h,i,()))) (fun j l m=>b ((j,()),((),()),((),l,m,()))) (c ((),((),()),())) v.1.1 v.1.2.1 v.1.2.2.1 v.2.2.2.1 v.2.2.2.2.1
theorem as4:dJ Un 208 aj6 ae8:=nU (agn) (h2:=by intros;simp only[agn,MG,bV,bW,bu,bT,bY,iW,uf,ug,DC])
def agp {d:Type} (a:VH.den->Option d) (b:Wi.den->Option d) (c:WV.den->Option d) (v:VH.den):Option d:=zQ (fun e f g h i=>a ((e,f,g,()),((),()),((),h,i,()))) (fun j l=>b ((),((),()),((),j,l,()))) (c ((),((),()),())) v.1.1 v.1.2.1 v.1.2.2.1 v.2.2.2.1 v.2.2.2.2.1
theorem as5:dJ Un 208 aj7 ae9:=nU (agp) (h2:=by intros;simp only[agp,zQ,bV,bW,bu,bT,bY,jJ,kQ,kS])
theorem axp:dI Un 208 aqR:=nG [aj6,aj7] (aD (fM (as4)) (aD (fM (as5)) aN))
theorem ahs:eF Un:=eB (aD ajg aN) [208] (aD ⟨f208,aqR,by kernel_rfl,by kernel_rfl,axp⟩ aN)
theorem ajb:dM prog 208 apF:=sB ahs
def YT (d:Int):Option nH:=bz (Qo d) fun e=>a6 ((bJ e.1 5),())
def apg:Sum:=⟨[.int .u8],Ip,fun x=>YT x.1⟩
theorem aiL:dE prog 123 apg:=qA f123 [] (sE uU aN)
def YU (d:Int):Option nH:=bz (Qo d) fun e=>a6 ((bJ e.1 6),())
def adB:Sum:=⟨[.int .u8],Ip,fun x=>YU x.1⟩
theorem Tn:dE prog 125 adB:=qA f125 [] (sE uU aN)
noncomputable def TU:Code:=(f122.body).getD .skip
noncomputable def Cf:Code:=cA (cA (cA (cB (cB (cB (cA (cB (TU))))))))
def xR:dZ:=⟨[0,1,2,7,123000004],[],[7],[],[6],[]⟩
def N9:dZ:=⟨[0,1,2,7],[],[],[],[],[]⟩
def Dl:SQ:=⟨us [bB,bE,.fn 124 [],.u,.u,.u,.u,bE] 25,[cT,[]],[]⟩
def Fj:SQ:=⟨c8,[cT,[]],[]⟩
def FC:SQ:=⟨us [] 33,[cT,[]],[]⟩
def zT {g:Type} (m:bQ->Int->Int->bQ->Int->bQ->Int->Option g) (o:Int->bQ->Int->bQ->Int->Option g) (s:bQ->Int->bQ->Int->Option g) (e:bQ) (f d:Int) (h:bQ) (i:Int) (j:bQ) (l:Int):Option g:=cond (gJ (bZ .i64 f d) (bD e)) (cond (fV e (bZ .i64 f d)) (bz (YT (bK e (bZ .i64 f d))) fun p=>cond p.1 (m e f (bZ .i64 d 1) h i j l)<|bz (YU (bK e (bZ .i64 f d))) fun q=>cond (!q.1) (o d h i j l)<|m e f (bZ .i64 d 1) h i j l) a7)<|o d h i j l
def nT:Nat->bQ->Int->Int->bQ->Int->bQ->Int->Option (Fj.den⊕FC.den)
 |0,_,_,_,_,_,_,_=>a7
 |n+1,d,e,f,g,h,i,j=>zT (nT n) (fun l m o p q=>a6 (.inl ((l,()),((m,o,p,q,()),(),()),()))) (fun s u v x=>a6 (.inr ((),((s,u,v,x,()),(),()),()))) d e f g h i j
def acb (n:Nat) (v:Dl.den):=aq (nT n) v
noncomputable def E5:dm:=fQ xR Dl Fj FC (.exit 0) (acb bG) 6
def vS:SQ:=⟨us [bB,bE,.fn 123 [],.u,.u,.u,.u,bE] 25,[cU,[]],[]⟩
def zD:SQ:=⟨c8,[cU,[]],[]⟩
def zH:SQ:=⟨us [] 33,[cU,[]],[]⟩
def sU {e:Type} (o:bQ->Int->Int->bQ->Int->bQ->Int->Option e) (m:Int->bQ->Int->bQ->Int->Option e) (q:bQ->Int->bQ->Int->Option e) (f:bQ) (g d:Int) (h:bQ) (i:Int) (j:bQ) (l:Int):Option e:=cond (gJ (bZ .i64 g d) (bD f)) (cond (fV f (bZ .i64 g d)) (bz (YT (bK f (bZ .i64 g d))) fun p=>cond (!p.1) (m d h i j l)<|o f g (bZ .i64 d 1) h i j l) a7)<|m d h i j l
def mD:Nat->bQ->Int->Int->bQ->Int->bQ->Int->Option (zD.den⊕zH.den)
 |0,_,_,_,_,_,_,_=>a7
 |n+1,d,e,f,g,h,i,j=>sU (mD n) (fun l m o p q=>a6 (.inl ((l,()),((m,o,p,q,()),(),()),()))) (fun s u v x=>a6 (.inr ((),((s,u,v,x,()),(),()),()))) d e f g h i j
def U6 (n:Nat) (v:vS.den):=aq (mD n) v
noncomputable def zt:dm:=fQ xR vS zD zH (.exit 0) (U6 bG) 12
def abC (d:Int) (e:bQ):Option BR:=cond (bJ 0 0) (a6 (0,()))<|cond (gJ d 0) (a6 (0,()))<|cond (leI (bD e) d) (a6 (0,()))<|bz (nT bG e d 0 e d e d) fun f=>dL f (fun g=>a6 (g.1.1,())) (fun h=>a7)
def ahU (f:bQ) (e:Int):Option BR:=cond (gJ e 0) (abC e f)<|cond (leI (bD f) e) (abC e f)<|bz (mD bG f e 0 f e f e) fun g=>dL g (fun d=>cond (bJ d.1.1 0) (a6 (0,()))<|cond (gJ d.2.1.1.2.1 0) (a6 (0,()))<|cond (leI (bD d.2.1.1.1) d.2.1.1.2.1) (a6 (0,()))<|bz (nT bG d.2.1.1.1 d.2.1.1.2.1 0 d.2.1.1.1 d.2.1.1.2.1 d.2.1.1.1 d.2.1.1.2.1) fun h=>dL h (fun i=>a6 (i.1.1,())) (fun j=>a7)) (fun l=>a7)
def aCt:Sum:=⟨[.str,dw],Ql,fun x=>ahU x.1 x.2.1⟩
noncomputable def YL:Env:=gB prog tt [(123,apg),(125,adB)] [(122,4,xR),(79,600001,mr),(79,600003,mr),(122,600006,N9)] [(122,4,jV E5 zt)] []
def Po {d:Type} (a:Dl.den->Option d) (b:Fj.den->Option d) (c:FC.den->Option d) (v:Dl.den):Option d:=aq (zT (fun e f g h i j l=>a ((e,f,g,()),((h,i,j,l,()),(),()),())) (fun m o p q s=>b ((m,()),((o,p,q,s,()),(),()),())) (fun u x y z=>c ((),((u,x,y,z,()),(),()),()))) v
theorem ack:dJ YL 122 Cf E5:=nU (Po) (h2:=by intros;simp only[Po,aq,zT,bV,bW,bu,bT,bY])
def Ia {d:Type} (a:vS.den->Option d) (b:zD.den->Option d) (c:zH.den->Option d) (v:vS.den):Option d:=aq (sU (fun e f g h i j l=>a ((e,f,g,()),((h,i,j,l,()),(),()),())) (fun m o p q s=>b ((m,()),((o,p,q,s,()),(),()),())) (fun u x y z=>c ((),((u,x,y,z,()),(),()),()))) v
theorem Vj:dJ YL 122 Cf zt:=nU (Ia) (h2:=by intros;simp only[Ia,aq,sU,bV,bW,bu,bT,bY])
theorem aig:dI YL 122 TU:=nG [Cf] (aD (fun L h=>by rw[show(YL).lp 122 (dn Cf)=a6 (jV E5 zt) by kernel_rfl]at h;cases h;exact pK ack Vj) aN)
theorem aln:eF YL:=eB (aD aiL (aD Tn aN)) [122] (aD ⟨f122,TU,by kernel_rfl,by kernel_rfl,aig⟩ aN)
theorem PW:dE prog 79 aCt:=sA aln
noncomputable def MX:Code:=(f122.body).getD .skip
noncomputable def Nl:Code:=cA (cA (cA (cB (cB (cB (cA (cB (MX))))))))
def zA:SQ:=⟨us [bB,bE,.fn 125 [],.u,.u,.u,.u,bE] 25,[dt,[]],[]⟩
def Bi:SQ:=⟨c8,[dt,[]],[]⟩
def Bo:SQ:=⟨us [] 33,[dt,[]],[]⟩
def wz {e:Type} (o:bQ->Int->Int->bQ->Int->bQ->Int->Option e) (m:Int->bQ->Int->bQ->Int->Option e) (q:bQ->Int->bQ->Int->Option e) (f:bQ) (g d:Int) (h:bQ) (i:Int) (j:bQ) (l:Int):Option e:=cond (gJ (bZ .i64 g d) (bD f)) (cond (fV f (bZ .i64 g d)) (bz (YU (bK f (bZ .i64 g d))) fun p=>cond (!p.1) (m d h i j l)<|o f g (bZ .i64 d 1) h i j l) a7)<|m d h i j l
def og:Nat->bQ->Int->Int->bQ->Int->bQ->Int->Option (Bi.den⊕Bo.den)
 |0,_,_,_,_,_,_,_=>a7
 |n+1,d,e,f,g,h,i,j=>wz (og n) (fun l m o p q=>a6 (.inl ((l,()),((m,o,p,q,()),(),()),()))) (fun s u v x=>a6 (.inr ((),((s,u,v,x,()),(),()),()))) d e f g h i j
def Zt (n:Nat) (v:zA.den):=aq (og n) v
noncomputable def Kr:dm:=fQ xR zA Bi Bo (.exit 0) (Zt bG) 6
def xP (e:bQ) (d:Int):Option BR:=cond (gJ d 0) (a6 (0,()))<|cond (leI (bD e) d) (a6 (0,()))<|bz (og bG e d 0 e d e d) fun f=>dL f (fun g=>a6 (g.1.1,())) (fun h=>a7)
def ayR:Sum:=⟨[.str,dw],Ql,fun x=>xP x.1 x.2.1⟩
noncomputable def aa3:Env:=gB prog tt [(125,adB)] [(122,4,xR),(130,600001,mr),(122,600006,N9)] [(122,4,Kr)] []
def KO {d:Type} (a:zA.den->Option d) (b:Bi.den->Option d) (c:Bo.den->Option d) (v:zA.den):Option d:=aq (wz (fun e f g h i j l=>a ((e,f,g,()),((h,i,j,l,()),(),()),())) (fun m o p q s=>b ((m,()),((o,p,q,s,()),(),()),())) (fun u x y z=>c ((),((u,x,y,z,()),(),()),()))) v
theorem ZI:dJ aa3 122 Nl Kr:=nU (KO) (h2:=by intros;simp only[KO,aq,wz,bV,bW,bu,bT,bY])
theorem ab1:dI aa3 122 MX:=nG [Nl] (aD (fM (ZI)) aN)
theorem ahh:eF aa3:=eB (aD Tn aN) [122] (aD ⟨f122,MX,by kernel_rfl,by kernel_rfl,ab1⟩ aN)
theorem JD:dE prog 130 ayR:=sA ahh
def Rw (e:bQ) (d:Int):Option BR:=bz (ahU e d) fun g=>cond (gJ 0 g.1) (a6 (g.1,()))<|cond (gJ d 0) (a6 (0,()))<|cond (leI (bD e) d) (a6 (0,()))<|cond (fV e d) (cond (bJ (bK e d) 64) (cond (bJ (bK e d) 64) (a6 (1,()))<|bz (xP e d) fun f=>a6 ((E8 f.1 1),()))<|cond (bJ (bK e d) 42) (cond (bJ (bK e d) 42) (a6 (1,()))<|bz (xP e d) fun f=>a6 ((E8 f.1 1),()))<|cond (bJ (bK e d) 35) (cond (bJ (bK e d) 35) (a6 (1,()))<|bz (xP e d) fun f=>a6 ((E8 f.1 1),()))<|cond (bJ (bK e d) 63) (cond (bJ (bK e d) 63) (a6 (1,()))<|bz (xP e d) fun f=>a6 ((E8 f.1 1),()))<|cond (bJ (bK e d) 45) (cond (bJ (bK e d) 45) (a6 (1,()))<|bz (xP e d) fun f=>a6 ((E8 f.1 1),()))<|cond (bJ (bK e d) 36) (cond (bJ (bK e d) 36) (a6 (1,()))<|bz (xP e d) fun f=>a6 ((E8 f.1 1),()))<|cond (bJ (bK e d) 33) (a6 (1,()))<|bz (xP e d) fun f=>a6 ((E8 f.1 1),())) a7
def apG:Sum:=⟨[.str,dw],Ql,fun x=>Rw x.1 x.2.1⟩
theorem ajc:dE prog 209 apG:=qA f209 [] (sE JD (sE PW aN))
noncomputable def aqQ:Code:=(f181.body).getD .skip
noncomputable def aj2:Code:=cA (cA (cB (cA (cB (cB (cB (aqQ)))))))
noncomputable def adT:Code:=cA (cA (cB (cA (cB (cB (cB (cB (aqQ))))))))
def amM:dZ:=⟨[0,3,4,12,13,100004],[(100000900,.pair (.list .unit) F6),(100000901,.pair (.list .unit) dw)],[0,3],[],[2],[(2,F6)]⟩
def aeI:dZ:=⟨[0,3,31,32,100010],[],[3],[],[2],[(2,F6)]⟩
def aeN:dZ:=⟨[0,3],[],[],[],[],[]⟩
def arZ:dZ:=⟨[0,3,4,5,12,13],[],[],[],[],[]⟩
def VE:SP:=⟨us [bB,.u,.u,ec,ef,.u,.u,.u,.u,.u,.u,.u,bE,bE] 65,[cC,cY,.arr 1502009 dw,.arr 1500009 F6,dq]⟩
def V9:SP:=⟨us [bB,.u,.u,ec] 75,cr⟩
def WS:SP:=⟨us [.u,.u,.v QT] 76,[]⟩
def MC {g:Type} (m:bQ->Int->Int->Bool->Int->(List lZ)->iU->(List iO)->Option g) (p:bQ->iU->(List iO)->Option g) (v:(List iO)->Option g) (f:bQ) (i e:Int) (q:Bool) (s:Int) (u:List lZ) (j:iU) (l:List iO):Option g:=cond (gJ e i) (cond (fV f e) (bz (Rq u q s (bK f e)) fun d=>cond (bJ (bD d.1.1) 0) (bz (YY l j [(0,(0,()))] e) fun h=>m f i (bZ .i64 e 1) d.1.2.1 d.1.2.2.1 d.1.1 h.1.2.1 h.1.1)<|bz (l9 d.1.1) fun h=>bz (YY l j h.1 e) fun o=>m f i (bZ .i64 e 1) d.1.2.1 d.1.2.2.1 d.1.1 o.1.2.1 o.1.1) a7)<|p f j l
def G9:Nat->bQ->Int->Int->Bool->Int->(List lZ)->iU->(List iO)->Option (V9.den⊕WS.den)
 |0,_,_,_,_,_,_,_,_=>a7
 |n+1,d,e,f,g,h,i,j,l=>MC (G9 n) (fun m o p=>a6 (.inl ((m,()),(o,p,(),())))) (fun q=>a6 (.inr ((q,()),()))) d e f g h i j l
def aso (n:Nat) (v:VE.den):=G9 n v.1.1 v.1.2.1 v.1.2.2.1 v.2.1.1 v.2.1.2.1 v.2.2.1 v.2.2.2.1 v.2.2.2.2.1
noncomputable def ae6:dm:=eP amM VE V9 WS (.exit 0) (aso bG) 6
def LH:SP:=⟨us [bB,.u,.u,ec,.u,.u,.u,.u,.u,.u,.u,.u,.u,.u,.u,.u,.u,.u,.u,.u,.u,.u,.u,.u,.u,.u,.u,.u,.u,.u,.u,bE,bE] 46,cr⟩
def OW:SP:=⟨us [.u,.u,.u,ec] 75,cr⟩
def O1:SP:=⟨us [.u,.u,.v QT] 76,[]⟩
def dU (d:List iO) (e:Int):=dB d (0,(0,(0,(0,(false,()))))) (dh e)
def iT (d:List iO) (e:Int) (f:bQ):=ig d (dh e) ((dU d e).1,((dU d e).2.1,((bD f),((dU d e).2.2.2.1,((dU d e).2.2.2.2.1,())))))
def eu (e:List iO) (d:Int) (f:bQ):=dB (iT e d f) (0,(0,(0,(0,(false,()))))) (dh d)
def Ih {j:Type} (l:bQ->Int->Int->iU->(List iO)->Option j) (m:iU->(List iO)->Option j) (o:(List iO)->Option j) (f:bQ) (h d:Int) (i:iU) (e:List iO):Option j:=cond (gJ d h) (cond (fV e d) (cond (lN (dh d) e) (cond ((dU e d).2.2.2.2.1) (cond (lN (dh d) e) (cond (lN (dh d) (iT e d f)) (cond (bJ (eu e d f).1 12) (cond (lN (dh d) (iT e d f)) (cond (lN (dh d) (iT e d f)) (bz (Rw f (bZ .i64 (eu e d f).2.1 1)) fun g=>cond (lN (dh d) (iT e d f)) (cond ((eqN (dh d) (dh d))&&true) (cond ((eqN (dh d) (dh d))&&true) (cond (lN (dh d) (ig (iT e d f) (dh d) ((eu e d f).1,((eu e d f).2.1,((bZ .i64 (bZ .i64 (eu e d f).2.1 1) g.1),((eu e d f).2.2.2.1,((eu e d f).2.2.2.2.1,()))))))) (cond ((eqN (dh d) (dh d))&&true) (l f h (bZ .i64 d 1) i (ig (ig (iT e d f) (dh d) ((eu e d f).1,((eu e d f).2.1,((bZ .i64 (bZ .i64 (eu e d f).2.1 1) g.1),((eu e d f).2.2.2.1,((eu e d f).2.2.2.2.1,())))))) (dh d) ((dB (ig (iT e d f) (dh d) ((eu e d f).1,((eu e d f).2.1,((bZ .i64 (bZ .i64 (eu e d f).2.1 1) g.1),((eu e d f).2.2.2.1,((eu e d f).2.2.2.2.1,())))))) (0,(0,(0,(0,(false,()))))) (dh d)).1,((dB (ig (iT e d f) (dh d) ((eu e d f).1,((eu e d f).2.1,((bZ .i64 (bZ .i64 (eu e d f).2.1 1) g.1),((eu e d f).2.2.2.1,((eu e d f).2.2.2.2.1,())))))) (0,(0,(0,(0,(false,()))))) (dh d)).2.1,((dB (ig (iT e d f) (dh d) ((eu e d f).1,((eu e d f).2.1,((bZ .i64 (bZ .i64 (eu e d f).2.1 1) g.1),((eu e d f).2.2.2.1,((eu e d f).2.2.2.2.1,())))))) (0,(0,(0,(0,(false,()))))) (dh d)).2.2.1,((dB (ig (iT e d f) (dh d) ((eu e d f).1,((eu e d f).2.1,((bZ .i64 (bZ .i64 (eu e d f).2.1 1) g.1),((eu e d f).2.2.2.1,((eu e d f).2.2.2.2.1,())))))) (0,(0,(0,(0,(false,()))))) (dh d)).2.2.2.1,(false,()))))))) a7) a7) a7) a7) a7) a7) a7)<|l f h (bZ .i64 d 1) i (iT e d f)) a7) a7)<|cond (lN (dh d) e) (cond (bJ (dU e d).1 12) (cond (lN (dh d) e) (cond (lN (dh d) e) (bz (Rw f (bZ .i64 (dU e d).2.1 1)) fun g=>cond (lN (dh d) e) (cond ((eqN (dh d) (dh d))&&true) (cond ((eqN (dh d) (dh d))&&true) (cond (lN (dh d) (ig e (dh d) ((dU e d).1,((dU e d).2.1,((bZ .i64 (bZ .i64 (dU e d).2.1 1) g.1),((dU e d).2.2.2.1,((dU e d).2.2.2.2.1,()))))))) (cond ((eqN (dh d) (dh d))&&true) (l f h (bZ .i64 d 1) i (ig (ig e (dh d) ((dU e d).1,((dU e d).2.1,((bZ .i64 (bZ .i64 (dU e d).2.1 1) g.1),((dU e d).2.2.2.1,((dU e d).2.2.2.2.1,())))))) (dh d) ((dB (ig e (dh d) ((dU e d).1,((dU e d).2.1,((bZ .i64 (bZ .i64 (dU e d).2.1 1) g.1),((dU e d).2.2.2.1,((dU e d).2.2.2.2.1,())))))) (0,(0,(0,(0,(false,()))))) (dh d)).1,((dB (ig e (dh d) ((dU e d).1,((dU e d).2.1,((bZ .i64 (bZ .i64 (dU e d).2.1 1) g.1),((dU e d).2.2.2.1,((dU e d).2.2.2.2.1,())))))) (0,(0,(0,(0,(false,()))))) (dh d)).2.1,((dB (ig e (dh d) ((dU e d).1,((dU e d).2.1,((bZ .i64 (bZ .i64 (dU e d).2.1 1) g.1),((dU e d).2.2.2.1,((dU e d).2.2.2.2.1,())))))) (0,(0,(0,(0,(false,()))))) (dh d)).2.2.1,((dB (ig e (dh d) ((dU e d).1,((dU e d).2.1,((bZ .i64 (bZ .i64 (dU e d).2.1 1) g.1),((dU e d).2.2.2.1,((dU e d).2.2.2.2.1,())))))) (0,(0,(0,(0,(false,()))))) (dh d)).2.2.2.1,(false,()))))))) a7) a7) a7) a7) a7) a7) a7)<|l f h (bZ .i64 d 1) i e) a7) a7) a7)<|m i e
def xY:Nat->bQ->Int->Int->iU->(List iO)->Option (OW.den⊕O1.den)
 |0,_,_,_,_,_=>a7
 |n+1,d,e,f,g,h=>Ih (xY n) (fun i j=>a6 (.inl ((),(i,j,(),())))) (fun l=>a6 (.inr ((l,()),()))) d e f g h
def ang (n:Nat) (v:LH.den):=xY n v.1.1 v.1.2.1 v.1.2.2.1 v.2.1 v.2.2.1
noncomputable def Zy:dm:=eP aeI LH OW O1 (.exit 2) (ang bG) 12
def aeo (e:bQ):Option ((List iO)×Unit):=bz (G9 bG e (bD e) 0 true 0 [(0,(0,()))] [] []) fun f=>dL f (fun d=>bz (xY bG d.1.1 (bD d.2.2.1) 0 d.2.1 d.2.2.1) fun g=>dL g (fun h=>a6 (h.2.2.1,())) (fun i=>a6 (i.1.1,()))) (fun j=>a6 (j.1.1,()))
def apC:Sum:=⟨[.str],[(.list F6,false)],fun x=>aeo x.1⟩
noncomputable def Um:Env:=gB prog tt [(207,wB),(209,apG)] [(181,4,amM),(181,10,aeI),(181,600002,aeN),(181,600007,arZ)] [(181,4,ae6),(181,10,Zy)] [] [(137,Yc),(208,apF)]
def agl {d:Type} (a:VE.den->Option d) (b:V9.den->Option d) (c:WS.den->Option d) (v:VE.den):Option d:=MC (fun e f g h i j l m=>a ((e,f,g,()),((h,i,()),j,l,m,(),()))) (fun o p q=>b ((o,()),(p,q,(),()))) (ar c) v.1.1 v.1.2.1 v.1.2.2.1 v.2.1.1 v.2.1.2.1 v.2.2.1 v.2.2.2.1 v.2.2.2.2.1
theorem as2:dJ Um 181 aj2 ae6:=rH (agl) (h2:=by intros;simp only[agl,ar,MC,bV,bW,bu,bT,bY])
def aae {d:Type} (a:LH.den->Option d) (b:OW.den->Option d) (c:O1.den->Option d) (v:LH.den):Option d:=Ih (fun e f g h i=>a ((e,f,g,()),(h,i,(),()))) (fun j l=>b ((),(j,l,(),()))) (ar c) v.1.1 v.1.2.1 v.1.2.2.1 v.2.1 v.2.2.1
theorem anY:dJ Um 181 adT Zy:=rH (aae) (h2:=by intros;simp only[aae,ar,Ih,bV,bW,bu,bT,bY,dU,iT,eu])
theorem axn:dI Um 181 aqQ:=nG [aj2,adT] (aD (fM (as2)) (aD (fM (anY)) aN))
theorem ahp:eF Um:=eB (aD uX (aD ajc aN)) [181] (aD ⟨f181,aqQ,by kernel_rfl,by kernel_rfl,axn⟩ aN) (hx:=(aD JE (aD ajb aN)))
theorem ai3:dE prog 181 apC:=sA ahp
def YW (d:List lZ) (e:Bool) (f:Int):Option (Yj×nH):=cond e (a6 ((d,(e,(f,()))),(true,())))<|some ((d,(e,(f,()))),((bJ (bD d) 0),()))
def apz:fP:=⟨209,tzB,[],[.bool],fun x y=>YW x.1 x.2.1 x.2.2.1⟩
theorem ai1:dM prog 178 apz:=qB [] aN
noncomputable def awk:Code:=(Tryz.f138.body).getD .skip
noncomputable def ajU:Code:=cA (cA (cB (cA (cB (cB (awk))))))
def amE:dZ:=⟨[0,4,8,9,100003],[],[4],[],[2,3],[(2,Qk)]⟩
def su:dZ:=⟨[0],[],[],[],[],[]⟩
def aeM:dZ:=⟨[4],[],[],[],[],[]⟩
def Vu:SP:=⟨us [bB,.u,.u,.u,ef,.u,.u,.u,bE,bE] 12,[cC,cY]⟩
def VY:SP:=⟨us [.u,.u,.u,.u,ef] 17,[cC,cY]⟩
def WJ:SP:=⟨us [.u,.u,dr,bX] 18,[]⟩
def Mc {d:Type} (m:bQ->Int->Int->Bool->Int->(List lZ)->Option d) (o:Bool->Int->(List lZ)->Option d) (p:(List lZ)->Bool->Option d) (f:bQ) (h e:Int) (i:Bool) (j:Int) (l:List lZ):Option d:=cond (gJ e h) (cond (fV f e) (bz (Rq l i j (bK f e)) fun g=>m f h (bZ .i64 e 1) g.1.2.1 g.1.2.2.1 g.1.1) a7)<|o i j l
def G7:Nat->bQ->Int->Int->Bool->Int->(List lZ)->Option (VY.den⊕WJ.den)
 |0,_,_,_,_,_,_=>a7
 |n+1,d,e,f,g,h,i=>Mc (G7 n) (fun j l m=>a6 (.inl ((),((j,l,()),m,())))) (fun o p=>a6 (.inr ((o,p,()),()))) d e f g h i
def asc (n:Nat) (v:Vu.den):=G7 n v.1.1 v.1.2.1 v.1.2.2.1 v.2.1.1 v.2.1.2.1 v.2.2.1
noncomputable def aeY:dm:=eP amE Vu VY WJ (.exit 0) (asc bG) 6
def aef (f:bQ):Option ((List lZ)×Bool×Unit):=bz (G7 bG f (bD f) 0 true 0 [(0,(0,()))]) fun h=>dL h (fun d=>cond (bJ (bD d.2.2.1) 0) (bz (YW d.2.2.1 d.2.1.1 d.2.1.2.1) fun e=>a6 ([(0,(0,()))],(e.2.1,())))<|bz (l9 d.2.2.1) fun e=>bz (YW d.2.2.1 d.2.1.1 d.2.1.2.1) fun i=>a6 (e.1,(i.2.1,()))) (fun g=>a6 (g.1.1,(g.1.2.1,())))
def apj:Sum:=⟨[.str],[(.list Qk,false),(.bool,false)],fun x=>aef x.1⟩
noncomputable def aa4:Env:=gB prog tt [(207,wB)] [(138,3,amE),(138,600001,su),(138,600007,aeM)] [(138,3,aeY)] [] [(137,Yc),(178,apz)]
def agc {d:Type} (a:Vu.den->Option d) (b:VY.den->Option d) (c:WJ.den->Option d) (v:Vu.den):Option d:=Mc (fun e f g h i j=>a ((e,f,g,()),((h,i,()),j,()))) (fun l m o=>b ((),((l,m,()),o,()))) (aE c) v.1.1 v.1.2.1 v.1.2.2.1 v.2.1.1 v.2.1.2.1 v.2.2.1
theorem asT:dJ aa4 138 ajU aeY:=rH (agc) (h2:=by intros;simp only[agc,aE,Mc,bV,bW,bu,bT,bY])
theorem axh:dI aa4 138 awk:=nG [ajU] (aD (fM (asT)) aN)
theorem ahj:eF aa4:=eB (aD uX aN) [138] (aD ⟨Tryz.f138,awk,by kernel_rfl,by kernel_rfl,axh⟩ aN) (hx:=(aD JE (aD ai1 aN)))
theorem aiP:dE prog 138 apj:=sA ahj
def aee (d:List lZ) (e:Bool) (f g:Int):Option (Yj×nH):=bz (Ea g) fun h=>cond (!h.1) (a6 ((d,(e,(f,()))),(false,())))<|cond (bJ (bD d) 1) (a6 ((d,(e,(f,()))),(true,())))<|cond (bJ (bD d) 2) (cond (fV d 1) (cond (lN (dh 1) d) (cond (bJ (dB d (0,(0,())) (dh 1)).1 12) (a6 ((d,(e,(f,()))),((!(bJ g 40)),())))<|some ((d,(e,(f,()))),(false,()))) a7) a7)<|some ((d,(e,(f,()))),(false,()))
def aph:fP:=⟨209,tzB,[.int .u8],[.bool],fun x y=>aee x.1 x.2.1 x.2.2.1 y.1⟩
theorem aiO:dM prog 136 aph:=qB [] (sE Tz aN)
noncomputable def b95:Code:=(f95.body).getD .skip
noncomputable def aur:Code:=cA (cA (cA (cB (cB (cB (b95))))))
def au4:dZ:=⟨[0,1,5,100004],[],[1],[],[4],[]⟩
def afS:SP:=⟨us [bB,bE,.u,.u,.u,ef] 27,[cC,cY]⟩
def acQ:SP:=⟨us [.u,bE] 31,[]⟩
def adh:SP:=⟨us cI 28,[]⟩
def X7 {g:Type} (i:bQ->Int->Bool->Int->(List lZ)->Option g) (j l:Int->Option g) (e:bQ) (d:Int) (m:Bool) (o:Int) (p:List lZ):Option g:=cond (gJ d (bD e)) (cond (fV e d) (bz (aee p m o (bK e d)) fun f=>cond f.2.1 (l d)<|cond (fV e d) (bz (Rq f.1.1 f.1.2.1 f.1.2.2.1 (bK e d)) fun h=>i e (bZ .i64 d 1) h.1.2.1 h.1.2.2.1 h.1.1) a7) a7)<|j d
def Ot:Nat->bQ->Int->Bool->Int->(List lZ)->Option (acQ.den⊕adh.den)
 |0,_,_,_,_,_=>a7
 |n+1,d,e,f,g,h=>X7 (Ot n) (fun i=>a6 (.inl ((i,()),()))) (fun j=>a6 (.inr ((j,()),()))) d e f g h
def axZ (n:Nat) (v:afS.den):=Ot n v.1.1 v.1.2.1 v.2.1.1 v.2.1.2.1 v.2.2.1
noncomputable def anM:dm:=eP au4 afS acQ adh (.exit 0) (axZ bG) 6
def amd (e:bQ) (d:Int):Option BR:=cond (gJ d 0) (a6 ((-1),()))<|cond (gJ (bD e) d) (a6 ((-1),()))<|bz (Ot bG e d true 0 [(0,(0,()))]) fun f=>dL f (fun g=>a6 (g.1.1,())) (fun h=>a6 (h.1.1,()))
def aCA:Sum:=⟨[.str,dw],Ql,fun x=>amd x.1 x.2.1⟩
noncomputable def alv:Env:=gB prog tt [] [(95,4,au4),(95,600003,mr)] [(95,4,anM)] [] [(136,aph),(137,Yc)]
def aoU {d:Type} (a:afS.den->Option d) (b:acQ.den->Option d) (c:adh.den->Option d) (v:afS.den):Option d:=X7 (fun e f g h i=>a ((e,f,()),((g,h,()),i,()))) (ar b) (ar c) v.1.1 v.1.2.1 v.2.1.1 v.2.1.2.1 v.2.2.1
theorem ayA:dJ alv 95 aur anM:=rH (aoU) (h2:=by intros;simp only[aoU,ar,X7,bV,bW,bu,bT,bY])
theorem aBI:dI alv 95 b95:=nG [aur] (aD (fM (ayA)) aN)
theorem alx:eF alv:=eB aN [95] (aD ⟨f95,b95,by kernel_rfl,by kernel_rfl,aBI⟩ aN) (hx:=(aD aiO (aD JE aN)))
theorem aqu:dE prog 95 aCA:=sA alx
def GL (d:Int):Option QR:=cond (bJ d 9) (a6 ([41,41],()))<|cond (bJ d 13) (cond (bJ d 13) (a6 ([10],()))<|some ([],()))<|cond (bJ d 14) (a6 ([10],()))<|some ([],())
def aeh (d:Int):Option QR:=cond (bJ d 1) (cond (bJ d 1) (a6 ([41],()))<|GL d)<|cond (bJ d 3) (cond (bJ d 3) (a6 ([41],()))<|GL d)<|cond (bJ d 2) (cond (bJ d 2) (a6 ([41],()))<|GL d)<|cond (bJ d 10) (cond (bJ d 10) (a6 ([41],()))<|GL d)<|cond (bJ d 11) (a6 ([41],()))<|GL d
def aeg (d:Int):Option QR:=cond (bJ d 4) (a6 ([39],()))<|cond (bJ d 5) (a6 ([34],()))<|cond (bJ d 6) (a6 ([96],()))<|cond (bJ d 7) (cond (bJ d 7) (a6 ([125],()))<|aeh d)<|cond (bJ d 8) (a6 ([125],()))<|aeh d
def apl:Sum:=⟨[dw],Yo,fun x=>aeg x.1⟩
theorem aiQ:dE prog 140 apl:=qA f140 [] aN
noncomputable def b96:Code:=(f96.body).getD .skip
noncomputable def TV:Code:=(f179.body).getD .skip
noncomputable def Q7:Code:=cA (cA (cB (TV)))
def RN:dZ:=⟨[0,1,3,212000001],[],[],[],[],[]⟩
def aw7:dZ:=⟨[2,5],[],[],[],[],[]⟩
def aw3:dZ:=⟨[2,3,5],[],[],[],[],[]⟩
def abQ:dZ:=⟨[0,1,3],[],[],[],[],[]⟩
def Dn:SQ:=⟨us [.yld 1700014,eg,.u,bE] 15,cP,cm⟩
def Fp:SQ:=⟨us [] 19,cP,cm⟩
def FD:SQ:=⟨us [] 19,cP,[]⟩
def uQ {f:Type} (l:Int->bQ->bQ->(List lZ)->iU->Option f) (m:bQ->bQ->(List lZ)->iU->Option f) (o:bQ->Option f) (d:Int) (h i:bQ) (e:List lZ) (g:iU):Option f:=cond (leI 0 d) (cond (fV e d) (bz (aeg (gu e (0,(0,())) d).1) fun j=>cond (dN (bP g (cZ j.1)) 1) (cond (bJ (gu e (0,(0,())) d).1 (gu e (0,(0,())) d).1) (l (ed .i64 d 1) h i e (bP g (cZ j.1))) a7) a7) a7)<|m h i e g
def pO:Nat->Int->bQ->bQ->(List lZ)->iU->Option (Fp.den⊕FD.den)
 |0,_,_,_,_,_=>a7
 |n+1,d,e,f,g,h=>uQ (pO n) (fun i j l m=>a6 (.inl ((),((i,()),(),(),()),((j,()),(l,()),(),m,())))) (fun o=>a6 (.inr ((),((o,()),(),(),()),()))) d e f g h
def acd (n:Nat) (v:Dn.den):=pO n v.1.1 v.2.1.1.1 v.2.2.1.1 v.2.2.2.1.1 v.2.2.2.2.2.1
noncomputable def Ox:dm:=fQ RN Dn Fp FD (.exit 0) (acd bG) 6
def arM (e:bQ):Option QR:=bz (aef e) fun d=>bz (pO bG (ed .i64 (bD d.1) 1) [] [] d.1 []) fun f=>dL f (fun g=>a6 ((ofBytes g.2.2.2.2.2.1),())) (fun h=>a7)
def aCB:Sum:=⟨[.str],Yo,fun x=>arM x.1⟩
noncomputable def ad8:Env:=gB prog tt [(138,apj),(140,apl)] [(179,1,RN),(96,500005,aw7),(96,600003,aw3),(179,600003,abQ)] [(179,1,Ox)] [96]
def Pq {d:Type} (a:Dn.den->Option d) (b:Fp.den->Option d) (c:FD.den->Option d) (v:Dn.den):Option d:=uQ (fun e f g h i=>a ((e,()),((f,()),(),(),()),((g,()),(h,()),(),i,()))) (fun j l m o=>b ((),((j,()),(),(),()),((l,()),(m,()),(),o,()))) (fun p=>c ((),((p,()),(),(),()),())) v.1.1 v.2.1.1.1 v.2.2.1.1 v.2.2.2.1.1 v.2.2.2.2.2.1
theorem acl:dJ ad8 179 Q7 Ox:=nU (Pq) (h2:=by intros;simp only[Pq,uQ,bV,bW,bu,bT,bY])
theorem aBa:jy b96=[]:=by kernel_rfl
theorem aB4:jO b96=[(cA (cA (cB (cA (cB (cB (cB (b96))))))),cB (cA (cB (cA (cB (cB (cB (b96))))))))]:=by kernel_rfl
theorem aBJ:dI ad8 96 b96:=vK b96 (by rw[aB4];exact(aD (fun _=>(show rq 96 5=a6 (cA (cA (cB (cA (cB (cB (cB (b96))))))),cB (cA (cB (cA (cB (cB (cB (b96)))))))) by kernel_rfl)) aN)) (by rw[aBa];exact aN)
theorem aih:dI ad8 179 TV:=nG [Q7] (aD (fM (acl)) aN)
theorem aly:eF ad8:=eB (aD aiP (aD aiQ aN)) [96,179] (aD ⟨f96,b96,by kernel_rfl,by kernel_rfl,aBJ⟩ (aD ⟨f179,TV,by kernel_rfl,by kernel_rfl,aih⟩ aN))
theorem aqv:dE prog 96 aCB:=sA aly
def auw (d:Int):Option QR:=cond (bJ d 10) (a6 ([62,124],()))<|cond (bJ d 11) (a6 ([60],()))<|cond (bJ d 12) (a6 ([62],()))<|cond (bJ d 13) (a6 ([38],()))<|cond (bJ d 14) (a6 ([59],()))<|cond (bJ d 15) (a6 ([124],()))<|cond (bJ d 16) (a6 ([40],()))<|cond (bJ d 17) (a6 ([41],()))<|some ([],())
def ay1:Sum:=⟨[dw],Yo,fun x=>auw x.1⟩
theorem ai2:dE prog 180 ay1:=qA f180 [] aN
def aei (d:Int):Option QR:=cond (bJ d 1) (a6 ([38,38],()))<|cond (bJ d 2) (a6 ([124,124],()))<|cond (bJ d 3) (a6 ([59,59],()))<|cond (bJ d 4) (a6 ([60,60],()))<|cond (bJ d 5) (a6 ([60,60,45],()))<|cond (bJ d 6) (a6 ([62,62],()))<|cond (bJ d 7) (a6 ([60,38],()))<|cond (bJ d 8) (a6 ([62,38],()))<|cond (bJ d 9) (a6 ([60,62],()))<|bz (auw d) fun e=>a6 (e.1,())
def apm:Sum:=⟨[dw],Yo,fun x=>aei x.1⟩
theorem aiR:dE prog 141 apm:=qA f141 [] (sE ai2 aN)
noncomputable def b97:Code:=(f97.body).getD .skip
noncomputable def aus:Code:=cA (cA (cB (cA (cB (cB (b97))))))
def RP:dZ:=⟨[0,3,100004],[],[],[],[2],[]⟩
def afT:SP:=⟨us [bB,.u,.u,bE] 11,[]⟩
def acR:SP:=⟨us [] 15,[]⟩
def adi:SP:=⟨us [.u,.u,bE] 12,[]⟩
def PN {d:Type} (g:bQ->Int->Option d) (h:Option d) (i:Int->Option d) (f:bQ) (e:Int):Option d:=cond (leI e 17) (bz (aei e) fun j=>cond (eX j.1 f) (i e)<|g f (bZ .i64 e 1)) h
def EZ:Nat->bQ->Int->Option (acR.den⊕adi.den)
 |0,_,_=>a7
 |n+1,d,e=>PN (EZ n) (a6 (.inl ((),()))) (fun f=>a6 (.inr ((f,()),()))) d e
def ax0 (n:Nat) (v:afT.den):=EZ n v.1.1 v.1.2.1
noncomputable def anN:dm:=eP RP afT acR adi (.exit 0) (ax0 bG) 6
def ahV (d:bQ):Option BR:=cond (eX d []) (a6 (0,()))<|bz (EZ bG d 1) fun e=>dL e (fun g=>a6 (0,())) (fun f=>a6 (f.1.1,()))
def avS:Sum:=⟨[.str],Ql,fun x=>ahV x.1⟩
noncomputable def alz:Env:=iE prog tt 97 [(141,apm)] [(4,RP)] [(4,anN)]
def aoV {d:Type} (a:afT.den->Option d) (b:acR.den->Option d) (c:adi.den->Option d) (v:afT.den):Option d:=PN (aE a) (b ((),())) (ar c) v.1.1 v.1.2.1
theorem ayB:dJ alz 97 aus anN:=rH (aoV) (h2:=by intros;simp only[aoV,aE,ar,PN,bV,bW,bu,bT,bY])
theorem aBK:dI alz 97 b97:=nG [aus] (aD (fM (ayB)) aN)
theorem alA:eF alz:=eA f97 (aD aiR aN) (aBK)
theorem PX:dE prog 97 avS:=sA alA
noncomputable def b90:Code:=(f90.body).getD .skip
noncomputable def aup:Code:=cA (cA (cA (cB (cB (cB (cA (cB (b90))))))))
def au3:dZ:=⟨[0,1,4,5,100004],[],[4,5],[],[4,5],[]⟩
def afQ:SP:=⟨us [bB,bE,.u,.u,bE,bE] 35,[]⟩
def acO:SP:=⟨us [.u,.u,.u,.u,bE,bE] 35,[]⟩
def adf:SP:=⟨us [.u,.u,.u,.u,bE,bE] 35,[]⟩
def X5 {f:Type} (j:bQ->Int->Int->Int->Option f) (i m:Int->Int->Option f) (g:bQ) (e l d:Int):Option f:=cond (gJ 0 d) (cond (eG (bD g) e (bZ .i64 e d)) (bz (ahV (sub g e (bZ .i64 e d))) fun h=>cond (!(bJ h.1 0)) (i h.1 d)<|j g e h.1 (ed .i64 d 1)) a7)<|i l d
def Oo:Nat->bQ->Int->Int->Int->Option (acO.den⊕adf.den)
 |0,_,_,_,_=>a7
 |n+1,d,e,f,g=>X5 (Oo n) (fun h i=>a6 (.inl ((h,i,()),()))) (fun j l=>a6 (.inr ((j,l,()),()))) d e f g
def axX (n:Nat) (v:afQ.den):=aM (Oo n) v
noncomputable def anK:dm:=eP au3 afQ acO adf (.exit 0) (axX bG) 6
def arL (e:bQ) (d:Int):Option lZ:=cond (gJ d 0) (a6 (0,(0,())))<|cond (leI (bD e) d) (a6 (0,(0,())))<|cond (fV e d) (bz (Qo (bK e d)) fun h=>cond (!(bJ h.1 3)) (a6 (0,(0,())))<|bz (Oo bG e d 0 (E8 3 (ed .i64 (bD e) d))) fun i=>dL i (fun f=>a6 (f.1.1,(f.1.2.1,()))) (fun g=>a6 (g.1.1,(g.1.2.1,())))) a7
def aCx:Sum:=⟨[.str,dw],tzI,fun x=>arL x.1 x.2.1⟩
noncomputable def alq:Env:=iE prog tt 90 [(76,aql),(97,avS)] [(4,au3)] [(4,anK)]
def aoS {d:Type} (a:afQ.den->Option d) (b:acO.den->Option d) (c:adf.den->Option d) (v:afQ.den):Option d:=aM (X5 (aL a) (aE b) (aE c)) v
theorem ayy:dJ alq 90 aup anK:=rH (aoS) (h2:=by intros;simp only[aoS,aL,aE,aM,X5,bV,bW,bu,bT,bY])
theorem aBG:dI alq 90 b90:=nG [aup] (aD (fM (ayy)) aN)
theorem alr:eF alq:=eA f90 (aD uU (aD PX aN)) (aBG)
theorem aqr:dE prog 90 aCx:=sA alr
def alU (e d:bQ):Option nH:=cond (leI (bD d) (bD e)) (cond (eG (bD e) 0 (bD d)) (a6 ((eX (sub e 0 (bD d)) d),())) a7)<|some (false,())
def ayY:Sum:=⟨[.str,.str],Ip,fun x=>alU x.1 x.2.1⟩
theorem aiX:dE prog 170 ayY:=qA f170 [] aN
def aec (d e:bQ):Option nH:=bz (alU d e) fun f=>a6 (f.1,())
def ayS:Sum:=⟨[.str,.str],Ip,fun x=>aec x.1 x.2.1⟩
theorem aiN:dE prog 133 ayS:=qA f133 [] (sE aiX aN)
def al9 (d:bQ) (e:Int):Option nH:=cond (eG (bD d) e (bD d)) (bz (aec (sub d e (bD d)) [92,10]) fun f=>a6 (f.1,())) a7
def avQ:Sum:=⟨[.str,dw],Ip,fun x=>al9 x.1 x.2.1⟩
theorem aaw:dE prog 91 avQ:=qA f91 [] (sE aiN aN)
noncomputable def b92:Code:=(f92.body).getD .skip
noncomputable def auq:Code:=cA (cA (cA (cB (b92))))
def aeL:dZ:=⟨[0,1,100001],[],[1],[],[4],[]⟩
def afR:SP:=⟨us [bB,bE] 23,[]⟩
def acP:SP:=⟨us [.u,bE] 23,[]⟩
def adg:SP:=⟨us cI 20,[]⟩
def X6 {f:Type} (g:bQ->Int->Option f) (h i:Int->Option f) (e:bQ) (d:Int):Option f:=cond (gJ d (bD e)) (cond (fV e d) (bz (Qo (bK e d)) fun j=>cond (bJ j.1 1) (g e (bZ .i64 d 1))<|bz (al9 e d) fun l=>cond l.1 (g e (bZ .i64 d 2))<|i d) a7)<|h d
def Oq:Nat->bQ->Int->Option (acP.den⊕adg.den)
 |0,_,_=>a7
 |n+1,d,e=>X6 (Oq n) (fun f=>a6 (.inl ((f,()),()))) (fun g=>a6 (.inr ((g,()),()))) d e
def axY (n:Nat) (v:afR.den):=Oq n v.1.1 v.1.2.1
noncomputable def anL:dm:=eP aeL afR acP adg (.exit 0) (axY bG) 6
def ama (d:bQ) (e:Int):Option BR:=bz (Oq bG d e) fun f=>dL f (fun g=>a6 (g.1.1,())) (fun h=>a6 (h.1.1,()))
def aCy:Sum:=⟨[.str,dw],Ql,fun x=>ama x.1 x.2.1⟩
noncomputable def als:Env:=iE prog tt 92 [(76,aql),(91,avQ)] [(1,aeL)] [(1,anL)]
def aoT {d:Type} (a:afR.den->Option d) (b:acP.den->Option d) (c:adg.den->Option d) (v:afR.den):Option d:=X6 (aE a) (ar b) (ar c) v.1.1 v.1.2.1
theorem ayz:dJ als 92 auq anL:=rH (aoT) (h2:=by intros;simp only[aoT,aE,ar,X6,bV,bW,bu,bT,bY])
theorem aBH:dI als 92 b92:=nG [auq] (aD (fM (ayz)) aN)
theorem alu:eF als:=eA f92 (aD uU (aD aaw aN)) (aBH)
theorem aqs:dE prog 92 aCy:=sA alu
def alV (d:bQ) (e:Int):Option BR:=a6 ((ibW d e),())
def ayZ:Sum:=⟨[.str,.int .u8],Ql,fun x=>alV x.1 x.2.1⟩
theorem aiY:dE prog 171 ayZ:=qA f171 [] (sE (aaz func201 (by kernel_rfl) (by kernel_rfl) (by kernel_rfl) (by kernel_rfl)) aN)
def aed (d:bQ) (e:Int):Option BR:=bz (alV d e) fun f=>a6 (f.1,())
def ayT:Sum:=⟨[.str,.int .u8],Ql,fun x=>aed x.1 x.2.1⟩
theorem Tq:dE prog 134 ayT:=qA f134 [] (sE aiY aN)
def amb (d:bQ) (e:Int):Option (Int×Bool×Unit):=cond (eG (bD d) e (bD d)) (bz (aed (sub d e (bD d)) 10) fun f=>cond (leI 0 f.1) (a6 ((bZ .i64 e f.1),(true,())))<|some ((bD d),(false,()))) a7
def avR:Sum:=⟨[.str,dw],[(.int .i64,false),(.bool,false)],fun x=>amb x.1 x.2.1⟩
theorem aax:dE prog 93 avR:=qA f93 [] (sE Tq aN)
def amc (f:bQ) (d:Int):Option BR:=bz (xP f d) fun e=>cond (gJ d (bZ .i64 d e.1)) (cond (gJ (bZ .i64 d e.1) (bD f)) (cond (fV f (bZ .i64 d e.1)) (cond (bJ (bK f (bZ .i64 d e.1)) 60) (a6 ((bZ .i64 d e.1),()))<|cond (fV f (bZ .i64 d e.1)) (cond (bJ (bK f (bZ .i64 d e.1)) 62) (a6 ((bZ .i64 d e.1),()))<|some (d,())) a7) a7)<|some (d,()))<|some (d,())
def aCz:Sum:=⟨[.str,dw],Ql,fun x=>amc x.1 x.2.1⟩
theorem aqt:dE prog 94 aCz:=qA f94 [] (sE JD aN)
def abz (e:bQ) (d:Int) (h:lZ):Option (taK×Unit):=cond (fV e d) (cond (bJ (bK e d) 10) (a6 ((2,(d,((bZ .i64 d 1),(false,())))),()))<|cond (fV e d) (cond (bJ (bK e d) 35) (bz (amb e d) fun g=>a6 ((3,(d,(g.1,(false,())))),()))<|cond (gJ 0 h.2.1) (a6 ((4,(d,((bZ .i64 d h.2.1),(false,())))),()))<|bz (amc e d) fun g=>cond (gJ d g.1) (bz (amc e d) fun f=>a6 ((5,(d,(f.1,(false,())))),()))<|bz (amd e d) fun f=>cond (eG (bD e) d f.1) (bz (arM (sub e d f.1)) fun i=>a6 ((6,(d,(f.1,((!(eX i.1 [])),())))),())) a7) a7) a7
def arE (e:bQ) (d:Int):Option (taK×Unit):=bz (arL e d) fun g=>cond (fV e d) (bz (Qo (bK e d)) fun h=>cond (bJ h.1 1) (cond (bJ h.1 1) (bz (ama e d) fun f=>a6 ((1,(d,(f.1,(false,())))),()))<|abz e d g)<|bz (al9 e d) fun f=>cond f.1 (bz (ama e d) fun i=>a6 ((1,(d,(i.1,(false,())))),()))<|abz e d g) a7
def aCo:Sum:=⟨[.str,dw],[(.pair dw tyK,false)],fun x=>arE x.1 x.2.1⟩
theorem aqg:dE prog 65 aCo:=qA f65 [] (sE aqr (sE uU (sE aaw (sE aqs (sE aax (sE aqt (sE aqu (sE aqv aN))))))))
noncomputable def aAb:Code:=(Tryz.f166.body).getD .skip
noncomputable def aj0:Code:=cA (cA (cA (cB (aAb))))
def amK:dZ:=⟨[0,1,100001],[],[0],[],[4],[]⟩
def VB:SP:=⟨us [bB,cM] 15,[]⟩
def V7:SP:=⟨us [bB] 16,[]⟩
def WQ:SP:=⟨us [.u,.u,.u,.u,bB] 12,[]⟩
def MB {e:Type} (h:bQ->Int->Option e) (f i:bQ->Option e) (d:bQ) (g:Int):Option e:=cond (gJ 0 (bD d)) (cond (fV d 0) (cond (bJ (bK d 0) g) (cond (eG (bD d) 1 (bD d)) (h (sub d 1 (bD d)) g) a7)<|f d) a7)<|f d
def G8:Nat->bQ->Int->Option (V7.den⊕WQ.den)
 |0,_,_=>a7
 |n+1,d,e=>MB (G8 n) (fun f=>a6 (.inl ((f,()),()))) (fun g=>a6 (.inr ((g,()),()))) d e
def asl (n:Nat) (v:VB.den):=G8 n v.1.1 v.1.2.1
noncomputable def ae4:dm:=eP amK VB V7 WQ (.exit 0) (asl bG) 6
def aen (d:bQ) (e:Int):Option QR:=bz (G8 bG d e) fun f=>dL f (fun g=>a6 (g.1.1,())) (fun h=>a6 (h.1.1,()))
def apu:Sum:=⟨[.str,.int .u8],Yo,fun x=>aen x.1 x.2.1⟩
noncomputable def aa9:Env:=iE prog tt 166 [] [(1,amK)] [(1,ae4)]
def agj {d:Type} (a:VB.den->Option d) (b:V7.den->Option d) (c:WQ.den->Option d) (v:VB.den):Option d:=MB (aE a) (ar b) (ar c) v.1.1 v.1.2.1
theorem asZ:dJ aa9 166 aj0 ae4:=rH (agj) (h2:=by intros;simp only[agj,aE,ar,MB,bV,bW,bu,bT,bY])
theorem axm:dI aa9 166 aAb:=nG [aj0] (aD (fM (asZ)) aN)
theorem aho:eF aa9:=eA Tryz.f166 aN (axm)
theorem aiW:dE prog 166 apu:=sA aho
noncomputable def b88:Code:=(f88.body).getD .skip
noncomputable def auo:Code:=cA (cA (cA (cB (cA (cB (b88))))))
def au2:dZ:=⟨[0,1,5,100001],[],[1],[],[6,7],[]⟩
def aw2:dZ:=⟨[0,5,8,9,10],[],[],[],[],[]⟩
def afP:SP:=⟨us [bB,bE,.u,.u,.u,cy] 33,cX⟩
def WB:SP:=⟨us [.u,bE] 37,[]⟩
def Xi:SP:=⟨us [.u,.u,.u,.u,.u,.u,bE,bX] 31,[]⟩
def BN {g:Type} (d:(Int×Bool×Unit)) (e:bQ) (h:Int) (f:bQ) (i:Int->Bool->Option g) (j:bQ->Int->bQ->Bool->Option g) (l:Bool):Option g:=cond d.2.1 (cond (eX (sub e h d.1) f) (i (bZ .i64 d.1 1) true)<|j e (bZ .i64 d.1 1) f l)<|cond (eX (sub e h d.1) f) (i d.1 true)<|j e d.1 f l
def X4 {l:Type} (i:bQ->Int->bQ->Bool->Option l) (o:Int->Option l) (j:Int->Bool->Option l) (e:bQ) (f:Int) (g:bQ) (h:Bool):Option l:=cond (gJ f (bD e)) (bz (amb e f) fun d=>cond (eG (bD e) f d.1) (cond h (cond (eX (sub e f d.1) []) (BN d e f g j i h)<|cond (eX [9] []) (BN d e f g j i h)<|cond (bJ (bD [9]) 1) (cond (fV [9] 0) (cond (gJ (bK [9] 0) 128) (cond (fV [9] 0) (bz (aen (sub e f d.1) (bK [9] 0)) fun m=>cond d.2.1 (cond (eX m.1 g) (j (bZ .i64 d.1 1) true)<|i e (bZ .i64 d.1 1) g h)<|cond (eX m.1 g) (j d.1 true)<|i e d.1 g h) a7) a7) a7) a7)<|BN d e f g j i h) a7)<|o f
def EY:Nat->bQ->Int->bQ->Bool->Option (WB.den⊕Xi.den)
 |0,_,_,_,_=>a7
 |n+1,d,e,f,g=>X4 (EY n) (fun h=>a6 (.inl ((h,()),()))) (fun i j=>a6 (.inr ((i,j,()),()))) d e f g
def axW (n:Nat) (v:afP.den):=EY n v.1.1 v.1.2.1 v.2.1.1 v.2.1.2.1
noncomputable def anJ:dm:=eP au2 afP WB Xi (.exit 0) (axW bG) 6
def arK (f:bQ) (g:Int) (d:bQ×nH):Option (Int×Bool×Unit):=bz (EY bG f g d.1 d.2.1) fun h=>dL h (fun i=>a6 (i.1.1,(false,()))) (fun e=>a6 (e.1.1,(e.1.2.1,())))
def aCv:Sum:=⟨[.str,dw,D5],[(.int .i64,false),(.bool,false)],fun x=>arK x.1 x.2.1 x.2.2.1⟩
noncomputable def alo:Env:=gB prog tt [(93,avR),(166,apu)] [(88,1,au2),(88,600005,aw2)] [(88,1,anJ)] []
def aoR {d:Type} (a:afP.den->Option d) (b:WB.den->Option d) (c:Xi.den->Option d) (v:afP.den):Option d:=X4 (fun e f g h=>a ((e,f,()),((g,h,()),()))) (ar b) (aE c) v.1.1 v.1.2.1 v.2.1.1 v.2.1.2.1
theorem ayx:dJ alo 88 auo anJ:=rH (aoR) (h2:=by intros;simp only[aoR,ar,aE,X4,bV,bW,bu,bT,bY,BN])
theorem aBF:dI alo 88 b88:=nG [auo] (aD (fM (ayx)) aN)
theorem alp:eF alo:=eB (aD aax (aD aiW aN)) [88] (aD ⟨f88,b88,by kernel_rfl,by kernel_rfl,aBF⟩ aN)
theorem aqp:dE prog 88 aCv:=sA alp
def abA:Option taU:=a6 (([84],([0],(true,()))),())
def agU:Sum:=⟨[],tzF,fun x=>abA⟩
theorem PU:dE prog 67 agU:=qA f67 [] aN
def GR (d:ED) (e:Bool):Option taU:=a6 ((d.1,(d.2.1,(e,()))),())
def aCD:Sum:=⟨[.pair .str tyJ,.bool],tzF,fun x=>GR x.1 x.2.1⟩
theorem PY:dE prog 99 aCD:=qA f99 [] aN
def Aw (d:ED) (e:bQ):Option taU:=cond (eG (bD d.1) 0 (ed .i64 (bD d.1) 1)) (cond (fG (sub d.1 0 (ed .i64 (bD d.1) 1)) e) (a6 (((bP (sub d.1 0 (ed .i64 (bD d.1) 1)) e),(d.2.1,(d.2.2.1,()))),())) a7) a7
def ayN:Sum:=⟨[.pair .str tyJ,.str],tzF,fun x=>Aw x.1 x.2.1⟩
theorem Tj:dE prog 100 ayN:=qA f100 [] aN
def GI (d:ED):Option taU:=cond (eG (bD d.1) 0 (ed .i64 (bD d.1) 1)) (cond (eG (bD d.2.1) 0 (ed .i64 (bD d.1) 1)) (a6 (((sub d.1 0 (ed .i64 (bD d.1) 1)),((sub d.2.1 0 (ed .i64 (bD d.1) 1)),(d.2.2.1,()))),())) a7) a7
def ayO:Sum:=⟨[.pair .str tyJ],tzF,fun x=>GI x.1⟩
theorem JB:dE prog 101 ayO:=qA f101 [] aN
noncomputable def b31:Code:=(f31.body).getD .skip
noncomputable def atY:Code:=cA (cA (cB (cA (cB (b31)))))
def aeJ:dZ:=⟨[0,1,5,100002],[],[],[],[4],[]⟩
def afw:SP:=⟨us [cM,bB,.u,.u,.u,bE] 11,[]⟩
def acy:SP:=⟨us [] 17,[]⟩
def acY:SP:=⟨us db 12,[]⟩
def XM {d:Type} (h:Int->bQ->Int->Option d) (i:Option d) (j:Bool->Option d) (g:Int) (e:bQ) (f:Int):Option d:=cond (gJ f (bD e)) (cond (fV e f) (cond (bJ (bK e f) g) (j true)<|h g e (bZ .i64 f 1)) a7) i
def IX:Nat->Int->bQ->Int->Option (acy.den⊕acY.den)
 |0,_,_,_=>a7
 |n+1,d,e,f=>XM (IX n) (a6 (.inl ((),()))) (fun g=>a6 (.inr ((g,()),()))) d e f
def axD (n:Nat) (v:afw.den):=ba (IX n) v
noncomputable def ano:dm:=eP aeJ afw acy acY (.exit 0) (axD bG) 6
def GN (d:Int) (e:bQ):Option nH:=bz (IX bG d e 0) fun f=>dL f (fun h=>a6 (false,())) (fun g=>a6 (g.1.1,()))
def apU:Sum:=⟨[.int .u8,.str],Ip,fun x=>GN x.1 x.2.1⟩
noncomputable def akL:Env:=iE prog tt 31 [] [(2,aeJ)] [(2,ano)]
def aoy {d:Type} (a:afw.den->Option d) (b:acy.den->Option d) (c:acY.den->Option d) (v:afw.den):Option d:=ba (XM (aR a) (b ((),())) (ar c)) v
theorem aye:dJ akL 31 atY ano:=rH (aoy) (h2:=by intros;simp only[aoy,aR,ar,ba,XM,bV,bW,bu,bT,bY])
theorem aBl:dI akL 31 b31:=nG [atY] (aD (fM (aye)) aN)
theorem akM:eF akL:=eA f31 aN (aBl)
theorem BP:dE prog 31 apU:=sA akM
def IJ (d:Int):Option BR:=cond (bJ d 32) (a6 (1,()))<|cond (bJ d 9) (a6 (1,()))<|cond (bJ d 10) (a6 (2,()))<|bz (GN d [124,38,59,60,62,40,41]) fun e=>cond e.1 (a6 (3,()))<|bz (GN d [92,39,34,96,36]) fun f=>cond f.1 (a6 (4,()))<|bz (GN d [65,66,67,68,69,70,71,72,73,74,75,76,77,78,79,80,81,82,83,84,85,86,87,88,89,90,97,98,99,100,101,102,103,104,105,106,107,108,109,110,111,112,113,114,115,116,117,118,119,120,121,122,95]) fun g=>cond g.1 (a6 (5,()))<|bz (GN d [48,49,50,51,52,53,54,55,56,57]) fun h=>cond h.1 (a6 (6,()))<|some (0,())
def aao:Sum:=⟨[.int .u8],Ql,fun x=>IJ x.1⟩
theorem uT:dE prog 34 aao:=qA f34 [] (sE BP aN)
def al7 (e:Int):Option nH:=bz (IJ e) fun d=>cond (bJ d.1 1) (a6 (true,()))<|cond (bJ d.1 2) (a6 (true,()))<|some ((bJ d.1 3),())
def avN:Sum:=⟨[.int .u8],Ip,fun x=>al7 x.1⟩
theorem aau:dE prog 68 avN:=qA f68 [] (sE uT aN)
def jR (d:ED) (e:bQ):=eX (bP d.1 e) (bP d.1 e)
def lq (d:ED):=mg dw d.2.1 d.2.1
def uB (d:ED) (e:bQ) (f:Int):Option taU:=cond (fG d.1 e) (cond (eX d.1 d.1) (cond (eX e e) (cond (fG d.1 e) (cond (jR d e) (cond (lq d) (cond (bJ f f) (cond (ja d.2.2.1 d.2.2.1) (cond (dN (bP [] d.2.1) 8) (cond (eX d.1 d.1) (cond (eX e e) (cond (fG d.1 e) (cond (jR d e) (cond (bJ f f) (cond (ja d.2.2.1 d.2.2.1) (cond (eX d.1 d.1) (cond (eX e e) (cond (fG d.1 e) (cond (jR d e) (cond (lq d) (cond (ja d.2.2.1 d.2.2.1) (cond (dN (bP (bP [] d.2.1) [f]) 8) (cond (eX d.1 d.1) (cond (eX e e) (cond (fG d.1 e) (cond (jR d e) (cond (lq d) (cond (bJ f f) (cond (ja d.2.2.1 d.2.2.1) (bz (cond (eX d.1 d.1) (cond (eX e e) (cond (fG d.1 e) (cond (jR d e) (cond (lq d) (cond (ja d.2.2.1 d.2.2.1) (cond (dN (bP [] d.2.1) 8) (cond (eX d.1 d.1) (cond (eX e e) (cond (fG d.1 e) (cond (jR d e) (cond (bJ f f) (cond (ja d.2.2.1 d.2.2.1) (cond (dN (bP (bP [] d.2.1) [f]) 8) (cond (eX d.1 d.1) (cond (eX e e) (cond (fG d.1 e) (cond (jR d e) (cond (lq d) (cond (bJ f f) (cond (ja d.2.2.1 d.2.2.1) (cond (((((eX d.1 d.1)&&((lq d)&&((ja d.2.2.1 d.2.2.1)&&true)))&&((eX e e)&&((bJ f f)&&((eX d.1 d.1)&&((eX e e)&&((jR d e)&&((lq d)&&((bJ f f)&&((ja d.2.2.1 d.2.2.1)&&(((jR d e)&&((ja d.2.2.1 d.2.2.1)&&true))&&true))))))))))&&(((mg dw [f] [f])&&((mg dw (bP (bP [] d.2.1) [f]) (bP (bP [] d.2.1) [f]))&&(((jR d e)&&((ja d.2.2.1 d.2.2.1)&&true))&&(((eX d.1 d.1)&&((lq d)&&((ja d.2.2.1 d.2.2.1)&&true)))&&true))))&&true))&&true) (a6 ()) (a7)) (a7)) (a7)) (a7)) (a7)) (a7)) (a7)) (a7)) (a7)) (a7)) (a7)) (a7)) (a7)) (a7)) (a7)) (a7)) (a7)) (a7)) (a7)) (a7)) (a7)) (a7)) fun g=>bz (cond (eX d.1 d.1) (cond (eX e e) (cond (fG d.1 e) (cond (jR d e) (cond (lq d) (cond (ja d.2.2.1 d.2.2.1) (cond (eX d.1 d.1) (cond (eX e e) (cond (fG d.1 e) (cond (jR d e) (cond (lq d) (cond (bJ f f) (cond (ja d.2.2.1 d.2.2.1) (cond (dN (bP [] d.2.1) 8) (cond (eX d.1 d.1) (cond (eX e e) (cond (fG d.1 e) (cond (jR d e) (cond (bJ f f) (cond (ja d.2.2.1 d.2.2.1) (cond (dN (bP (bP [] d.2.1) [f]) 8) (cond (eX d.1 d.1) (cond (eX e e) (cond (fG d.1 e) (cond (jR d e) (cond (lq d) (cond (bJ f f) (cond (ja d.2.2.1 d.2.2.1) (cond (((((eX d.1 d.1)&&((lq d)&&((ja d.2.2.1 d.2.2.1)&&true)))&&((eX e e)&&((bJ f f)&&((eX d.1 d.1)&&((eX e e)&&((jR d e)&&((lq d)&&((bJ f f)&&((ja d.2.2.1 d.2.2.1)&&(((jR d e)&&((ja d.2.2.1 d.2.2.1)&&true))&&true))))))))))&&(((mg dw [f] [f])&&((mg dw (bP (bP [] d.2.1) [f]) (bP (bP [] d.2.1) [f]))&&(((jR d e)&&((ja d.2.2.1 d.2.2.1)&&true))&&(((eX d.1 d.1)&&((lq d)&&((ja d.2.2.1 d.2.2.1)&&true)))&&true))))&&true))&&true) (a6 ()) (a7)) (a7)) (a7)) (a7)) (a7)) (a7)) (a7)) (a7)) (a7)) (a7)) (a7)) (a7)) (a7)) (a7)) (a7)) (a7)) (a7)) (a7)) (a7)) (a7)) (a7)) (a7)) (a7)) (a7)) (a7)) (a7)) (a7)) (a7)) (a7)) fun h=>a6 (((bP d.1 e),((bP (bP [] d.2.1) [f]),(d.2.2.1,()))),())) a7) a7) a7) a7) a7) a7) a7) a7) a7) a7) a7) a7) a7) a7) a7) a7) a7) a7) a7) a7) a7) a7) a7) a7) a7) a7) a7) a7) a7
def ayV:Sum:=⟨[.pair .str tyJ,.str,dw],tzF,fun x=>uB x.1 x.2.1 x.2.2.1⟩
theorem Tt:dE prog 145 ayV:=qA f145 [] aN
def Rt (d:Int):Option QR:=cond (bJ d 92) (a6 ([88],()))<|cond (bJ d 36) (a6 ([76],()))<|cond (bJ d 96) (a6 ([66],()))<|some ([],())
def ayW:Sum:=⟨[.int .u8],Yo,fun x=>Rt x.1⟩
theorem Tu:dE prog 146 ayW:=qA f146 [] aN
def Uz (e:Int) (d:ED) (f:Int):Option taU:=bz (Rt e) fun g=>bz (uB (d.1,(d.2.1,(d.2.2.1,()))) g.1 f) fun i=>cond (bJ e e) (bz (GR i.1 false) fun h=>cond ((eX d.1 d.1)&&((mg dw d.2.1 d.2.1)&&((ja d.2.2.1 d.2.2.1)&&true))) (cond (bJ e e) (cond (bJ f f) (cond (((bJ e e)&&true)&&((eX g.1 g.1)&&true)) (a6 ((h.1.1,(h.1.2.1,(h.1.2.2.1,()))),())) a7) a7) a7) a7) a7
def UA (g h:Int) (d:ED) (i:Int):Option taU:=cond (bJ g 40) (cond (bJ h 84) (bz (GR (d.1,(d.2.1,(d.2.2.1,()))) true) fun e=>a6 ((e.1.1,(e.1.2.1,(e.1.2.2.1,()))),()))<|bz (uB (d.1,(d.2.1,(d.2.2.1,()))) [80] i) fun e=>bz (GR e.1 true) fun f=>a6 ((f.1.1,(f.1.2.1,(f.1.2.2.1,()))),()))<|cond (bJ g 41) (cond (bJ h 84) (bz (GR (d.1,(d.2.1,(d.2.2.1,()))) true) fun e=>a6 ((e.1.1,(e.1.2.1,(e.1.2.2.1,()))),()))<|bz (GI (d.1,(d.2.1,(d.2.2.1,())))) fun e=>bz (GR e.1 (bJ h 80)) fun f=>a6 ((f.1.1,(f.1.2.1,(f.1.2.2.1,()))),()))<|bz (al7 g) fun e=>bz (GR (d.1,(d.2.1,(d.2.2.1,()))) e.1) fun f=>cond (bJ g g) (a6 ((f.1.1,(f.1.2.1,(f.1.2.2.1,()))),())) a7
def aej (d:ED) (i f g:Int):Option taU:=cond (bJ f 92) (bz (uB (d.1,(d.2.1,(d.2.2.1,()))) [88] g) fun e=>a6 ((e.1.1,(e.1.2.1,(e.1.2.2.1,()))),()))<|cond (bJ f 39) (bz (uB (d.1,(d.2.1,(d.2.2.1,()))) [83] g) fun e=>bz (GR e.1 false) fun h=>a6 ((h.1.1,(h.1.2.1,(h.1.2.2.1,()))),()))<|cond (bJ f 34) (bz (uB (d.1,(d.2.1,(d.2.2.1,()))) [68] g) fun e=>bz (GR e.1 false) fun h=>a6 ((h.1.1,(h.1.2.1,(h.1.2.2.1,()))),()))<|cond (bJ f 96) (Uz f d g)<|cond (bJ f 36) (Uz f d g)<|cond (bJ f 35) (cond d.2.2.1 (bz (uB (d.1,(d.2.1,(d.2.2.1,()))) [35] g) fun e=>a6 ((e.1.1,(e.1.2.1,(e.1.2.2.1,()))),()))<|UA f i d g)<|UA f i d g
def ayU:Sum:=⟨[.pair .str tyJ,.int .u8,.int .u8,dw],tzF,fun x=>aej x.1 x.2.1 x.2.2.1 x.2.2.2.1⟩
theorem aiS:dE prog 144 ayU:=qA f144 [] (sE aau (sE PY (sE JB (sE Tt (sE Tu aN)))))
def yV (d:ED) (f g h:Int):Option taU:=bz (aej (d.1,(d.2.1,(d.2.2.1,()))) f g h) fun e=>a6 ((e.1.1,(e.1.2.1,(e.1.2.2.1,()))),())
def rX (d:ED):Option taU:=bz (GI (d.1,(d.2.1,(d.2.2.1,())))) fun e=>a6 ((e.1.1,(e.1.2.1,(e.1.2.2.1,()))),())
def CB (f:Int) (d:ED):Option taU:=cond (bJ f 41) (bz (Aw (d.1,(d.2.1,(d.2.2.1,()))) [69]) fun e=>a6 ((e.1.1,(e.1.2.1,(e.1.2.2.1,()))),()))<|some ((d.1,(d.2.1,(d.2.2.1,()))),())
def CE (e:Int) (d:ED) (g h:Int):Option taU:=cond (bJ e 40) (bz (uB (d.1,(d.2.1,(d.2.2.1,()))) [82] g) fun f=>a6 ((f.1.1,(f.1.2.1,(f.1.2.2.1,()))),()))<|cond (bJ e 41) (cond (bJ h 82) (rX d)<|CB e d)<|CB e d
def D8 (d:ED) (g e i:Int):Option taU:=cond (bJ g 84) (yV d g e i)<|cond (bJ g 67) (yV d g e i)<|cond (bJ g 80) (yV d g e i)<|cond (bJ g 88) (bz (GI (d.1,(d.2.1,(d.2.2.1,())))) fun h=>cond (!(bJ e 10)) (bz (GR (h.1.1,(h.1.2.1,(h.1.2.2.1,()))) false) fun f=>a6 ((f.1.1,(f.1.2.1,(f.1.2.2.1,()))),()))<|some ((h.1.1,(h.1.2.1,(h.1.2.2.1,()))),()))<|cond (bJ g 83) (cond (bJ e 39) (rX d)<|some ((d.1,(d.2.1,(d.2.2.1,()))),()))<|cond (bJ g 35) (cond (bJ e 10) (bz (GI (d.1,(d.2.1,(d.2.2.1,())))) fun h=>bz (GR h.1 true) fun f=>a6 ((f.1.1,(f.1.2.1,(f.1.2.2.1,()))),()))<|some ((d.1,(d.2.1,(d.2.2.1,()))),()))<|cond (bJ g 66) (cond (bJ e 96) (rX d)<|cond (bJ e 92) (bz (uB (d.1,(d.2.1,(d.2.2.1,()))) [88] i) fun h=>a6 ((h.1.1,(h.1.2.1,(h.1.2.2.1,()))),()))<|some ((d.1,(d.2.1,(d.2.2.1,()))),()))<|bz (Rt e) fun h=>cond (!(eX h.1 [])) (bz (Rt e) fun f=>bz (uB (d.1,(d.2.1,(d.2.2.1,()))) f.1 i) fun j=>cond (bJ e e) (a6 ((j.1.1,(j.1.2.1,(j.1.2.2.1,()))),())) a7)<|cond (bJ g 65) (CE e d i g)<|cond (bJ g 82) (CE e d i g)<|cond (bJ g 68) (cond (bJ e 34) (rX d)<|some ((d.1,(d.2.1,(d.2.2.1,()))),()))<|cond (bJ e 34) (bz (uB (d.1,(d.2.1,(d.2.2.1,()))) [68] i) fun f=>a6 ((f.1.1,(f.1.2.1,(f.1.2.2.1,()))),()))<|cond (bJ e 125) (rX d)<|cond (bJ e 39) (cond (bJ g 86) (bz (uB (d.1,(d.2.1,(d.2.2.1,()))) [83] i) fun f=>a6 ((f.1.1,(f.1.2.1,(f.1.2.2.1,()))),()))<|some ((d.1,(d.2.1,(d.2.2.1,()))),()))<|some ((d.1,(d.2.1,(d.2.2.1,()))),())
def ayP:Sum:=⟨[.pair .str tyJ,.int .u8,.int .u8,dw],tzF,fun x=>D8 x.1 x.2.1 x.2.2.1 x.2.2.2.1⟩
theorem aiG:dE prog 102 ayP:=qA f102 [] (sE PY (sE Tj (sE JB (sE aiS (sE Tt (sE Tu aN))))))
def abB (d:ED) (g h:Int):Option taU:=cond (fV d.1 (ed .i64 (bD d.1) 1)) (cond (bJ (bK d.1 (ed .i64 (bD d.1) 1)) 76) (cond (bJ g 40) (bz (Aw (d.1,(d.2.1,(d.2.2.1,()))) [79]) fun e=>bz (GR e.1 true) fun f=>a6 ((f.1.1,(f.1.2.1,(f.1.2.2.1,()))),()))<|cond (bJ g 123) (cond (fV d.1 (ed .i64 (bD d.1) 2)) (cond (bJ (bK d.1 (ed .i64 (bD d.1) 2)) 68) (bz (Aw (d.1,(d.2.1,(d.2.2.1,()))) [73]) fun e=>a6 ((e.1.1,(e.1.2.1,(e.1.2.2.1,()))),()))<|cond (fV d.1 (ed .i64 (bD d.1) 2)) (cond (bJ (bK d.1 (ed .i64 (bD d.1) 2)) 73) (bz (Aw (d.1,(d.2.1,(d.2.2.1,()))) [73]) fun e=>a6 ((e.1.1,(e.1.2.1,(e.1.2.2.1,()))),()))<|bz (Aw (d.1,(d.2.1,(d.2.2.1,()))) [86]) fun e=>a6 ((e.1.1,(e.1.2.1,(e.1.2.2.1,()))),())) a7) a7)<|bz (GI (d.1,(d.2.1,(d.2.2.1,())))) fun e=>cond (bJ g 36) (a6 ((e.1.1,(e.1.2.1,(e.1.2.2.1,()))),()))<|cond (fV e.1.1 (ed .i64 (bD e.1.1) 1)) (bz (D8 (e.1.1,(e.1.2.1,(e.1.2.2.1,()))) (bK e.1.1 (ed .i64 (bD e.1.1) 1)) g h) fun f=>a6 ((f.1.1,(f.1.2.1,(f.1.2.2.1,()))),())) a7)<|cond (bJ (bK d.1 (ed .i64 (bD d.1) 1)) 79) (cond (bJ g 40) (bz (Aw (d.1,(d.2.1,(d.2.2.1,()))) [65]) fun e=>bz (GR e.1 false) fun f=>a6 ((f.1.1,(f.1.2.1,(f.1.2.2.1,()))),()))<|bz (Aw (d.1,(d.2.1,(d.2.2.1,()))) [67]) fun e=>bz (D8 (e.1.1,(e.1.2.1,(e.1.2.2.1,()))) 67 g h) fun f=>a6 ((f.1.1,(f.1.2.1,(f.1.2.2.1,()))),()))<|cond (bJ (bK d.1 (ed .i64 (bD d.1) 1)) 69) (cond (bJ g 41) (bz (GI (d.1,(d.2.1,(d.2.2.1,())))) fun e=>a6 ((e.1.1,(e.1.2.1,(e.1.2.2.1,()))),()))<|bz (Aw (d.1,(d.2.1,(d.2.2.1,()))) [65]) fun e=>bz (D8 (e.1.1,(e.1.2.1,(e.1.2.2.1,()))) 65 g h) fun f=>a6 ((f.1.1,(f.1.2.1,(f.1.2.2.1,()))),()))<|bz (D8 (d.1,(d.2.1,(d.2.2.1,()))) (bK d.1 (ed .i64 (bD d.1) 1)) g h) fun e=>a6 ((e.1.1,(e.1.2.1,(e.1.2.2.1,()))),())) a7
def agV:Sum:=⟨[.pair .str tyJ,.int .u8,dw],tzF,fun x=>abB x.1 x.2.1 x.2.2.1⟩
theorem PV:dE prog 69 agV:=qA f69 [] (sE PY (sE Tj (sE JB (sE aiG aN))))
noncomputable def az9:Code:=(f147.body).getD .skip
noncomputable def ajW:Code:=cA (cA (cB (cA (cB (az9)))))
def amG:dZ:=⟨[1,2,5,100002],[],[],[],[4],[]⟩
def Vx:SP:=⟨us [.u,bE,.ptr 1000002 0,.u,.u,bE] 15,[.box 1000002 104 en]⟩
def V3:SP:=⟨us [] 21,[]⟩
def WM:SP:=⟨us cI 16,[]⟩
def Me {e:Type} (h:Int->Int->bQ->iU->Bool->Option e) (i:Option e) (j:Int->Option e) (g d:Int) (l:bQ) (f:iU) (m:Bool):Option e:=cond (gJ d (bD f)) (cond (fV f d) (cond (bJ (gu f 0 d) g) (j d)<|h g (bZ .i64 d 1) l f m) a7) i
def CZ:Nat->Int->Int->bQ->iU->Bool->Option (V3.den⊕WM.den)
 |0,_,_,_,_,_=>a7
 |n+1,d,e,f,g,h=>Me (CZ n) (a6 (.inl ((),()))) (fun i=>a6 (.inr ((i,()),()))) d e f g h
def asf (n:Nat) (v:Vx.den):=CZ n v.1.1 v.1.2.1 v.2.1.1 v.2.1.2.1 v.2.1.2.2.1
noncomputable def ae0:dm:=eP amG Vx V3 WM (.exit 0) (asf bG) 6
def YV (d:ED) (e:Int):Option BR:=bz (CZ bG e 1 d.1 d.2.1 d.2.2.1) fun f=>dL f (fun h=>a6 (0,())) (fun g=>a6 (g.1.1,()))
def apn:Sum:=⟨[.pair .str tyJ,dw],Ql,fun x=>YV x.1 x.2.1⟩
noncomputable def aa5:Env:=iE prog tt 147 [] [(2,amG)] [(2,ae0)]
def age {d:Type} (a:Vx.den->Option d) (b:V3.den->Option d) (c:WM.den->Option d) (v:Vx.den):Option d:=Me (fun e f g h i=>a ((e,f,()),((g,h,i,()),()))) (b ((),())) (ar c) v.1.1 v.1.2.1 v.2.1.1 v.2.1.2.1 v.2.1.2.2.1
theorem asV:dJ aa5 147 ajW ae0:=rH (age) (h2:=by intros;simp only[age,ar,Me,bV,bW,bu,bT,bY])
theorem axi:dI aa5 147 az9:=nG [ajW] (aD (fM (asV)) aN)
theorem ahk:eF aa5:=eA f147 aN (axi)
theorem aiT:dE prog 147 apn:=sA ahk
noncomputable def aAa:Code:=(f148.body).getD .skip
noncomputable def ajX:Code:=cA (cA (cB (cA (cB (cB (cB (aAa)))))))
def amH:dZ:=⟨[0,3,100006],[],[],[],[2],[]⟩
def Vy:SP:=⟨us [cM,.u,.u,bE] 13,[]⟩
def V4:SP:=⟨us [] 17,[]⟩
def WN:SP:=⟨us [.u,.u,bE] 14,[]⟩
def XC {e:Type} (g:Int->Int->Option e) (h:Option e) (i:Int->Option e) (f d:Int):Option e:=cond (gJ d 15) (cond (fV [84,67,80,79,83,68,66,86,73,65,82,69,76,88,35] d) (cond (bJ (bK [84,67,80,79,83,68,66,86,73,65,82,69,76,88,35] d) f) (i d)<|g f (bZ .i64 d 1)) a7) h
def UY:Nat->Int->Int->Option (V4.den⊕WN.den)
 |0,_,_=>a7
 |n+1,d,e=>XC (UY n) (a6 (.inl ((),()))) (fun f=>a6 (.inr ((f,()),()))) d e
def ash (n:Nat) (v:Vy.den):=UY n v.1.1 v.1.2.1
noncomputable def ae1:dm:=eP amH Vy V4 WN (.exit 0) (ash bG) 6
def aek (d:Int):Option BR:=cond (bJ d 79) (a6 (1,()))<|cond (bJ d 69) (a6 (9,()))<|bz (UY bG d 0) fun e=>dL e (fun g=>a6 (0,())) (fun f=>a6 (f.1.1,()))
def apo:Sum:=⟨[.int .u8],Ql,fun x=>aek x.1⟩
noncomputable def aa6:Env:=iE prog tt 148 [] [(6,amH)] [(6,ae1)]
def agf {d:Type} (a:Vy.den->Option d) (b:V4.den->Option d) (c:WN.den->Option d) (v:Vy.den):Option d:=XC (aE a) (b ((),())) (ar c) v.1.1 v.1.2.1
theorem asW:dJ aa6 148 ajX ae1:=rH (agf) (h2:=by intros;simp only[agf,aE,ar,XC,bV,bW,bu,bT,bY])
theorem axj:dI aa6 148 aAa:=nG [ajX] (aD (fM (asW)) aN)
theorem ahl:eF aa6:=eA f148 aN (axj)
theorem aiU:dE prog 148 apo:=sA ahl
noncomputable def b60:Code:=(f60.body).getD .skip
noncomputable def aui:Code:=cA (cA (cB (cA (cB (cB (b60))))))
def afJ:SP:=⟨us [bB,.u,.u,bE] 27,[]⟩
def acI:SP:=⟨us [] 31,[]⟩
def ac8:SP:=⟨us eo 28,[]⟩
def XY {f:Type} (g:bQ->Int->Option f) (h:Option f) (i:Bool->Option f) (d:bQ) (e:Int):Option f:=cond (gJ e (bD d)) (cond (fV d e) (bz (IJ (bK d e)) fun j=>cond (!(bJ j.1 5)) (cond (fV d e) (bz (IJ (bK d e)) fun l=>cond (!(bJ l.1 6)) (i false)<|g d (bZ .i64 e 1)) a7)<|g d (bZ .i64 e 1)) a7) h
def I9:Nat->bQ->Int->Option (acI.den⊕ac8.den)
 |0,_,_=>a7
 |n+1,d,e=>XY (I9 n) (a6 (.inl ((),()))) (fun f=>a6 (.inr ((f,()),()))) d e
def axQ (n:Nat) (v:afJ.den):=I9 n v.1.1 v.1.2.1
noncomputable def anD:dm:=eP RP afJ acI ac8 (.exit 0) (axQ bG) 6
def ahT (d:bQ):Option nH:=cond (bJ (bD d) 0) (a6 (false,()))<|cond (fV d 0) (bz (IJ (bK d 0)) fun e=>cond (!(bJ e.1 5)) (a6 (false,()))<|bz (I9 bG d 1) fun f=>dL f (fun h=>a6 (true,())) (fun g=>a6 (g.1.1,()))) a7
def aqb:Sum:=⟨[.str],Ip,fun x=>ahT x.1⟩
noncomputable def ak9:Env:=iE prog tt 60 [(34,aao)] [(4,RP)] [(4,anD)]
def aoL {d:Type} (a:afJ.den->Option d) (b:acI.den->Option d) (c:ac8.den->Option d) (v:afJ.den):Option d:=XY (aE a) (b ((),())) (ar c) v.1.1 v.1.2.1
theorem ayr:dJ ak9 60 aui anD:=rH (aoL) (h2:=by intros;simp only[aoL,aE,ar,XY,bV,bW,bu,bT,bY])
theorem aBy:dI ak9 60 b60:=nG [aui] (aD (fM (ayr)) aN)
theorem ala:eF ak9:=eA f60 (aD uT aN) (aBy)
theorem aat:dE prog 60 aqb:=sA ala
noncomputable def aAc:Code:=(f188.body).getD .skip
noncomputable def aj3:Code:=cA (cA (cB (cA (cB (cB (aAc))))))
def UR:dZ:=⟨[0,1,5,6,100003],[],[5],[],[4],[]⟩
def VF:SP:=⟨us [bB,bE,.u,.u,.u,bE,bE] 17,[]⟩
def We:SP:=⟨us [.u,.u,.u,.u,.u,bE] 18,[]⟩
def WT:SP:=⟨us cI 19,[]⟩
def MF {g:Type} (h:bQ->Int->Int->Int->Option g) (j m:Int->Option g) (f:bQ) (d i e:Int):Option g:=cond (leI e (ed .i64 (bD f) d)) (cond (eG (bD f) d (bZ .i64 d e)) (bz (ahT (sub f d (bZ .i64 d e))) fun l=>cond l.1 (h f d e (bZ .i64 e 1))<|h f d i (bZ .i64 e 1)) a7)<|j i
def C9:Nat->bQ->Int->Int->Int->Option (We.den⊕WT.den)
 |0,_,_,_,_=>a7
 |n+1,d,e,f,g=>MF (C9 n) (fun h=>a6 (.inl ((h,()),()))) (fun i=>a6 (.inr ((i,()),()))) d e f g
def asq (n:Nat) (v:VF.den):=aM (C9 n) v
noncomputable def ae7:dm:=eP UR VF We WT (.exit 0) (asq bG) 6
def aep (d:bQ) (e:Int):Option BR:=bz (C9 bG d e 0 1) fun f=>dL f (fun g=>a6 (g.1.1,())) (fun h=>a6 (h.1.1,()))
def ay2:Sum:=⟨[.str,dw],Ql,fun x=>aep x.1 x.2.1⟩
noncomputable def aba:Env:=iE prog tt 188 [(60,aqb)] [(3,UR)] [(3,ae7)]
def agm {d:Type} (a:VF.den->Option d) (b:We.den->Option d) (c:WT.den->Option d) (v:VF.den):Option d:=aM (MF (aL a) (ar b) (ar c)) v
theorem as3:dJ aba 188 aj3 ae7:=rH (agm) (h2:=by intros;simp only[agm,aL,ar,aM,MF,bV,bW,bu,bT,bY])
theorem axo:dI aba 188 aAc:=nG [aj3] (aD (fM (as3)) aN)
theorem ahq:eF aba:=eA f188 (aD aat aN) (axo)
theorem ai5:dE prog 188 ay2:=sA ahq
def ael (d:bQ) (e:Int):Option BR:=bz (aep d e) fun f=>cond (bJ f.1 0) (cond (gJ e (bD d)) (cond (fV d e) (bz (IJ (bK d e)) fun g=>cond (bJ g.1 6) (a6 (1,()))<|cond (fV d e) (bz (GN (bK d e) [64,42,35,63,45,36,33]) fun h=>cond h.1 (a6 (1,()))<|some (f.1,())) a7) a7)<|some (f.1,()))<|some (f.1,())
def apq:Sum:=⟨[.str,dw],Ql,fun x=>ael x.1 x.2.1⟩
theorem aiV:dE prog 149 apq:=qA f149 [] (sE uT (sE BP (sE ai5 aN)))
noncomputable def ajI:Code:=(f103.body).getD .skip
noncomputable def ajP:Code:=cA (cA (cB (cA (cB (cB (ajI))))))
noncomputable def adR:Code:=cA (cA (cB (cA (cB (cB (cB (cA (cA (cB (cA (cA (cB (cA (cB (cB (cB (cB (ajI))))))))))))))))))
noncomputable def adS:Code:=cA (cA (cB (cA (cB (cB (cB (cB (cA (cA (cB (cA (cA (cB (cA (cB (cB (cB (cB (ajI)))))))))))))))))))
noncomputable def ajQ:Code:=cA (cA (cB (cA (cB (cB (cB (cB (ajI))))))))
def amz:dZ:=⟨[0,3,4,100003],[],[0,3],[],[2],[(2,F6)]⟩
def aeG:dZ:=⟨[0,3,5,6,7,8,9,100014],[],[0,3,5,6,7,8],[],[2],[(2,F6)]⟩
def aeH:dZ:=⟨[0,3,5,6,7,8,10,100019],[],[0,3,5,6,8],[],[2],[(2,F6)]⟩
def amA:dZ:=⟨[0,3,5,6,100008],[(5,F6)],[5],[],[2],[(2,F6)]⟩
def Vo:SP:=⟨us [bB,.u,.u,c7,bE] 117,[cN]⟩
def VS:SP:=⟨us [bB,.u,.u,c7] 118,[cN]⟩
def WC:SP:=⟨dg,[]⟩
def LZ {g:Type} (i:bQ->Int->(List ED)->Option g) (j:bQ->(List ED)->Option g) (l:(List iO)->Option g) (f:bQ) (d:Int) (e:List ED):Option g:=cond (gJ d (bD f)) (cond (fV e d) (cond (fV f d) (cond (lN (dh d) e) (bz (abB ((dB e ([],([],(false,()))) (dh d)).1,((dB e ([],([],(false,()))) (dh d)).2.1,((dB e ([],([],(false,()))) (dh d)).2.2.1,()))) (bK f d) d) fun h=>cond (dN (bP e [h.1]) 48) (i f (bZ .i64 d 1) (bP e [h.1])) a7) a7) a7) a7)<|j f e
def CW:Nat->bQ->Int->(List ED)->Option (VS.den⊕WC.den)
 |0,_,_,_=>a7
 |n+1,d,e,f=>LZ (CW n) (fun g h=>a6 (.inl ((g,()),(h,())))) (fun i=>a6 (.inr ((i,()),()))) d e f
def ar6 (n:Nat) (v:Vo.den):=CW n v.1.1 v.1.2.1 v.2.1
noncomputable def aeT:dm:=eP amz Vo VS WC (.exit 0) (ar6 bG) 6
def LD:SP:=⟨us [bB,.u,.u,c7,.u,dj,bE,bE,eh,bE] 112,cg⟩
def OU:SP:=⟨us [bB,.u,.u,c7,.u,dj,bE,bE,eh] 113,cg⟩
def OZ:SP:=⟨dg,[]⟩
def Ie {i:Type} (q:bQ->Int->Int->Int->Int->Int->Int->Int->Bool->(List iO)->(List ED)->Option i) (u:bQ->Int->Int->Int->Int->Int->Int->Bool->(List iO)->(List ED)->Option i) (v:(List iO)->Option i) (j:bQ) (d h e l m o s:Int) (p:Bool) (f:List iO) (g:List ED):Option i:=cond (gJ e (bD f)) (cond (gJ 1 h) (cond (fV f e) (cond (lN (dh e) f) (cond (fV g (bZ .i64 d 1)) (cond (lN (dh (bZ .i64 d 1)) g) (cond (fV (dB g ([],([],(false,()))) (dh (bZ .i64 d 1))).2.1 (ed .i64 h 1)) (cond (bJ (dB f (0,(0,(0,(0,(false,()))))) (dh e)).2.1 (gu (dB g ([],([],(false,()))) (dh (bZ .i64 d 1))).2.1 0 (ed .i64 h 1))) (q j d h (bZ .i64 e 1) l m o e p f g)<|q j d h (bZ .i64 e 1) l m o s p f g) a7) a7) a7) a7) a7)<|q j d h (bZ .i64 e 1) l m o s p f g)<|u j d h l m o s p f g
def xX:Nat->bQ->Int->Int->Int->Int->Int->Int->Int->Bool->(List iO)->(List ED)->Option (OU.den⊕OZ.den)
 |0,_,_,_,_,_,_,_,_,_,_,_=>a7
 |n+1,d,e,f,g,h,i,j,l,m,o,p=>Ie (xX n) (fun q s u v x y z A B D=>a6 (.inl ((q,s,u,()),((v,x,y,z,A,()),B,D,())))) (fun E=>a6 (.inr ((E,()),()))) d e f g h i j l m o p
def ane (n:Nat) (v:LD.den):=bb (xX n) v
noncomputable def Zw:dm:=eP aeG LD OU OZ (.exit 4) (ane bG) 12
def LG:SP:=⟨us [bB,.u,.u,c7,.u,dj,bE,bE,eh,.u,bE] 111,cg⟩
def OV:SP:=⟨us [bB,.u,.u,c7,.u,dj,bE,.u,eh] 113,cg⟩
def O0:SP:=⟨dg,[]⟩
def yu {f:Type} (u:bQ->Int->Int->Int->Int->Int->Int->Int->Bool->(List iO)->(List ED)->Option f) (o:bQ->Int->Int->Int->Int->Int->Bool->(List iO)->(List ED)->Option f) (y:(List iO)->Option f) (g:bQ) (h i d p j q l:Int) (s:Bool) (m:List iO) (e:List ED):Option f:=cond (leI d (bD g)) (cond (fV e d) (cond (lN (dh d) e) (bz (YV ((dB e ([],([],(false,()))) (dh d)).1,((dB e ([],([],(false,()))) (dh d)).2.1,((dB e ([],([],(false,()))) (dh d)).2.2.1,()))) h) fun v=>cond (bJ v.1 0) (o g h p j d l false m e)<|cond (fV e d) (cond (lN (dh d) e) (cond (fV (dB e ([],([],(false,()))) (dh d)).1 i) (bz (aek (bK (dB e ([],([],(false,()))) (dh d)).1 i)) fun x=>u g h i (bZ .i64 d 1) x.1 j q l s m e) a7) a7) a7) a7) a7)<|o g h p j q l s m e
def uK:Nat->bQ->Int->Int->Int->Int->Int->Int->Int->Bool->(List iO)->(List ED)->Option (OV.den⊕O0.den)
 |0,_,_,_,_,_,_,_,_,_,_,_=>a7
 |n+1,d,e,f,g,h,i,j,l,m,o,p=>yu (uK n) (fun q s u v x y z A B=>a6 (.inl ((q,s,()),((u,v,x,y,z,()),A,B,())))) (fun D=>a6 (.inr ((D,()),()))) d e f g h i j l m o p
def anf (n:Nat) (v:LG.den):=bb (uK n) v
noncomputable def Zx:dm:=eP aeH LG OV O0 (.exit 6) (anf bG) 18
def Vp:SP:=⟨us [bB,.u,.u,c7,.u,dj,bE] 115,[.arr 1800005 F6,cN]⟩
def VT:SP:=⟨us [.u,.u,.u,.u,.u,dj] 116,[.arr 1800005 F6]⟩
def WE:SP:=⟨dg,[]⟩
def L6 {i:Type} (j:bQ->Int->(List iO)->(List ED)->Option i) (q m:(List iO)->Option i) (h:bQ) (f:Int) (l:List iO) (g:List ED):Option i:=cond (gJ f (bD h)) (cond (fV g (bZ .i64 f 1)) (cond (lN (dh (bZ .i64 f 1)) g) (bz (YV ((dB g ([],([],(false,()))) (dh (bZ .i64 f 1))).1,((dB g ([],([],(false,()))) (dh (bZ .i64 f 1))).2.1,((dB g ([],([],(false,()))) (dh (bZ .i64 f 1))).2.2.1,()))) f) fun o=>cond (bJ o.1 0) (j h (bZ .i64 f 1) l g)<|bz (xX bG h f o.1 0 0 f (bD h) (-1) true l g) fun s=>dL s (fun e=>bz (uK bG e.1.1 e.1.2.1 e.1.2.2.1 (bZ .i64 e.1.2.1 1) e.2.1.1 e.2.1.2.1 e.2.1.2.2.1 e.2.1.2.2.2.1 e.2.1.2.2.2.2.1 e.2.2.1 e.2.2.2.1) fun u=>dL u (fun d=>cond (bJ d.2.1.1 12) (bz (ael d.1.1 (bZ .i64 d.1.2.1 1)) fun p=>cond (dN (bP d.2.2.1 [(d.2.1.1,(d.2.1.2.1,((bZ .i64 (bZ .i64 d.1.2.1 1) p.1),(d.2.1.2.2.2.1,(false,())))))]) 40) (j d.1.1 (bZ .i64 d.1.2.1 1) (bP d.2.2.1 [(d.2.1.1,(d.2.1.2.1,((bZ .i64 (bZ .i64 d.1.2.1 1) p.1),(d.2.1.2.2.2.1,(false,())))))]) d.2.2.2.1) a7)<|cond (dN (bP d.2.2.1 [(d.2.1.1,(d.2.1.2.1,(d.2.1.2.2.1,(d.2.1.2.2.2.1,(d.2.1.2.2.2.2.1,())))))]) 40) (j d.1.1 (bZ .i64 d.1.2.1 1) (bP d.2.2.1 [(d.2.1.1,(d.2.1.2.1,(d.2.1.2.2.1,(d.2.1.2.2.2.1,(d.2.1.2.2.2.2.1,())))))]) d.2.2.2.1) a7) (fun v=>m v.1.1)) (fun x=>m x.1.1)) a7) a7)<|q l
def zk:Nat->bQ->Int->(List iO)->(List ED)->Option (VT.den⊕WE.den)
 |0,_,_,_,_=>a7
 |n+1,d,e,f,g=>L6 (zk n) (fun h=>a6 (.inl ((),(h,())))) (fun i=>a6 (.inr ((i,()),()))) d e f g
def ar7 (n:Nat) (v:Vp.den):=zk n v.1.1 v.1.2.1 v.2.1 v.2.2.1
noncomputable def aeU:dm:=eP amA Vp VT WE (.exit 2) (ar7 bG) 24
def aea (e:bQ):Option ((List iO)×Unit):=bz abA fun f=>bz (CW bG e 0 [f.1]) fun g=>dL g (fun d=>bz (zk bG d.1.1 0 [] d.2.1) fun h=>dL h (fun i=>a6 (i.2.1,())) (fun j=>a6 (j.1.1,()))) (fun l=>a6 (l.1.1,()))
def apa:Sum:=⟨[.str],[(.list F6,false)],fun x=>aea x.1⟩
noncomputable def IB:Env:=iE prog tt 103 [(67,agU),(69,agV),(147,apn),(148,apo),(149,apq)] [(3,amz),(14,aeG),(19,aeH),(8,amA)] [(3,aeT),(14,Zw),(19,Zx),(8,aeU)]
def af6 {d:Type} (a:Vo.den->Option d) (b:VS.den->Option d) (c:WC.den->Option d) (v:Vo.den):Option d:=LZ (fun e f g=>a ((e,f,()),(g,()))) (fun h i=>b ((h,()),(i,()))) (ar c) v.1.1 v.1.2.1 v.2.1
theorem asL:dJ IB 103 ajP aeT:=rH (af6) (h2:=by intros;simp only[af6,ar,LZ,bV,bW,bu,bT,bY])
def aac {d:Type} (a:LD.den->Option d) (b:OU.den->Option d) (c:OZ.den->Option d) (v:LD.den):Option d:=bb (Ie (fun e f g h i j l m o p q=>a ((e,f,g,h,()),((i,j,l,m,o,()),p,q,()))) (fun s u x y z A B D E G=>b ((s,u,x,()),((y,z,A,B,D,()),E,G,()))) (ar c)) v
theorem anW:dJ IB 103 adR Zw:=rH (aac) (h2:=by intros;simp only[aac,ar,bb,Ie,bV,bW,bu,bT,bY])
def aad {d:Type} (a:LG.den->Option d) (b:OV.den->Option d) (c:O0.den->Option d) (v:LG.den):Option d:=bb (yu (fun e f g h i j l m o p q=>a ((e,f,g,h,()),((i,j,l,m,o,()),p,q,()))) (fun s u x y z A B D E=>b ((s,u,()),((x,y,z,A,B,()),D,E,()))) (ar c)) v
theorem anX:dJ IB 103 adS Zx:=rH (aad) (h2:=by intros;simp only[aad,ar,bb,yu,bV,bW,bu,bT,bY])
def af7 {d:Type} (a:Vp.den->Option d) (b:VT.den->Option d) (c:WE.den->Option d) (v:Vp.den):Option d:=L6 (fun e f g h=>a ((e,f,()),(g,h,()))) (fun i=>b ((),(i,()))) (ar c) v.1.1 v.1.2.1 v.2.1 v.2.2.1
theorem asM:dJ IB 103 ajQ aeU:=rH (af7) (h2:=by intros;simp only[af7,ar,L6,bV,bW,bu,bT,bY])
theorem axb:dI IB 103 ajI:=nG [ajP,adR,adS,ajQ] (aD (fM (asL)) (aD (fM (anW)) (aD (fM (anX)) (aD (fM (asM)) aN))))
theorem ahc:eF IB:=eA f103 (aD PU (aD PV (aD aiT (aD aiU (aD aiV aN))))) (axb)
theorem aiH:dE prog 103 apa:=sA ahc
noncomputable def b71:Code:=(f71.body).getD .skip
noncomputable def aum:Code:=cA (cA (cB (cA (cB (cB (b71))))))
def au0:dZ:=⟨[0,2,3,4,100003],[],[2,3],[],[2],[]⟩
def afN:SP:=⟨us [bB,.u,.ptr 1000002 0,cD,bE] 14,cV⟩
def acM:SP:=⟨us [.u,.u,.ptr 1000002 0,cD] 15,cV⟩
def adc:SP:=⟨us [] 19,[]⟩
def X3 {e:Type} (o:bQ->Int->bQ->iU->Bool->bQ->Bool->Option e) (p:bQ->iU->Bool->bQ->Bool->Option e) (q:Option e) (f:bQ) (d:Int) (h:bQ) (i:iU) (j:Bool) (l:bQ) (m:Bool):Option e:=cond (gJ d (bD f)) (cond (fV f d) (bz (abB (h,(i,(j,()))) (bK f d) d) fun g=>o f (bZ .i64 d 1) g.1.1 g.1.2.1 g.1.2.2.1 l m) a7)<|p h i j l m
def Om:Nat->bQ->Int->bQ->iU->Bool->bQ->Bool->Option (acM.den⊕adc.den)
 |0,_,_,_,_,_,_,_=>a7
 |n+1,d,e,f,g,h,i,j=>X3 (Om n) (fun l m o p q=>a6 (.inl ((),((l,m,o,()),(p,q,()),())))) (a6 (.inr ((),()))) d e f g h i j
def axU (n:Nat) (v:afN.den):=Om n v.1.1 v.1.2.1 v.2.1.1 v.2.1.2.1 v.2.1.2.2.1 v.2.2.1.1 v.2.2.1.2.1
noncomputable def anH:dm:=eP au0 afN acM adc (.exit 0) (axU bG) 6
def arH (f:bQ):Option taU:=bz abA fun d=>bz (Om bG f 0 d.1.1 d.1.2.1 d.1.2.2.1 [] false) fun g=>dL g (fun e=>a6 ((e.2.1.1,(e.2.1.2.1,(e.2.1.2.2.1,()))),())) (fun h=>a7)
def aCr:Sum:=⟨[.str],tzF,fun x=>arH x.1⟩
noncomputable def alh:Env:=iE prog tt 71 [(67,agU),(69,agV)] [(3,au0)] [(3,anH)]
def aoP {d:Type} (a:afN.den->Option d) (b:acM.den->Option d) (c:adc.den->Option d) (v:afN.den):Option d:=X3 (fun e f g h i j l=>a ((e,f,()),((g,h,i,()),(j,l,()),()))) (fun m o p q s=>b ((),((m,o,p,()),(q,s,()),()))) (c ((),())) v.1.1 v.1.2.1 v.2.1.1 v.2.1.2.1 v.2.1.2.2.1 v.2.2.1.1 v.2.2.1.2.1
theorem ayv:dJ alh 71 aum anH:=rH (aoP) (h2:=by intros;simp only[aoP,X3,bV,bW,bu,bT,bY])
theorem aBC:dI alh 71 b71:=nG [aum] (aD (fM (ayv)) aN)
theorem ali:eF alh:=eA f71 (aD PU (aD PV aN)) (aBC)
theorem aqj:dE prog 71 aCr:=sA ali
noncomputable def b43:Code:=(f43.body).getD .skip
noncomputable def aue:Code:=cA (cA (cB (cA (cB (cB (b43))))))
def auT:dZ:=⟨[0,5,6,100003],[],[0],[],[4],[]⟩
def afF:SP:=⟨us [bB,.u,.u,.u,.u,cy,bE] 37,[.box 1000005 104 en]⟩
def WA:SP:=⟨us [bB] 43,[]⟩
def Xh:SP:=⟨us cI 39,[]⟩
def BG {g:Type} (e:bQ) (d:Int) (h:bQ) (i:iU) (j:Bool) (l:bQ->Int->bQ->iU->Bool->Option g):Option g:=cond (fV e d) (bz (abB (h,(i,(j,()))) (bK e d) d) fun f=>l e (bZ .i64 d 1) f.1.1 f.1.2.1 f.1.2.2.1) a7
def XU {g:Type} (h:bQ->Int->bQ->iU->Bool->Option g) (m:bQ->Option g) (l:Int->Option g) (e:bQ) (d:Int) (f:bQ) (i:iU) (j:Bool):Option g:=cond (gJ d (bD e)) (cond (fV e d) (bz (al7 (bK e d)) fun o=>cond o.1 (cond (eX f [84]) (l d)<|cond (eX f [84,76]) (cond (fV e d) (cond (!(bJ (bK e d) 40)) (l d)<|BG e d f i j h) a7)<|BG e d f i j h)<|BG e d f i j h) a7)<|m e
def I5:Nat->bQ->Int->bQ->iU->Bool->Option (WA.den⊕Xh.den)
 |0,_,_,_,_,_=>a7
 |n+1,d,e,f,g,h=>XU (I5 n) (fun i=>a6 (.inl ((i,()),()))) (fun j=>a6 (.inr ((j,()),()))) d e f g h
def axM (n:Nat) (v:afF.den):=I5 n v.1.1 v.1.2.1 v.2.1.1 v.2.1.2.1 v.2.1.2.2.1
noncomputable def anz:dm:=eP auT afF WA Xh (.exit 0) (axM bG) 6
def ahS (e:bQ) (f:Int):Option BR:=bz abA fun d=>bz (I5 bG e f d.1.1 d.1.2.1 d.1.2.2.1) fun g=>dL g (fun h=>a6 ((bD h.1.1),())) (fun i=>a6 (i.1.1,()))
def avF:Sum:=⟨[.str,dw],Ql,fun x=>ahS x.1 x.2.1⟩
noncomputable def ak0:Env:=iE prog tt 43 [(67,agU),(69,agV),(68,avN)] [(3,auT)] [(3,anz)]
def aoH {d:Type} (a:afF.den->Option d) (b:WA.den->Option d) (c:Xh.den->Option d) (v:afF.den):Option d:=XU (fun e f g h i=>a ((e,f,()),((g,h,i,()),()))) (ar b) (ar c) v.1.1 v.1.2.1 v.2.1.1 v.2.1.2.1 v.2.1.2.2.1
theorem ayn:dJ ak0 43 aue anz:=rH (aoH) (h2:=by intros;simp only[aoH,ar,XU,bV,bW,bu,bT,bY,BG])
theorem aBt:dI ak0 43 b43:=nG [aue] (aD (fM (ayn)) aN)
theorem ak1:eF ak0:=eA f43 (aD PU (aD PV (aD aau aN))) (aBt)
theorem ap3:dE prog 43 avF:=sA ak1
end
section
open Option renaming some → a6, none → a7
open Tryz
open Go.RowKit
noncomputable def b39:Code:=(f39.body).getD .skip
noncomputable def aua:Code:=cA (cA (cA (cB (cB (cA (cA (cB (cA (cA (cB (cA (cB (cB (b39))))))))))))))
noncomputable def at7:Code:=cA (cA (cB (cA (cB (cB (b39))))))
def auR:dZ:=⟨[0,5,9,10,100007],[],[0,5,9,10],[],[6,7],[]⟩
def auQ:dZ:=⟨[0,5,8,9,100003],[],[0],[],[6,7],[]⟩
def afB:SP:=⟨ek,cX⟩
def acC:SP:=⟨ek,cX⟩
def ac2:SP:=⟨us [.u,.u,.u,.u,.u,.u,bE,bE] 66,[]⟩
def XQ {i:Type} (l j:bQ->Int->Int->bQ->Bool->Option i) (m:Int->Int->Option i) (e:bQ) (f d:Int) (h:bQ) (g:Bool):Option i:=cond g (cond (gJ d f) (cond (fV e d) (cond (bJ (bK e d) 9) (l e f (bZ .i64 d 1) h g)<|j e f d h g) a7)<|j e f d h g)<|j e f d h g
def Ol:Nat->bQ->Int->Int->bQ->Bool->Option (acC.den⊕ac2.den)
 |0,_,_,_,_,_=>a7
 |n+1,d,e,f,g,h=>XQ (Ol n) (fun i j l m o=>a6 (.inl ((i,j,l,()),((m,o,()),())))) (fun p q=>a6 (.inr ((p,q,()),()))) d e f g h
def axI (n:Nat) (v:afB.den):=Ol n v.1.1 v.1.2.1 v.1.2.2.1 v.2.1.1 v.2.1.2.1
noncomputable def anu:dm:=eP auR afB acC ac2 (.exit 2) (axI bG) 6
def afA:SP:=⟨us [bB,.u,.u,.u,.u,cy,.u,.u,bE,bE] 64,cX⟩
def Wx:SP:=⟨us [bB] 73,[]⟩
def Xe:SP:=⟨us [.u,.u,.u,.u,.u,.u,bE,bE] 66,[]⟩
def ry {e:Type} (h:bQ) (i j:Int) (l:bQ) (m:Bool) (f:Int->Int->Option e) (o:bQ->Int->Int->bQ->Bool->Option e):Option e:=bz (Ol bG h i j l m) fun p=>dL p (fun d=>cond (eG (bD d.1.1) d.1.2.2.1 d.1.2.1) (cond (eX (sub d.1.1 d.1.2.2.1 d.1.2.1) d.2.1.1) (cond (gJ d.1.2.1 (bD d.1.1)) (f (bZ .i64 d.1.2.1 1) 1)<|f d.1.2.1 1)<|o d.1.1 (bZ .i64 d.1.2.1 1) (bZ .i64 d.1.2.1 1) d.2.1.1 d.2.1.2.1) a7) (fun g=>f g.1.1 g.1.2.1)
def Jy {j:Type} (g:bQ->Int->Int->bQ->Bool->Option j) (m:bQ->Option j) (l:Int->Int->Option j) (e:bQ) (f d:Int) (h:bQ) (i:Bool):Option j:=cond (leI d (bD e)) (cond (gJ d (bD e)) (cond (fV e d) (cond (!(bJ (bK e d) 10)) (g e f (bZ .i64 d 1) h i)<|cond (bJ d (bD e)) (cond (bJ f d) (g e f (bZ .i64 d 1) h i)<|ry e d f h i l g)<|ry e d f h i l g) a7)<|cond (bJ d (bD e)) (cond (bJ f d) (g e f (bZ .i64 d 1) h i)<|ry e d f h i l g)<|ry e d f h i l g)<|m e
def zo:Nat->bQ->Int->Int->bQ->Bool->Option (Wx.den⊕Xe.den)
 |0,_,_,_,_,_=>a7
 |n+1,d,e,f,g,h=>Jy (zo n) (fun i=>a6 (.inl ((i,()),()))) (fun j l=>a6 (.inr ((j,l,()),()))) d e f g h
def axH (n:Nat) (v:afA.den):=zo n v.1.1 v.1.2.1 v.1.2.2.1 v.2.1.1 v.2.1.2.1
noncomputable def ant:dm:=eP auQ afA Wx Xe (.exit 0) (axH bG) 12
def ary (g:bQ) (d:Int) (e:bQ×nH):Option lZ:=bz (zo bG g d d e.1 e.2.1) fun h=>dL h (fun i=>a6 ((bD i.1.1),(0,()))) (fun f=>a6 (f.1.1,(f.1.2.1,())))
def avC:Sum:=⟨[.str,dw,D5],tzI,fun x=>ary x.1 x.2.1 x.2.2.1⟩
noncomputable def ad5:Env:=iE prog tt 39 [] [(7,auR),(3,auQ)] [(7,anu),(3,ant)]
def aoD {d:Type} (a:afB.den->Option d) (b:acC.den->Option d) (c:ac2.den->Option d) (v:afB.den):Option d:=XQ (fun e f g h i=>a ((e,f,g,()),((h,i,()),()))) (fun j l m o p=>b ((j,l,m,()),((o,p,()),()))) (aE c) v.1.1 v.1.2.1 v.1.2.2.1 v.2.1.1 v.2.1.2.1
theorem ayj:dJ ad5 39 aua anu:=rH (aoD) (h2:=by intros;simp only[aoD,aE,XQ,bV,bW,bu,bT,bY])
def aoC {d:Type} (a:afA.den->Option d) (b:Wx.den->Option d) (c:Xe.den->Option d) (v:afA.den):Option d:=Jy (fun e f g h i=>a ((e,f,g,()),((h,i,()),()))) (ar b) (aE c) v.1.1 v.1.2.1 v.1.2.2.1 v.2.1.1 v.2.1.2.1
theorem ayi:dJ ad5 39 at7 ant:=rH (aoC) (h2:=by intros;simp only[aoC,ar,aE,Jy,bV,bW,bu,bT,bY,ry])
theorem aBp:dI ad5 39 b39:=nG [aua,at7] (aD (fM (ayj)) (aD (fM (ayi)) aN))
theorem akT:eF ad5:=eA f39 aN (aBp)
theorem apZ:dE prog 39 avC:=sA akT
noncomputable def b40:Code:=(f40.body).getD .skip
noncomputable def aub:Code:=cA (cA (cA (cB (b40))))
def afC:SP:=⟨us [bB,bE] 40,[]⟩
def Wy:SP:=⟨us [.u,bE] 40,[]⟩
def Xg:SP:=⟨us cI 37,[]⟩
def XR {g:Type} (h:bQ->Int->Option g) (f i:Int->Option g) (e:bQ) (d:Int):Option g:=cond (gJ d (bD e)) (cond (fV e d) (cond (bJ (bK e d) 32) (h e (bZ .i64 d 1))<|cond (fV e d) (cond (bJ (bK e d) 9) (h e (bZ .i64 d 1))<|cond (fV e d) (cond (bJ (bK e d) 92) (cond (gJ (bZ .i64 d 1) (bD e)) (cond (fV e (bZ .i64 d 1)) (cond (bJ (bK e (bZ .i64 d 1)) 10) (h e (bZ .i64 d 2))<|f d) a7)<|f d)<|f d) a7) a7) a7)<|f d
def IZ:Nat->bQ->Int->Option (Wy.den⊕Xg.den)
 |0,_,_=>a7
 |n+1,d,e=>XR (IZ n) (fun f=>a6 (.inl ((f,()),()))) (fun g=>a6 (.inr ((g,()),()))) d e
def axJ (n:Nat) (v:afC.den):=IZ n v.1.1 v.1.2.1
noncomputable def anv:dm:=eP aeL afC Wy Xg (.exit 0) (axJ bG) 6
def arz (d:bQ) (e:Int):Option BR:=bz (IZ bG d e) fun f=>dL f (fun g=>a6 (g.1.1,())) (fun h=>a6 (h.1.1,()))
def avD:Sum:=⟨[.str,dw],Ql,fun x=>arz x.1 x.2.1⟩
noncomputable def akU:Env:=iE prog tt 40 [] [(1,aeL)] [(1,anv)]
def aoE {d:Type} (a:afC.den->Option d) (b:Wy.den->Option d) (c:Xg.den->Option d) (v:afC.den):Option d:=XR (aE a) (ar b) (ar c) v.1.1 v.1.2.1
theorem ayk:dJ akU 40 aub anv:=rH (aoE) (h2:=by intros;simp only[aoE,aE,ar,XR,bV,bW,bu,bT,bY])
theorem aBq:dI akU 40 b40:=nG [aub] (aD (fM (ayk)) aN)
theorem akV:eF akU:=eA f40 aN (aBq)
theorem ap0:dE prog 40 avD:=sA akV
noncomputable def b42:Code:=(f42.body).getD .skip
noncomputable def aud:Code:=cA (cA (cA (cB (cB (cB (b42))))))
def auS:dZ:=⟨[3,100004],[],[3],[],[2],[]⟩
def afE:SP:=⟨us [.u,.u,.u,bB] 29,[]⟩
def acE:SP:=⟨us [.u,.u,.u,bB] 29,[]⟩
def ac4:SP:=⟨us er 30,[]⟩
def adx {e:Type} (g f h:bQ->Option e) (d:bQ):Option e:=cond (gJ 0 (bD d)) (cond (fV d (ed .i64 (bD d) 1)) (cond (bJ (bK d (ed .i64 (bD d) 1)) 32) (cond (eG (bD d) 0 (ed .i64 (bD d) 1)) (g (sub d 0 (ed .i64 (bD d) 1))) a7)<|f d) a7)<|f d
def ab7:Nat->bQ->Option (acE.den⊕ac4.den)
 |0,_=>a7
 |n+1,d=>adx (ab7 n) (fun e=>a6 (.inl ((e,()),()))) (fun f=>a6 (.inr ((f,()),()))) d
def axL (n:Nat) (v:afE.den):=ab7 n v.1.1
noncomputable def anx:dm:=eP auS afE acE ac4 (.exit 0) (axL bG) 6
def YZ (d:Int):Option QR:=cond (gJ d 1) (a6 ([],()))<|cond (gJ 17 d) (a6 ([],()))<|cond (eG (bD [38,38,32,124,124,32,59,59,32,60,60,32,60,60,45,62,62,32,60,38,32,62,38,32,60,62,32,62,124,32,60,32,32,62,32,32,38,32,32,59,32,32,124,32,32,40,32,32,41,32,32]) (air .i64 3 (ed .i64 d 1)) (air .i64 3 d)) (bz (ab7 bG (sub [38,38,32,124,124,32,59,59,32,60,60,32,60,60,45,62,62,32,60,38,32,62,38,32,60,62,32,62,124,32,60,32,32,62,32,32,38,32,32,59,32,32,124,32,32,40,32,32,41,32,32] (air .i64 3 (ed .i64 d 1)) (air .i64 3 d))) fun e=>dL e (fun f=>a6 (f.1.1,())) (fun g=>a6 (g.1.1,()))) a7
def ap2:Sum:=⟨[dw],Yo,fun x=>YZ x.1⟩
noncomputable def akY:Env:=iE prog tt 42 [] [(4,auS)] [(4,anx)]
def aoG {d:Type} (a:afE.den->Option d) (b:acE.den->Option d) (c:ac4.den->Option d) (v:afE.den):Option d:=adx (ar a) (ar b) (ar c) v.1.1
theorem aym:dJ akY 42 aud anx:=rH (aoG) (h2:=by intros;simp only[aoG,ar,adx,bV,bW,bu,bT,bY])
theorem aBs:dI akY 42 b42:=nG [aud] (aD (fM (aym)) aN)
theorem akZ:eF akY:=eA f42 aN (aBs)
theorem aas:dE prog 42 ap2:=sA akZ
noncomputable def b41:Code:=(f41.body).getD .skip
noncomputable def auc:Code:=cA (cA (cB (cA (cB (cB (b41))))))
def afD:SP:=⟨us [bB,bE,.u,.u,.u,bE,bE] 35,[]⟩
def acD:SP:=⟨us [.u,.u,.u,.u,.u,bE] 36,[]⟩
def ac3:SP:=⟨us cI 37,[]⟩
def XT {j:Type} (i:bQ->Int->Int->Int->Option j) (l o:Int->Option j) (e:bQ) (d g f:Int):Option j:=cond (leI f 17) (bz (YZ f) fun h=>cond (leI (bD h.1) (ed .i64 (bD e) d)) (cond (eG (bD e) d (bZ .i64 d (bD h.1))) (cond (eX (sub e d (bZ .i64 d (bD h.1))) h.1) (bz (YZ g) fun m=>cond (gJ (bD m.1) (bD h.1)) (i e d f (bZ .i64 f 1))<|i e d g (bZ .i64 f 1))<|i e d g (bZ .i64 f 1)) a7)<|i e d g (bZ .i64 f 1))<|l g
def I4:Nat->bQ->Int->Int->Int->Option (acD.den⊕ac3.den)
 |0,_,_,_,_=>a7
 |n+1,d,e,f,g=>XT (I4 n) (fun h=>a6 (.inl ((h,()),()))) (fun i=>a6 (.inr ((i,()),()))) d e f g
def axK (n:Nat) (v:afD.den):=aM (I4 n) v
noncomputable def anw:dm:=eP UR afD acD ac3 (.exit 0) (axK bG) 6
def al3 (d:bQ) (e:Int):Option BR:=bz (I4 bG d e 0 1) fun f=>dL f (fun g=>a6 (g.1.1,())) (fun h=>a6 (h.1.1,()))
def avE:Sum:=⟨[.str,dw],Ql,fun x=>al3 x.1 x.2.1⟩
noncomputable def akW:Env:=iE prog tt 41 [(42,ap2)] [(3,UR)] [(3,anw)]
def aoF {d:Type} (a:afD.den->Option d) (b:acD.den->Option d) (c:ac3.den->Option d) (v:afD.den):Option d:=aM (XT (aL a) (ar b) (ar c)) v
theorem ayl:dJ akW 41 auc anw:=rH (aoF) (h2:=by intros;simp only[aoF,aL,ar,aM,XT,bV,bW,bu,bT,bY])
theorem aBr:dI akW 41 b41:=nG [auc] (aD (fM (ayl)) aN)
theorem akX:eF akW:=eA f41 (aD aas aN) (aBr)
theorem ap1:dE prog 41 avE:=sA akX
def aby (e:bQ):Option nH:=bz (arH e) fun d=>cond (eX d.1.1 [84]) (a6 (true,()))<|some ((eX d.1.1 [84,76]),())
def avH:Sum:=⟨[.str],Ip,fun x=>aby x.1⟩
theorem ap5:dE prog 45 avH:=qA f45 [] (sE aqj aN)
end
section
open Option renaming some → a6, none → a7
open Bool renaming and_eq_true → ae
open Nat renaming le_refl → af, eq_of_beq_eq_true → ag, le_trans → aG, le_mul_of_pos_right → bn
open Tryz
open Go.RowKit Go.Shelf Go.Lib
def Oc:Go.Shelf.Ren:=⟨fun|155=>87|154=>131|138=>162|165=>163|143=>164|166=>83|197=>165|169=>86|195=>194|218=>195|240=>128|241=>196|219=>197|260=>198|276=>161|277=>217|217=>171|225=>218|224=>219|267=>220|266=>201|314=>231|n=>n,fun|9=>9|3=>3|4=>4|72=>125|0=>0|76=>128|105=>197|21=>21|5=>5|70=>123|20=>20|37=>56|75=>127|127=>165|164=>195|46=>122|119=>238|139=>241|138=>240|146=>243|51=>160|80=>131|n=>n,fun|1=>0|3=>1|4=>2|n=>n⟩
theorem Ob:Go.Proofs.Lays.n155 prog Oc:={
 mixed:=by kernel_rfl
 f138:=func162.trans (congrArg a6 (by kernel_rfl))
 f143:=func164.trans (congrArg a6 (by kernel_rfl))
 f154:=func131.trans (congrArg a6 (by kernel_rfl))
 f155:=func87.trans (congrArg a6 (by kernel_rfl))
 f165:=func163.trans (congrArg a6 (by kernel_rfl))
 f166:=func83.trans (congrArg a6 (by kernel_rfl))
 f169:=func86.trans (congrArg a6 (by kernel_rfl))
 f195:=func194.trans (congrArg a6 (by kernel_rfl))
 f197:=func165.trans (congrArg a6 (by kernel_rfl))
 f217:=func171.trans (congrArg a6 (by kernel_rfl))
 f218:=func195.trans (congrArg a6 (by kernel_rfl))
 f219:=func197.trans (congrArg a6 (by kernel_rfl))
 f224:=func219.trans (congrArg a6 (by kernel_rfl))
 f225:=func218.trans (congrArg a6 (by kernel_rfl))
 f240:=func128.trans (congrArg a6 (by kernel_rfl))
 f241:=func196.trans (congrArg a6 (by kernel_rfl))
 f260:=func198.trans (congrArg a6 (by kernel_rfl))
 f266:=func201.trans (congrArg a6 (by kernel_rfl))
 f267:=func220.trans (congrArg a6 (by kernel_rfl))
 f276:=func161.trans (congrArg a6 (by kernel_rfl))
 f277:=func217.trans (congrArg a6 (by kernel_rfl))
 f314:=func231.trans (congrArg a6 (by kernel_rfl))
 t0:=underlying0
 a0:=isAgg0
 z0:=sizeOf0
 v0:=zeroValue0
 t3:=underlying3
 a3:=isAgg3
 z3:=sizeOf3
 v3:=zeroValue3
 t4:=underlying4
 a4:=isAgg4
 z4:=sizeOf4
 v4:=zeroValue4
 t5:=underlying5
 a5:=isAgg5
 z5:=sizeOf5
 v5:=zeroValue5
 t9:=underlying9
 a9:=isAgg9
 z9:=sizeOf9
 v9:=zeroValue9
 t20:=underlying20
 a20:=isAgg20
 z20:=sizeOf20
 v20:=zeroValue20
 t21:=underlying21
 a21:=isAgg21
 z21:=sizeOf21
 v21:=zeroValue21
 t37:=underlying56
 a37:=isAgg56
 z37:=sizeOf56
 v37:=zeroValue56
 t46:=underlying122
 a46:=isAgg122
 z46:=sizeOf122
 v46:=zeroValue122
 t51:=underlying160
 a51:=isAgg160
 z51:=sizeOf160
 v51:=zeroValue160
 t70:=underlying123
 a70:=isAgg123
 z70:=sizeOf123
 v70:=zeroValue123
 t72:=underlying125
 a72:=isAgg125
 z72:=sizeOf125
 v72:=zeroValue125
 t75:=underlying127
 a75:=isAgg127
 z75:=sizeOf127
 v75:=zeroValue127
 t76:=underlying128
 a76:=isAgg128
 z76:=sizeOf128
 v76:=zeroValue128
 t105:=underlying197
 a105:=isAgg197
 z105:=sizeOf197
 v105:=zeroValue197
 t119:=underlying238
 a119:=isAgg238
 z119:=sizeOf238
 t127:=underlying165
 a127:=isAgg165
 z127:=sizeOf165
 v127:=zeroValue165
 t138:=underlying240
 a138:=isAgg240
 z138:=sizeOf240
 v138:=zeroValue240
 t139:=underlying241
 a139:=isAgg241
 z139:=sizeOf241
 v139:=zeroValue241
 t146:=underlying243
 a146:=isAgg243
 z146:=sizeOf243
 v146:=zeroValue243
 t164:=underlying195
 a164:=isAgg195
 z164:=sizeOf195
 v164:=zeroValue195
 g1:=by kernel_rfl
 g3:=by kernel_rfl
 g4:=by kernel_rfl}
theorem ari:Builder.Extra prog Oc where
 sizeBuilder:=by kernel_rfl
 liesBuilder:=by kernel_rfl
 t5:=Ob.t5
 a5:=Ob.a5
 z5:=Ob.z5
 v5:=Ob.v5
 infoByte:=by kernel_rfl
 cellsByte:=by kernel_rfl
 sizeByte:=by kernel_rfl
 neB5:=by decide
def SX (s d new:List UInt8):Option (List UInt8×Unit):=cond (decide (s.length<4294967281)&&decide (1<=d.length)&&decide (s.length+s.length*new.length<=140737488355328)) (a6 (Lib.replaceAll s d new,())) a7
def aqy:Sum:=⟨[.str,.str,.str],[(.str,false)],fun x=>SX x.1 x.2.1 x.2.2.1⟩
theorem aaA:dE prog 87 aqy:=by
 intro w i j x y h o p f;obtain⟨u,X,q,s,v,Y,z,A,B,D,E,G,I⟩:=p;obtain rfl:D=[]:=I;subst E z;have J:j= #[u,v,B]:=by
  apply Array.ext';simpa using q
 subst J;have K:=s.str_inv;have L:=A.str_inv;have M:=G.str_inv;subst K L M;have f:SX x.1 x.2.1 x.2.2.1=a6 y:=f;unfold SX at f;obtain⟨g,f⟩:=di f;simp only[ae,decide_eq_true_eq]at g;cases f;obtain⟨m,N⟩:=h.2;have d: ∀l:List UInt8,(⟨l.toArray⟩:ByteArray).size=l.length:=fun l=>by simp[ByteArray.size]
 have O:Lib.countB ⟨x.1.toArray⟩ ⟨x.2.1.toArray⟩<=x.1.length:=by
  have:=Lib.countB_mul_le (⟨x.2.1.toArray⟩:ByteArray) (by rw[d];exact g.1.2) (⟨x.1.toArray⟩:ByteArray).size ⟨x.1.toArray⟩ (af _);rw[d,d]at this;exact aG (bn _ (by omega)) this
 have S:=Any.strings_ReplaceAll Ob ari ⟨x.1.toArray⟩ ⟨x.2.1.toArray⟩ ⟨x.2.2.1.toArray⟩ m w (by rw[d];exact g.1.1) N (by rw[d];exact g.1.2)
  (by rw[d,d];have:=Nat.mul_le_mul_right x.2.2.1.length O;omega)
 refine .inl ⟨yO OJ func87 (show f87.body=a6 ((f87.body).getD .skip) by kernel_rfl) _ _,S.mono fun e U ⟨V,W⟩=> ?_⟩;refine⟨(jC w i).at_ U,[.string ⟨(Lib.replaceAll x.1 x.2.1 x.2.2.1).toArray⟩],V,rfl,(Nb h o).ext W,rfl,rfl,rfl, ?_⟩;simp only[aqy,mQ,bC,bI,and_true];exact VD.str_mk
noncomputable def sg2 (g:FuncId):Option Sum:=cond (Nat.beq g 87) (a6 aqy)<|sg1 g
theorem aDQ: ∀g s,sg2 g=a6 s->dE prog g s:=fun g s h=>by
 unfold sg2 at h;rw[cond_eq_ite]at h;split at h
 .rename_i d
  obtain rfl:g=87:=ag d;cases h;exact aaA
 exact adt g s h
end
section
open List renaming length_drop → aQ
open Go.RowKit
theorem dA {a b:Int} (d: -9223372036854775808<=a+b:=by omega) (h2:a+b<=9223372036854775807:=by omega):bZ .i64 a b=a+b:=by
 unfold bZ;rw[IntKind.wrap_i64];omega
theorem iZ {a b:Int} (d: -9223372036854775808<=a-b:=by omega) (h2:a-b<=9223372036854775807:=by omega):ed .i64 a b=a-b:=by
 unfold ed;rw[IntKind.wrap_i64];omega
theorem ar2 {a b:Int}:leI a b=true↔a<=b:=by simp[leI]
theorem asD {a b:Int}:gJ a b=true↔a<b:=by simp[gJ]
theorem arb {a b:Int}:bJ a b=true↔a=b:=by simp[bJ]
theorem arU {d:Type} {l:List d} {i:Int}:fV l i=true↔0<=i/\i<l.length:=by simp[fV]
theorem asE {d:Type} {l:List d} {i:Nat}:lN i l=true↔i<l.length:=by simp[lN,KZ]
theorem aiy {n lo hi:Int}:eG n lo hi=true↔0<=lo/\lo<=hi/\hi<=n:=by simp[eG]
theorem bM {d:Type} {b:Bool} {x y:d} (h:b=true):(bif b then x else y)=x:=by rw[h];rfl
theorem dD {d:Type} {b:Bool} {x y:d} (h:b=false):(bif b then x else y)=y:=by rw[h];rfl
theorem nD {a b:Int} (h:a<=b:=by omega):leI a b=true:=ar2.2 h
theorem Eh {a b:Int} (h:b<a:=by omega):leI a b=false:=by simp[leI];omega
theorem eU {a b:Int} (h:a<b:=by omega):gJ a b=true:=asD.2 h
theorem gX {a b:Int} (h:b<=a:=by omega):gJ a b=false:=by simp[gJ];omega
theorem GZ {a b:Int} (h: ¬a<=b):leI a b=false:=Eh
theorem iG {a b:Int} (h: ¬a<b:=by omega):gJ a b=false:=gX
theorem fU {a b:Int} (h:a=b:=by omega):bJ a b=true:=arb.2 h
theorem dX {a b:Int} (h:a≠b:=by omega):bJ a b=false:=by simp[bJ];exact h
theorem dV {d:Type} {l:List d} {i:Int} (h:0<=i:=by omega) (h2:i<l.length:=by omega):fV l i=true:=arU.2 ⟨h,h2⟩
theorem mV {d:Type} {l:List d} {i:Nat} (h:i<l.length):lN i l=true:=asE.2 h
theorem fH {n lo hi:Int} (h:0<=lo) (d:lo<=hi) (h2:hi<=n):eG n lo hi=true:=aiy.2 ⟨h,d,h2⟩
theorem bF {d:Type} {l:List d}:bD l=(l.length:Int):=rfl
theorem dK {n:Nat} (h:n<1000000000000000000000000:=by omega):n<bG:=by unfold bG;omega
theorem awu (s:bQ) (i:Int): ∃n:Fin 256,bK s i=((n.val:Nat):Int):=⟨⟨(s.getD i.toNat 0).toNat,UInt8.toNat_lt _⟩,rfl⟩
theorem awt {s:List UInt8} {a b j:Int} (d:0<=a) (e:0<=j) (h:a+j<b):bK (sub s a b) j=bK s (a+j):=by
 unfold bK sub;congr 2;simp only[List.getD,List.getElem?_drop,List.getElem?_take];rw[am (by omega)];congr 2;omega
theorem aDl {d:Type} {s:List d} {a b:Int} (e:0<=a) (f:a<=b) (h:b<=s.length):(((sub s a b).length:Nat):Int)=b-a:=by
 unfold sub;simp only[aQ,List.length_take];omega
theorem ah0 {e:Type} {l m:List e} {d:e} {i:Int} (f:0<=i) (h:i<l.length):gu (l++m) d i=gu l d i:=by
 unfold gu;simp only[List.getD];rw[List.getElem?_append_left (by omega)]
theorem IL {e:Type} {l:List e} {d x:e} {i:Int} (h:i=l.length):gu (l++[x]) d i=x:=by
 unfold gu;subst h;simp[List.getD]
end
section
open Option renaming some → a6, none → a7
open List renaming length_append → aI
open Go.RowKit
abbrev fB:=List rD
def lo (s:fB):List lZ:=(s.map fun f=>(f.1,f.2,())).reverse
def letter (m:Int):UInt8:=([84,67,80,79,83,68,66,86,73,65,82,69,76,88,35]:bQ).getD m.toNat 0
def so (s:fB):bQ:=(s.map fun f=>letter f.1).reverse
def po (s:fB):List Int:=(s.map (·.2)).reverse
theorem qm (f:rD) (s:fB):lo (f::s)=lo s++[(f.1,f.2,())]:=by simp[lo]
theorem mM (f:rD) (s:fB):so (f::s)=so s++[letter f.1]:=by simp[so]
theorem qy (f:rD) (s:fB):po (f::s)=po s++[f.2]:=by simp[po]
theorem mY (s:fB):(lo s).length=s.length:=by simp[lo]
theorem zN (s:fB):(so s).length=s.length:=by simp[so]
theorem O4 (s:fB):(po s).length=s.length:=by simp[po]
def zZ (b:Int):Bool:=decide (b=32)||decide (b=9)||decide (b=10)||decide (b=124)||decide (b=38)||decide (b=59)||decide (b=60)||decide (b=62)||decide (b=40)||decide (b=41)
def isByte (b:Int):Prop:=0<=b/\b<256
theorem Nk {b:Int} (h:isByte b): ∃n:Fin 256,b=((n.val:Nat):Int):=⟨⟨b.toNat,by have:=h.2;have:=h.1;omega⟩,by have:=h.1;simp;omega⟩
theorem kN (s:bQ) (i:Int):isByte (bK s i):=by
 grind [bK,isByte,UInt8.toNat_lt]
theorem aAm: ∀n:Fin 256,Ea ((n.val:Nat):Int)=a6 (zZ ((n.val:Nat):Int),()):=by decide+kernel
theorem aAn: ∀n:Fin 256,al7 ((n.val:Nat):Int)=a6 (zZ ((n.val:Nat):Int),()):=by decide+kernel
theorem akt {b:Int} (h:isByte b):Ea b=a6 (zZ b,()):=by
 obtain⟨n,rfl⟩:=Nk h;exact aAm n
theorem aku {b:Int} (h:isByte b):al7 b=a6 (zZ b,()):=by
 obtain⟨n,rfl⟩:=Nk h;exact aAn n
theorem Sr {d:Type} {l:List d} (x:d) (h:l.length<1000000):dh (ed .i64 (bD (l++[x])) 1)=l.length:=by
 grind [bF,iZ,dh]
theorem Ti {d:Type} {l:List d} (x:d) (h:l.length<1000000):sub (l++[x]) 0 (ed .i64 (bD (l++[x])) 1)=l:=by
 have e:(((l++[x]).length:Nat):Int)=l.length+1:=by simp
 rw[bF,e,iZ];simp_all [sub]
theorem ui {d:Type} {l:List d} (x:d) (h:l.length<1000000):ed .i64 (bD (l++[x])) 1=l.length:=by
 grind [bF,iZ]
theorem afU {s:fB} (hb:s.length<1000000) (fr:Bool) (at_ m:Int):uF (lo s) fr at_ m=a6 ((lo ((m,at_)::s),(fr,(at_,()))),()):=by
 have h:dN (bP (lo s) [(m,(at_,()))]) 16=true:=by
  simp only[dN,bP,aI,mY,List.length_singleton,decide_eq_true_eq,kF];omega
 unfold uF;rw[h];simp[bJ,bP,qm]
theorem LM {f g:Int×Int} {r:fB} (hb:(f::g::r).length<1000000) (fr:Bool) (at_:Int):uD (lo (f::g::r)) fr at_=a6 ((lo (g::r),(fr,(at_,()))),()):=by
 have d:(lo (g::r)).length=r.length+1:=by rw[mY];rfl
 have e:r.length+2<1000000:=by simpa using hb
 unfold uD;rw[qm f,ui _ (by omega),bM (eU (by grind [bF])),bM (fH (by omega) (by omega) (by rw[bF];simp;omega))];simp[takeN,dh]
theorem pW {f:Int×Int} {r:fB} (hb:(f::r).length<1000000) (fr:Bool) (at_ m:Int):rP (lo (f::r)) fr at_ m=a6 ((lo ((m,f.2)::r),(fr,(at_,()))),()):=by
 have d:(lo r).length=r.length:=mY r;have e:r.length+1<1000000:=by simpa using hb
 unfold rP;rw[qm f,ui _ (by omega),bM (dV (by omega) (by simp;omega)),bM (mV (by simp[dh]))];simp[dh,dB,ig,qm]
theorem ZU {f g:Int×Int} {r:fB} (hb:(f::g::r).length<1000000) (fr:Bool) (at_:Int):aer (lo (f::g::r)) fr at_=a6 ((lo (f::g::r),(fr,(at_,()))),(g.1,())):=by
 have d:(lo r).length=r.length:=mY r;have h:r.length+2<1000000:=by simpa using hb
 have e:zu (ed .i64 (bD (lo (f::g::r))) 2) 0=r.length:=by
  grind [bF,iZ,mY,zu]
 unfold aer;rw[e,qm f,qm g,bM (dV (by omega) (by simp[d];omega)),bM (mV (by simp[dh,d]))];simp_all [dh,dB]
theorem Dv {f:Int×Int} {r:fB} (hb:(f::r).length<1000000) (fr:Bool) (c:UInt8):Aw (so (f::r),(po (f::r),(fr,()))) [c]=a6 ((so r++[c],(po (f::r),(fr,()))),()):=by
 have d:(so r).length=r.length:=zN r;have e:r.length+1<1000000:=by simpa using hb
 unfold Aw;simp only;rw[mM,Ti _ (by omega),ui _ (by omega),bM (fH (by omega) (by omega) (by rw[bF];simp;omega)),bM (by simp[fG,kF,d];omega)];rfl
theorem Xo {f:Int×Int} {r:fB} (hb:(f::r).length<1000000) (fr:Bool):GI (so (f::r),(po (f::r),(fr,())))=a6 ((so r,(po r,(fr,()))),()):=by
 have d:(so r).length=r.length:=zN r;have e:(po r).length=r.length:=O4 r;have g:r.length+1<1000000:=by simpa using hb
 unfold GI;simp only;rw[mM,qy,Ti _ (by omega),ui _ (by omega),bM (fH (by omega) (by omega) (by rw[bF];simp;omega)),bM (fH (by omega) (by omega) (by rw[bF];simp;omega))];simp[sub,d,e]
theorem Ap {d:Type} {f:d->d->Bool} (h: ∀x,f x x=true): ∀l:List d,uw f l l=true
 |[]=>rfl
 |x::l=>by simp[uw,h,Ap h l]
theorem NE: ∀(t:Ty) (x:t.den),Uo t x x=true
 |.unit,_=>rfl
 |.bool,x=>by simp[Uo]
 |.int _,x=>by simp[Uo,bJ]
 |.str,x=>by simp[Uo,eX]
 |.list t,x=>Ap (NE t) x
 |.pair a b,x=>by simp[Uo,NE]
theorem gW (t:Ty) (x:List t.den):mg t x x=true:=Ap (NE t) x
theorem gq (x:Int):bJ x x=true:=by simp[bJ]
theorem lG (x:bQ):eX x x=true:=by simp[eX]
theorem gU (x:Bool):ja x x=true:=by simp[ja]
theorem atu {s:fB} (hb:s.length<1000000) (fr:Bool) (c:UInt8) (at_:Int):uB (so s,(po s,(fr,()))) [c] at_=a6 ((so s++[c],(po s++[at_],(fr,()))),()):=by
 have e:(so s).length=s.length:=zN s;have d:(po s).length=s.length:=O4 s;have f:fG (so s) [c]=true:=by simp[fG,kF,e];omega
 have g:dN (bP [] (po s)) 8=true:=by simp[dN,bP,kF,d];omega
 have h:dN (bP (bP [] (po s)) [at_]) 8=true:=by simp[dN,bP,kF,d];omega
 (unfold uB;delta lq jR)
 simp_all [gq,lG,gU,gW,bu,bP]
theorem LV (a:bQ) (b:List Int) (fr d:Bool):GR (a,(b,(fr,()))) d=a6 ((a,(b,(d,()))),()):=rfl
end
section
open Go.RowKit
def ES (s:fB) (b at_:Int):Option fB:=if b=92 then some ((13,at_)::s)else if b=36 then some ((12,at_)::s)else if b=96 then some ((6,at_)::s)else none
def Hz (m:Int) (s:fB) (fr:Bool) (b at_:Int):fB×Bool:=if b=92 then((13,at_)::s,fr)else if b=35/\fr=true then((14,at_)::s,fr)else if b=40 then(if m=0 then s else(2,at_)::s,true)else if b=41 then(if m=0 then s else s.tail, !decide (m=1))else if b=39 then((4,at_)::s,false)else if b=34 then((5,at_)::s,false)else if b=36 then((12,at_)::s,false)else if b=96 then((6,at_)::s,false)else(s,zZ b)
def iY (m:Int) (s:fB) (fr:Bool) (b at_:Int):fB×Bool:=
 if m=0\/m=1\/m=2 then Hz m s fr b at_
 else if m=13 then(s.tail,fr&&decide (b=10))
 else if m=4 then(if b=39 then s.tail else s,fr)
 else if m=14 then(if b=10 then(s.tail,true)else(s,fr))
 else if m=6 then(if b=96 then s.tail else if b=92 then(13,at_)::s else s,fr)
 else match ES s b at_ with
  |some d=>(d,fr)
  |none=>
   if m=9\/m=10 then(if b=40 then(10,at_)::s else if b=41 then(if m=10 then s.tail else(11,(s.headD (0,0)).2)::s.tail)else s,fr)
   else(if b=34 then(if m=5 then s.tail else(5,at_)::s)else if b=125/\m≠5 then s.tail else if b=39/\m=7 then(4,at_)::s else s,fr)
def fE (s:fB) (fr:Bool) (b at_:Int):fB×Bool:=
 match s with
 |[]=>([],fr)
 |f::r=>
  if f.1=12 then
   (if b=40 then((3,f.2)::r,true)
   else if b=123 then((if(r.headD (0,0)).1=5\/(r.headD (0,0)).1=8 then 8 else 7,f.2)::r,fr)
   else if b=36 then(r,fr)
   else iY (r.headD (0,0)).1 r fr b at_)
  else if f.1=3 then(if b=40 then((9,f.2)::r,false)else iY 1 ((1,f.2)::r) fr b at_)
  else if f.1=11 then(if b=41 then(r,fr)else iY 9 ((9,f.2)::r) fr b at_)
  else iY f.1 (f::r) fr b at_
theorem lU (b:Int):b=10\/b=34\/b=35\/b=36\/b=39\/b=40\/b=41\/b=92\/b=96\/b=123\/b=125\/
  (b≠10/\b≠34/\b≠35/\b≠36/\b≠39/\b≠40/\b≠41/\b≠92/\b≠96/\b≠123/\b≠125):=by omega
theorem gZ (a b:Int):bJ a b=decide (a=b):=by
 rfl
def pst (x:fB×Bool) (at_:Int):(List lZ×Bool×Int×Unit):=(lo x.1,(x.2,(at_,())))
def Ep (x:fB×Bool):bQ×(List Int×nH):=(so x.1,(po x.1,(x.2,())))
theorem adn {m:Int} {f:Int×Int} {r:fB} (d:m=0\/((m=1\/m=2)/\ ∃g h,r=g::h)) (hb:(f::r).length<1000000) (fr:Bool) {b:Int} (i:isByte b) (at_:Int):
  Ru (lo (f::r)) fr at_ m b=some (pst (Hz m (f::r) fr b at_) at_,()):=by
 have e:=akt i;rcases d with rfl|⟨rfl|rfl,g,r,rfl⟩<;>rcases lU b with rfl|rfl|rfl|rfl|rfl|rfl|rfl|rfl|rfl|rfl|rfl|⟨j,l,o,p,q,s,u,v,x,y,z⟩<;>cases fr<;>
  simp_all [Ru,NQ,Hz,pst,gZ,afU,LM,zZ,bu,GM]
theorem atm {m:Int} {f:Int×Int} {r:fB} (d:m=0\/((m=1\/m=2\/m=4\/m=5\/m=6\/m=7\/m=8\/m=9\/m=10\/m=13\/m=14)/\ ∃g h,r=g::h)) (hb:(f::r).length<1000000) (fr:Bool) {b:Int} (e:isByte b) (at_:Int):
  JY (lo (f::r)) fr at_ m b=some (pst (iY m (f::r) fr b at_) at_,()):=by
 rcases d with rfl|⟨rfl|rfl|d,g,r,rfl⟩
 .simp[JY,iY,gZ,adn (.inl rfl) hb fr e at_,pst,bu,yX]
 .simp[JY,iY,gZ,adn (.inr ⟨.inl rfl,g,r,rfl⟩) hb fr e at_,pst,bu,yX]
 .simp[JY,iY,gZ,adn (.inr ⟨.inr rfl,g,r,rfl⟩) hb fr e at_,pst,bu,yX]
 .rcases d with rfl|rfl|rfl|rfl|rfl|rfl|rfl|rfl|rfl<;>rcases lU b with rfl|rfl|rfl|rfl|rfl|rfl|rfl|rfl|rfl|rfl|rfl|⟨i,j,l,o,p,q,s,u,v,x,y⟩<;>cases fr<;>
  simp_all [JY,aes,aet,NQ,iY,ES,pst,gZ,afU,LM,pW,bu,yX,UB,UC]
def Oi (m:Int):Prop:=m=0\/m=1\/m=2\/m=5\/m=6\/m=7\/m=8\/m=9\/m=10
def gK:fB->Prop
 |[]=>False
 |[f]=>f.1=0
 |f::g::r=>1<=f.1/\f.1<=14/\Oi g.1/\gK (g::r)
theorem aAW: ∃k,bG=k+2:=by
 simp_all [bG]
theorem ZH {l:List lZ} {x:Int×Int×Unit} (h:l.length<1000000):dB (l++[x]) (0,(0,())) (dh (ed .i64 (bD (l++[x])) 1))=x:=by
 rw[Sr x h];simp[dB]
theorem UK {d:Type} {l:List d} {x:d} (h:l.length<1000000):fV (l++[x]) (ed .i64 (bD (l++[x])) 1)=true:=by
 grind [ui,dV]
theorem afl {d:Type} {l:List d} {x:d} (h:l.length<1000000):lN (dh (ed .i64 (bD (l++[x])) 1)) (l++[x])=true:=by
 simp_all [Sr,mV]
theorem wu {f:Int×Int} {r:fB} (n:Nat) (e:f.1=0\/((f.1=1\/f.1=2\/f.1=4\/f.1=5\/f.1=6\/f.1=7\/f.1=8\/f.1=9\/f.1=10\/f.1=13\/f.1=14)/\ ∃g h,r=g::h)) (hb:(f::r).length<1000000) (fr:Bool) {b:Int} (i:isByte b) (at_:Int):
  tV (n+1) b fr at_ (lo (f::r))=some (.inl ((),((),()),(((iY f.1 (f::r) fr b at_).2,at_,()),lo (iY f.1 (f::r) fr b at_).1,()))):=by
 have d:(lo r).length<1000000:=by grind [mY]
 have j:f.1≠12:=by omega
 have l:f.1≠3:=by omega
 have m:f.1≠11:=by omega
 have o:=atm e hb fr i at_;rw[tV,yw];rw[show lo (f::r)=lo r++[(f.1,f.2,())] from qm f r,UK d,afl d,ZH d];simp only[aa,gZ,j,l,m,decide_false,ac];rw[<-qm,o,bu];rfl
theorem aim {f:Int×Int} {r:fB} (d:gK (f::r)) (hl:Oi f.1):f.1=0\/((f.1=1\/f.1=2\/f.1=4\/f.1=5\/f.1=6\/f.1=7\/f.1=8\/f.1=9\/f.1=10\/f.1=13\/f.1=14)/\ ∃g e,r=g::e):=by
 cases r with
 |nil=>exact .inl d
 |cons g r=>
  unfold Oi at hl
  grind
theorem abo {s:fB} (d:gK s) (hb:s.length<1000000) (fr:Bool) {b:Int} (l:isByte b) {at_:Int} (q:0<=at_) (m:at_<1000000000):Rq (lo s) fr at_ b=some (pst (fE s fr b at_) (at_+1),()):=by
 obtain⟨k,hk⟩:=aAW;cases s with
 |nil=>cases d
 |cons f r=>
 have i:(lo r).length<1000000:=by grind [mY]
 have o:bJ (bD (lo (f::r))) 0=false:=dX (by rw[bF,mY];simp;omega);have h:bZ .i64 at_ 1=at_+1:=dA;unfold Rq;rw[o,ac,hk];by_cases hp:f.1=12\/f.1=3\/f.1=11
 .cases r with
  |nil=>have:f.1=0:=d;omega
  |cons g r=>
  have u:=aim d.2.2.2 d.2.2.1;have v:(g::r).length<1000000:=by grind
  rw[show k+2=(k+1)+1 from rfl,tV,yw,show lo (f::g::r)=lo (g::r)++[(f.1,f.2,())] from qm f _,UK i,afl i,ZH i,<-qm];rcases hp with e|e|e
  .have hd:JX (lo (f::g::r)) fr at_ b=some ((if b=40 then(lo ((3,f.2)::g::r),(true,(at_,())))else if b=123 then(lo ((if g.1=5\/g.1=8 then 8 else 7,f.2)::g::r),(fr,(at_,())))else(lo (g::r),(fr,(at_,())))),(decide (b=40\/b=123\/b=36),())):=by
    by_cases e1:b=40
    .subst e1;simp[JX,gZ,pW hb,bu]
    .by_cases e2:b=123
     .subst e2;by_cases e5:g.1=5
      .simp[JX,gZ,pW hb,ZU hb,bu,e5]
      .by_cases e8:g.1=8<;>simp[JX,gZ,pW hb,ZU hb,bu,e5,e8]
     .by_cases e3:b=36<;>simp[JX,gZ,LM hb,bu,e1,e2,e3]
   simp only[aa,gZ,e,decide_true];rw[hd,bu];by_cases e1:b=40\/b=123\/b=36
   .simp only[e1,decide_true,aa,bu,dL,h];rcases e1 with rfl|rfl|rfl<;>simp[fE,e,pst,h]
   .have j:b≠40/\b≠123/\b≠36:=by omega
    simp only[j.1,j.2.1,j.2.2,or_self,decide_false,ac,if_false];simp_all [wu,bu,dL,fE,pst]
  .simp only[aa,gZ,e,decide_true,show decide ((3:Int)=12)=false from rfl,ac];by_cases e1:b=40
   .simp_all [pW,bu,dL,fE,pst]
   .simp only[e1,decide_false,ac,pW hb,bu];rw[wu k (f:=(1,f.2)) (.inr ⟨.inl rfl,g,r,rfl⟩) (by simpa using hb) fr l at_,bu];simp[dL,fE,e,e1,pst,h]
  .simp only[aa,gZ,e,decide_true,show decide ((11:Int)=12)=false from rfl,show decide ((11:Int)=3)=false from rfl,ac];by_cases e1:b=41
   .simp_all [LM,bu,dL,fE,pst]
   .simp only[e1,decide_false,ac,pW hb,bu];rw[wu k (f:=(9,f.2)) (.inr ⟨by simp,g,r,rfl⟩) (by simpa using hb) fr l at_,bu];simp[dL,fE,e,e1,pst,h]
 .have x:f.1=0\/((f.1=1\/f.1=2\/f.1=4\/f.1=5\/f.1=6\/f.1=7\/f.1=8\/f.1=9\/f.1=10\/f.1=13\/f.1=14)/\ ∃g p,r=g::p):=by
   cases r with
   |nil=>exact .inl d
   |cons g r=>have m:=d.1;have y:=d.2.1;grind
  simp_all [wu,bu,dL,fE,pst]
end
section
open Go.RowKit
theorem agE (f:rD) (r:fB) (h:r.length<1000000):bK (so (f::r)) (ed .i64 (bD (so (f::r))) 1)=((letter f.1).toNat:Int):=by
 rw[mM,ui _ (by rw[zN];exact h)];simp[bK,List.getD]
theorem avj (f:rD) (r:fB) (h:r.length<1000000):fV (so (f::r)) (ed .i64 (bD (so (f::r))) 1)=true:=by
 rw[mM];exact UK (by rw[zN];exact h)
theorem ao8 (f g:rD) (r:fB) (h:r.length<900000):fV (so (f::g::r)) (ed .i64 (bD (so (f::g::r))) 2)=true/\bK (so (f::g::r)) (ed .i64 (bD (so (f::g::r))) 2)=((letter g.1).toNat:Int):=by
 have d:(((so (f::g::r)).length:Nat):Int)=r.length+2:=by rw[zN];simp;omega
 rw[bF,d,iZ,show((r.length:Int)+2-2)=r.length by omega];refine⟨dV (by omega) (by rw[d];omega), ?_⟩;rw[mM,mM];simp[bK,List.getD,zN]
theorem lets:letter 0=84/\letter 1=67/\letter 2=80/\letter 3=79/\letter 4=83/\letter 5=68/\letter 6=66/\letter 7=86/\letter 8=73/\letter 9=65/\letter 10=82/\letter 11=69/\letter 12=76/\letter 13=88/\letter 14=35:=by decide
theorem yj {s:fB} (hb:s.length<1000000) (fr:Bool) (m:Int) (c:UInt8) (d:c=letter m) (at_:Int):uB (so s,(po s,(fr,()))) [c] at_=some ((so ((m,at_)::s),(po ((m,at_)::s),(fr,()))),()):=by
 subst d;rw[atu hb,mM,qy]
theorem ado {m:Int} {f:Int×Int} {r:fB} (d:m=0\/m=1\/m=2) (hb:(f::r).length<1000000) (fr:Bool) {b:Int} (g:isByte b) (at_:Int):
  aej (so (f::r),(po (f::r),(fr,()))) ((letter m).toNat:Int) b at_=some (Ep (Hz m (f::r) fr b at_),()):=by
 have e:=aku g;have h:=yj hb fr 13 88 rfl at_;have i:=yj hb fr 4 83 rfl at_;have j:=yj hb fr 5 68 rfl at_;have l:=yj hb fr 12 76 rfl at_;have o:=yj hb fr 6 66 rfl at_;have p:=yj hb fr 14 35 rfl at_;have q:=yj hb fr 2 80 rfl at_;have s:=Xo hb fr;have u:=lets;rcases d with rfl|rfl|rfl<;>rcases lU b with rfl|rfl|rfl|rfl|rfl|rfl|rfl|rfl|rfl|rfl|rfl|⟨v,x,y,z,A,B,D,E,G,I,J⟩<;>cases fr<;>
  simp_all [aej,Rt,Hz,Ep,gZ,LV,zZ,bu,lG,gW,gU,Uz,UA]
theorem LQ {m:Int} {f:Int×Int} {r:fB} (hf:f.1=m) (e:m=0\/m=1\/m=2\/m=4\/m=5\/m=6\/m=7\/m=8\/m=9\/m=10\/m=13\/m=14) (hb:(f::r).length<1000000) (fr:Bool) {b:Int} (g:isByte b) (at_:Int):
  D8 (so (f::r),(po (f::r),(fr,()))) ((letter m).toNat:Int) b at_=some (Ep (iY m (f::r) fr b at_),()):=by
 have h:=lets;have i:=yj hb fr 13 88 rfl at_;have j:=yj hb fr 12 76 rfl at_;have l:=yj hb fr 6 66 rfl at_;have o:=yj hb fr 10 82 rfl at_;have p:=yj hb fr 5 68 rfl at_;have q:=yj hb fr 4 83 rfl at_;have s:=Xo hb fr;have tt:=Dv hb fr 69;have u:so r++[69]=so ((11,f.2)::r):=by rw[mM];rfl
 have v:po (f::r)=po ((11,f.2)::r):=by simp[qy]
 rcases e with rfl|rfl|rfl|e
 .have d:=ado (.inl rfl) hb fr g at_;simp[D8,iY,gZ,bu,Ep,yV,rX,CB,CE]at d ⊢;rw[d];simp[bu,h]
 .have d:=ado (.inr (.inl rfl)) hb fr g at_;simp[D8,iY,gZ,bu,Ep,yV,rX,CB,CE]at d ⊢;rw[d];simp[bu,h]
 .have d:=ado (.inr (.inr rfl)) hb fr g at_;simp[D8,iY,gZ,bu,Ep,yV,rX,CB,CE]at d ⊢;rw[d];simp[bu,h]
 .rcases e with rfl|rfl|rfl|rfl|rfl|rfl|rfl|rfl|rfl<;>rcases lU b with rfl|rfl|rfl|rfl|rfl|rfl|rfl|rfl|rfl|rfl|rfl|⟨x,y,z,A,B,D,E,G,I,J,K⟩<;>cases fr<;>
  simp_all [D8,Rt,iY,ES,Ep,gZ,LV,bu,lG,gW,gU,eX,yV,rX,CB,CE]
end
section
open Go.RowKit
theorem CO {f:Int×Int} {r:fB} (h:gK (f::r)):0<=f.1/\f.1<=14:=by
 cases r with
 |nil=>have:f.1=0:=h;omega
 |cons g r=>have:=h.1;have:=h.2.1;omega
theorem letter_eq {m:Int} (d:0<=m) (e:m<=14):decide (((letter m).toNat:Int)=76)=decide (m=12)/\decide (((letter m).toNat:Int)=79)=decide (m=3)/\decide (((letter m).toNat:Int)=69)=decide (m=11)/\
  decide (((letter m).toNat:Int)=68)=decide (m=5)/\decide (((letter m).toNat:Int)=73)=decide (m=8):=by
 have:m=0\/m=1\/m=2\/m=3\/m=4\/m=5\/m=6\/m=7\/m=8\/m=9\/m=10\/m=11\/m=12\/m=13\/m=14:=by omega
 rcases this with rfl|rfl|rfl|rfl|rfl|rfl|rfl|rfl|rfl|rfl|rfl|rfl|rfl|rfl|rfl<;>decide
theorem abp {s:fB} (i:gK s) (hb:s.length<900000) (fr:Bool) {b:Int} (j:isByte b) (at_:Int):abB (so s,(po s,(fr,()))) b at_=some (Ep (fE s fr b at_),()):=by
 cases s with
 |nil=>cases i
 |cons f r=>
 have d:(f::r).length<1000000:=by omega
 have l:r.length<1000000:=by simp at hb;omega
 obtain⟨o,g1⟩:=CO i;obtain⟨p,q,u,-,-⟩:=letter_eq o g1;unfold abB;simp only;rw[avj f r l,agE f r l];simp only[aa,gZ,p,q,u];by_cases e:f.1=12
 .cases r with
  |nil=>have:f.1=0:=i;omega
  |cons g r=>
  have E:=i.2.2.1;have v:(g::r).length<1000000:=by omega
  obtain⟨x,y⟩:=CO i.2.2.2;obtain⟨-,-,-,z,A⟩:=letter_eq x y;obtain⟨B,D⟩:=ao8 f g r (by simp at hb;omega);simp only[e,decide_true,aa];by_cases e1:b=40
  .subst e1;simp only[decide_true,aa,Dv d,bu,LV];simp[fE,e,Ep,mM,qy,lets]
  .by_cases e2:b=123
   .subst e2;simp only[e1,decide_true,decide_false,aa,ac,B,D,z,A,Dv d,bu]
    grind [fE,Ep,mM,qy,lets]
   .simp only[e1,e2,decide_false,ac,Xo d,bu];by_cases e3:b=36
    .simp_all [fE,Ep]
    .simp only[e3,decide_false,ac];rw[avj g r (by simp at l;omega),agE g r (by simp at l;omega)];have m:g.1=0\/g.1=1\/g.1=2\/g.1=4\/g.1=5\/g.1=6\/g.1=7\/g.1=8\/g.1=9\/g.1=10\/g.1=13\/g.1=14:=by grind [Oi]
     rw[aa,LQ rfl m v fr j at_,bu];simp_all [fE]
 .simp only[e,decide_false,ac];by_cases e3:f.1=3
  .simp only[e3,decide_true,aa];by_cases e1:b=40
   .subst e1;simp only[decide_true,aa,Dv d,bu,LV];simp[fE,e3,Ep,mM,qy,lets]
   .simp only[e1,decide_false,ac,Dv d,bu];have h:=LQ (f:=(1,f.2)) (r:=r) rfl (.inr (.inl rfl)) (by simpa using d) fr j at_;rw[mM,qy]at h;simp only[lets]at h;rw[show((67:Int))=(((67:UInt8).toNat:Nat):Int) from rfl,qy f r,h,bu]
    grind [fE]
  .simp only[e3,decide_false,ac];by_cases e11:f.1=11
   .simp only[e11,decide_true,aa];by_cases e1:b=41
    .simp_all [Xo,bu,fE,Ep]
    .simp only[e1,decide_false,ac,Dv d,bu];have h:=LQ (f:=(9,f.2)) (r:=r) rfl (by simp) (by simpa using d) fr j at_;rw[mM,qy]at h;simp only[lets]at h;rw[show((65:Int))=(((65:UInt8).toNat:Nat):Int) from rfl,qy f r,h,bu]
     grind [fE]
   .simp only[e11,decide_false,ac];have m:f.1=0\/f.1=1\/f.1=2\/f.1=4\/f.1=5\/f.1=6\/f.1=7\/f.1=8\/f.1=9\/f.1=10\/f.1=13\/f.1=14:=by omega
    rw[LQ rfl m d fr j at_,bu];simp_all [fE]
theorem ah1 {s:fB} (d:gK s) (hl: ∃f r,s=f::r/\Oi f.1) {m at_:Int} (e:1<=m) (h2:m<=14):gK ((m,at_)::s):=by
 obtain⟨f,r,rfl,g⟩:=hl;exact⟨e,h2,g,d⟩
theorem AL {f:Int×Int} {r:fB} (d:gK (f::r)) (e:r≠[]) {m at_:Int} (h:1<=m) (h2:m<=14):gK ((m,at_)::r):=by
 cases r with
 |nil=>exact absurd rfl e
 |cons g r=>exact⟨h,h2,d.2.2.1,d.2.2.2⟩
theorem CP {f:Int×Int} {r:fB} (d:gK (f::r)) (e:r≠[]):gK r:=by
 cases r with
 |nil=>exact absurd rfl e
 |cons g r=>exact d.2.2.2
theorem mi {f:Int×Int} {r:fB} (d:gK (f::r)) (h:f.1≠0):r≠[]:=by
 rintro rfl;exact h d
theorem yY {m:Int} {f:Int×Int} {r:fB} (hf:f.1=m) (d:gK (f::r)) (p:m≠12/\m≠3/\m≠11) (fr:Bool) (b at_:Int):
  gK (iY m (f::r) fr b at_).1/\(iY m (f::r) fr b at_).1.length<=(f::r).length+1:=by
 obtain⟨q,g1⟩:=CO d;have j:f.1≠0->r≠[]:=mi d;have l:m=0\/m=1\/m=2\/m=4\/m=5\/m=6\/m=7\/m=8\/m=9\/m=10\/m=13\/m=14:=by omega
 have push: ∀k,Oi f.1->1<=k->k<=14->gK ((k,at_)::f::r):=fun k o g i=>ah1 d ⟨f,r,rfl,o⟩ g i;have s:m=0\/m=1\/m=2\/m=5\/m=6\/m=7\/m=8\/m=9\/m=10->Oi f.1:=fun h=>by simp_all [Oi]
 have u:m≠0->gK r:=fun h=>CP d (j (by rw[hf];exact h));have st: ∀k,m≠0->1<=k->k<=14->gK ((k,f.2)::r):=fun k h g i=>AL d (j (by rw[hf];exact h)) g i;rcases l with e|e|e|e|e|e|e|e|e|e|e|e<;>subst e<;>rcases lU b with rfl|rfl|rfl|rfl|rfl|rfl|rfl|rfl|rfl|rfl|rfl|⟨g,i,v,x,y,z,A,B,D,E,G⟩<;>cases fr<;>
  simp_all [iY,Hz,ES]<;>first|omega|(refine⟨?_,by omega⟩;assumption)
end
section
open List renaming drop_eq_getElem_cons → au, drop_zero → ay, drop_of_length_le → aB, eq_nil_of_length_eq_zero → bi
open Go.RowKit
theorem good_step {s:fB} (d:gK s) (fr:Bool) (b at_:Int):gK (fE s fr b at_).1/\(fE s fr b at_).1.length<=s.length+1:=by
 cases s with
 |nil=>cases d
 |cons f r=>
 simp only[fE];split
 .rename_i e
  have i:r≠[]:=mi d (by omega);have p: ∀k,1<=k->k<=14->gK ((k,f.2)::r):=fun k j l=>AL d i j l;have m:=CP d i;split
  .simp_all
  .split
   .grind
   .split
    .grind
    .cases r with
     |nil=>exact absurd rfl i
     |cons g r=>
      have o:=d.2.2.1;have h:=yY rfl m (by unfold Oi at o;omega) fr b at_
      grind
 .split
  .rename_i e
   have i:r≠[]:=mi d (by omega);split
   .grind [AL]
   .have h:=yY (f:=(1,f.2)) rfl (AL d i (by omega) (by omega)) (by omega) fr b at_
    assumption
  .split
   .rename_i e
    have i:r≠[]:=mi d (by omega);split
    .grind [CP]
    .have h:=yY (f:=(9,f.2)) rfl (AL d i (by omega) (by omega)) (by omega) fr b at_
     assumption
   .exact yY rfl d (by omega) fr b at_
def md (s:fB):List Int:=s.map (·.1)
theorem Hl (m:Int) {s d:fB} (h:md s=md d) (fr:Bool) (b a e:Int):md (iY m s fr b a).1=md (iY m d fr b e).1/\(iY m s fr b a).2=(iY m d fr b e).2:=by
 have f:md s.tail=md d.tail:=by
  have:=congrArg List.tail h;simpa [md] using this
 have g:m=0\/m=1\/m=2\/m=4\/m=5\/m=6\/m=7\/m=9\/m=10\/m=13\/m=14\/(m≠0/\m≠1/\m≠2/\m≠4/\m≠5/\m≠6/\m≠7/\m≠9/\m≠10/\m≠13/\m≠14):=by omega
 have i: ∀k (p q:Int),md ((k,p)::s)=md ((k,q)::d):=fun k p q=>by simp_all [md]
 have hd: ∀k (p q:Int),md ((k,p)::s.tail)=md ((k,q)::d.tail):=fun k p q=>by simp_all [md]
 rcases g with rfl|rfl|rfl|rfl|rfl|rfl|rfl|rfl|rfl|rfl|rfl|⟨j,l,o,u,v,x,y,z,A,B,D⟩<;>rcases lU b with rfl|rfl|rfl|rfl|rfl|rfl|rfl|rfl|rfl|rfl|rfl|⟨E,G,I,J,K,L,M,N,O,S,U⟩<;>cases fr<;>
  simp_all [iY,Hz,ES]<;>first|exact h|exact f|exact i _ _ _|exact hd _ _ _
theorem asG {s d:fB} (h:md s=md d) (fr:Bool) (b a i:Int):md (fE s fr b a).1=md (fE d fr b i).1/\(fE s fr b a).2=(fE d fr b i).2:=by
 cases s with
 |nil=>cases d with
  |nil=>exact⟨rfl,rfl⟩
  |cons _ _=>simp[md]at h
 |cons f r=>cases d with
  |nil=>simp[md]at h
  |cons f' e=>
   have j:f.1=f'.1:=by simp_all [md]
   have g:md r=md e:=by simp_all [md]
   have l:(r.headD (0,0)).1=(e.headD (0,0)).1:=by
    cases r<;>cases e<;>simp[md]at g ⊢;exact g.1
   have m: ∀k (p q:Int),md ((k,p)::r)=md ((k,q)::e):=fun k p q=>by simp_all [md]
   simp only[fE,<-j,<-l];split
   .split
    .grind
    .split
     .grind
     .split
      .exact⟨g,rfl⟩
      grind [Hl]
   .split
    .split
     .grind
     grind [Hl]
    .split
     .split
      .exact⟨g,rfl⟩
      grind [Hl]
     grind [Hl]
def jd (b:UInt8):Int:=(b.toNat:Int)
def lH:bQ->Int->fB×Bool->fB×Bool
 |[],_,x=>x
 |b::l,a,x=>lH l (a+1) (fE x.1 x.2 (jd b) a)
def eQ:fB×Bool:=([(0,0)],true)
theorem jL:gK eQ.1:=rfl
theorem drop_at {s:List UInt8} {i:Int} (d:0<=i) (h:i<s.length): ∃b,s.drop i.toNat=b::s.drop (i+1).toNat/\bK s i=jd b:=by
 have e:i.toNat<s.length:=by omega
 refine⟨s[i.toNat], ?_, ?_⟩
 .grind [au]
 simp_all [bK,jd]
theorem Gt {s:List UInt8} {i:Int} (h:s.length<=i:=by omega):s.drop i.toNat=[]:=aB (by omega)
theorem avb (s:bQ) (j:s.length<=100000): ∀(N:Nat) (i:Int) (x:fB×Bool),(s.length:Int)-i<N->0<=i->i<=s.length->gK x.1->(x.1.length:Int)<=i+1->
  G7 N s (bD s) i x.2 i (lo x.1)=some (.inl ((),(((lH (s.drop i.toNat) i x).2,(s.length:Int),()),lo (lH (s.drop i.toNat) i x).1,())))
 |0,i,x,h,_,_,_,_=>by omega
 |N+1,i,x,h,d,m,f,o=>by
  rw[G7,Mc];by_cases e:i<s.length
  .obtain⟨b,hd,l⟩:=drop_at d e;rw[bM (eU (b:=bD s) e),bM (dV d e),abo f (by omega) x.2 (kN s i) d (by omega),bu,hd,lH,<-l];simp only[pst];rw[dA];have g:=good_step f x.2 (bK s i) i;exact avb s j N (i+1) (fE x.1 x.2 (bK s i) i) (by omega) (by omega) (by omega) g.1 (by have:=g.2;omega)
  .have p:i=s.length:=by omega
   simp_all [gX,bF,lH]
theorem avc (s:bQ) (m:s.length<=100000) (d:bQ) (f:Bool): ∀(N:Nat) (i:Int) (x:fB×Bool),(s.length:Int)-i<N->0<=i->i<=s.length->gK x.1->(x.1.length:Int)<=i+1->
  Om N s i (so x.1) (po x.1) x.2 d f=some (.inl ((),((so (lH (s.drop i.toNat) i x).1,po (lH (s.drop i.toNat) i x).1,(lH (s.drop i.toNat) i x).2,()),(d,f,()),())))
 |0,i,x,h,_,_,_,_=>by omega
 |N+1,i,x,h,g,p,j,q=>by
  rw[Om,X3];by_cases e:i<s.length
  .obtain⟨b,hd,o⟩:=drop_at g e;rw[bM (eU (b:=bD s) e),bM (dV g e),abp j (by omega) x.2 (kN s i) i,bu,hd,lH,<-o];simp only[Ep];rw[dA];have l:=good_step j x.2 (bK s i) i;exact avc s m d f N (i+1) (fE x.1 x.2 (bK s i) i) (by omega) (by omega) (by omega) l.1 (by have:=l.2;omega)
  simp_all [gX,bF,Gt,lH]
theorem AC: ∀(l:bQ) (a:Int) (x:fB×Bool),gK x.1->gK (lH l a x).1/\(lH l a x).1.length<=x.1.length+l.length
 |[],a,x,h=>⟨h,by simp[lH]⟩
 |b::l,a,x,h=>by
  have d:=good_step h x.2 (jd b) a;have e:=AC l (a+1) (fE x.1 x.2 (jd b) a) d.1
  grind [lH]
theorem JR {n:Nat} (h:n<=1000000000:=by omega):n<bG:=by unfold bG;omega
theorem az3 (s:bQ) (f:s.length<=100000):aef s=some (lo (lH s 0 eQ).1,((lH s 0 eQ).2,())):=by
 have h:=avb s f bG 0 eQ (by have:=JR (n:=s.length) (by omega);omega) (by omega) (by omega) jL (by simp[eQ]);have d:=AC s 0 eQ jL;unfold aef;rw[show([(0,(0,()))]:List lZ)=lo eQ.1 from rfl,show(true:Bool)=eQ.2 from rfl,h,bu];simp only[dL,Int.toNat_zero,ay];have g:(lo (lH s 0 eQ).1).length≠0:=by
  rw[mY];intro e;rw[bi e]at d;exact d.1
 rw[dD (dX (by rw[bF];omega))];have i:l9 (lo (lH s 0 eQ).1)=some (lo (lH s 0 eQ).1,()):=by
  unfold l9 pq;have:dN (lo (lH s 0 eQ).1) 16=true:=by
   have:=d.2;have j:eQ.1.length=1:=rfl;simp only[dN,mY,decide_eq_true_eq,kF];omega
  rw[this];rfl
 rw[i,bu];cases hf:(lH s 0 eQ).2 with
 |true=>simp[YW,bu]
 |false=>simp[YW,bu,gZ,bF,g]
theorem az4 (s:bQ) (d:s.length<=100000):arH s=some (Ep (lH s 0 eQ),()):=by
 have h:=avc s d [] false bG 0 eQ (by have:=JR (n:=s.length) (by omega);omega) (by omega) (by omega) jL (by simp[eQ]);unfold arH;rw[show abA=some ((so eQ.1,(po eQ.1,(eQ.2,()))),()) from rfl,bu];simp_all [bu,dL,Ep]<;>rfl
end
section
open Option renaming some → a6, none → a7
open Bool renaming false_eq_true → ah, not_true → ak, not_false → aA, and_true → aH
open List renaming length_cons → aJ
open Nat renaming le_refl → af
open Go.RowKit
def pg (s:fB) (b:Int):Bool:=zZ b&&(match s with
 |[_]=>true
 |[f,_]=>decide (f.1=12)&& !decide (b=40)
 |_=>false)
def Af:bQ->Int->fB×Bool->Nat
 |[],_,_=>0
 |b::l,a,x=>if pg x.1 (jd b)then 0 else Af l (a+1) (fE x.1 x.2 (jd b) a)+1
theorem adZ: ∀(l:bQ) (a:Int) (x:fB×Bool),Af l a x<=l.length
 |[],_,_=>af _
 |b::l,a,x=>by
  simp only[Af,aJ];split
  .omega
  .have:=adZ l (a+1) (fE x.1 x.2 (jd b) a);omega
theorem aks {s d:fB} (h:md s=md d) (b:Int):pg s b=pg d b:=by
 match s,d with
 |[],[]=>rfl
 |[_],[_]=>rfl
 |[f,_],[e,_]=>simp_all [md,pg]
 |_::_::_::_,_::_::_::_=>rfl
 |[],_::_=>simp[md]at h
 |_::_,[]=>simp[md]at h
 |[_],_::_::_=>simp[md]at h
 |_::_::_,[_]=>simp[md]at h
 |[_,_],_::_::_::_=>simp[md]at h
 |_::_::_::_,[_,_]=>simp[md]at h
theorem ad1: ∀(l:bQ) (a d:Int) (x e:fB×Bool),md x.1=md e.1->x.2=e.2->Af l a x=Af l d e
 |[],_,_,_,_,_,_=>rfl
 |b::l,a,d,x,e,f,h=>by
  have g:=asG f x.2 (jd b) a d;simp only[Af,aks f,<-h];rw[ad1 l (a+1) (d+1) _ _ g.1 g.2]
theorem aq5 {s:fB} (d:gK s) (hb:s.length<1000000) (fr:Bool) (at_:Int) {b:Int} (e:isByte b):aee (lo s) fr at_ b=a6 ((lo s,(fr,(at_,()))),(pg s b,())):=by
 unfold aee;rw[akt e,bu];cases he:zZ b with
 |false=>simp[pg,he]
 |true=>
  match s with
  |[]=>cases d
  |[f]=>simp[pg,he,gZ,bF,lo]
  |[f,g]=>
   have i:fV (lo [f,g]) 1=true:=dV (by omega) (by simp[lo]);have j:lN (dh 1) (lo [f,g])=true:=mV (by simp[lo,dh]);have l:dB (lo [f,g]) (0,(0,())) (dh 1)=(f.1,f.2,()):=by rfl
   have m:(lo [f,g]).length=2:=by simp[lo]
   simp only[gZ,bF,i,j,l,m,aa]
   grind [pg]
  |f::g::h::r=>
   grind [mY,gZ,bF,pg]
theorem akq (s:bQ) (j:s.length<=100000): ∀(N:Nat) (i a:Int) (x:fB×Bool),(s.length:Int)-i<N->0<=i->i<=s.length->0<=a->a<=i->gK x.1->(x.1.length:Int)<=a+1->
  ∃o,Ot N s i x.2 a (lo x.1)=a6 o/\dL o (fun l=>a6 (l.1.1,())) (fun m=>a6 (m.1.1,()))=a6 (i+Af (s.drop i.toNat) a x,())
 |0,i,a,x,h,_,_,_,_,_,_=>by omega
 |N+1,i,a,x,h,d,q,u,v,f,y=>by
  rw[Ot,X7];by_cases e:i<s.length
  .obtain⟨b,hd,p⟩:=drop_at d e;rw[bM (eU (b:=bD s) e),bM (dV d e),aq5 f (by omega) x.2 a (kN s i),bu,hd,Af,<-p];cases hw:pg x.1 (bK s i)with
   |true=>exact⟨_,rfl,by simp[dL]⟩
   |false=>
    simp only[ac,ah,if_false];rw[bM (dV d e),abo f (by omega) x.2 (kN s i) (by omega) (by omega),bu];simp only[pst];rw[dA];have g:=good_step f x.2 (bK s i) a;obtain⟨o,z,A⟩:=akq s j N (i+1) (a+1) (fE x.1 x.2 (bK s i) a) (by omega) (by omega) (by omega) (by omega) (by omega) g.1 (by have:=g.2;omega)
    grind
  .rw[dD (gX (b:=bD s) (by rw[bF];omega)),Gt];exact⟨_,rfl,by simp[dL,Af]⟩
theorem azW (s:bQ) (e:s.length<=100000) {i:Int} (d:0<=i) (hi:i<=s.length):amd s i=a6 (i+Af (s.drop i.toNat) i eQ,()):=by
 obtain⟨o,f,g⟩:=akq s e bG i 0 eQ (by have:=JR (n:=s.length) (by omega);omega) d hi (by omega) d jL (by simp[eQ]);unfold amd;rw[dD (gX d),dD (gX (a:=bD s) hi),show([(0,(0,()))]:List lZ)=lo eQ.1 from rfl,show(true:Bool)=eQ.2 from rfl,f,bu,g,ad1 _ i 0 eQ eQ rfl rfl]
theorem ao9 {s:fB} (d:gK s):eX (so s) [84]=(match s with|[_]=>true|_=>false):=by
 match s with
 |[]=>cases d
 |[f]=>have h:f.1=0:=d;simp[so,eX,h,lets]
 |f::g::r=>
  grind [zN,eX]
theorem agF {s:fB} (d:gK s):eX (so s) [84,76]=(match s with|[f,_]=>decide (f.1=12)|_=>false):=by
 match s with
 |[]=>cases d
 |[f]=>
  simp_all [so,eX]
 |[f,g]=>
  have h:g.1=0:=d.2.2.2;obtain⟨j,g1⟩:=CO d;have i:f.1=0\/f.1=1\/f.1=2\/f.1=3\/f.1=4\/f.1=5\/f.1=6\/f.1=7\/f.1=8\/f.1=9\/f.1=10\/f.1=11\/f.1=12\/f.1=13\/f.1=14:=by omega
  rcases i with e|e|e|e|e|e|e|e|e|e|e|e|e|e|e<;>simp[so,eX,h,e,lets]
 |f::g::h::r=>
  grind [zN,eX]
theorem akr (s:bQ) (u:s.length<=100000): ∀(N:Nat) (i:Int) (x:fB×Bool),(s.length:Int)-i<N->0<=i->i<=s.length->gK x.1->(x.1.length:Int)<=i+1->
  ∃o,I5 N s i (so x.1) (po x.1) x.2=a6 o/\dL o (fun d=>a6 ((bD d.1.1),())) (fun j=>a6 (j.1.1,()))=a6 (i+Af (s.drop i.toNat) i x,())
 |0,i,x,h,_,_,_,_=>by omega
 |N+1,i,x,h,m,B,l,D=>by
  (rewrite [I5,XU];delta BG)
  by_cases e:i<s.length
  .obtain⟨b,hd,v⟩:=drop_at m e;have p:=good_step l x.2 (bK s i) i;obtain⟨o,y,z⟩:=akr s u N (i+1) (fE x.1 x.2 (bK s i) i) (by omega) (by omega) (by omega) p.1 (by have:=p.2;omega);rw[bM (eU (b:=bD s) e),bM (dV m e),aku (kN s i),bu,hd,Af,<-v,ao9 l,agF l,dV m e,abp l (by omega) x.2 (kN s i) i,bu];simp only[Ep,aa];rw[dA];have q: ∃o,I5 N s (i+1) (so (fE x.1 x.2 (bK s i) i).1) (po (fE x.1 x.2 (bK s i) i).1) (fE x.1 x.2 (bK s i) i).2=a6 o/\dL o (fun d=>a6 ((bD d.1.1),())) (fun j=>a6 (j.1.1,()))=a6 (i+((Af (s.drop (i+1).toNat) (i+1) (fE x.1 x.2 (bK s i) i)+1:Nat):Int),()):=
    ⟨o,y,z.trans (by grind)⟩
   have A: ∃o,(a6 (Sum.inr ((i,()),())):Option (WA.den⊕Xh.den))=a6 o/\dL o (fun d=>a6 ((bD d.1.1),())) (fun j=>a6 (j.1.1,()))=a6 (i+((0:Nat):Int),()):=⟨_,rfl,by simp[dL]⟩;cases he:zZ (bK s i)with
   |false=>simp_all [pg]
   |true=>
    generalize E:x.1=st at*
    match st with
    |[]=>cases l
    |[f]=>simp_all [pg]
    |[f,g]=>
     by_cases e12:f.1=12
     .by_cases e40:bK s i=40
      .simp only[pg,he,aa,ac,gZ,e12,e40,decide_true,ak,Bool.and_false,ah,if_false]at q ⊢;exact q
      .simp only[pg,he,aa,ac,gZ,e12,e40,decide_true,decide_false,aA,aH,if_true];exact A
     simp_all [pg]
    |f::g::h::r=>simp_all [pg]
  .rw[dD (gX (b:=bD s) (by rw[bF];omega)),Gt];exact⟨_,rfl,by simp[dL,Af,bF];omega⟩
theorem azX (s:bQ) (d:s.length<=100000) {i:Int} (e:0<=i) (hi:i<=s.length):ahS s i=a6 (i+Af (s.drop i.toNat) i eQ,()):=by
 obtain⟨o,f,g⟩:=akr s d bG i eQ (by have:=JR (n:=s.length) (by omega);omega) e hi jL (by simp[eQ];omega);unfold ahS;rw[show abA=a6 ((so eQ.1,(po eQ.1,(eQ.2,()))),()) from rfl,bu];simp_all [bu]
end
section
open Option renaming some → a6, none → a7
open Bool renaming and_eq_true → ae, not_true → ak
open List renaming drop_eq_getElem_cons → au, drop_of_length_le → aB, length_cons → aJ, length_drop → aQ, takeWhile_cons → aY
open Go.RowKit
def isL (c:UInt8):Bool:=(97<=c&&c<=122)||(65<=c&&c<=90)||c==95
def KY (c:UInt8):Bool:=48<=c&&c<=57
def Zb (c:UInt8):Bool:=isL c||KY c
def isP (c:UInt8):Bool:=c==64||c==42||c==35||c==63||c==45||c==36||c==33
def aq1:Bool:=(List.range 256).all fun b=>match YT (b:Int),YU (b:Int),IJ (b:Int)with
 |some (x,_),a6 (y,_),a6 (k,_)=>(x==isL (UInt8.ofNat b))&&((y==KY (UInt8.ofNat b))&&((decide (k=5)==isL (UInt8.ofNat b))&&(decide (k=6)==KY (UInt8.ofNat b))))
 |_,_,_=>false
theorem akj:aq1=true:=by kernel_rfl
theorem ny (c:UInt8):YT (c.toNat:Int)=a6 (isL c,())/\YU (c.toNat:Int)=a6 (KY c,())/\ ∃k,IJ (c.toNat:Int)=a6 (k,())/\bJ k 5=isL c/\bJ k 6=KY c:=by
 have h:=List.all_eq_true.1 akj c.toNat (List.mem_range.2 (by have:=c.toNat_lt;omega));have d:UInt8.ofNat c.toNat=c:=by simp
 rw[d]at h;split at h
 .rename_i x u y v k w e f g
  simp only[ae,beq_iff_eq]at h
  grind [bJ]
 .cases h
def aBW:Bool:=(List.range 256).all fun b=>match GN (b:Int) [64,42,35,63,45,36,33]with
 |some (x,_)=>(x==isP (UInt8.ofNat b))&&(isP (UInt8.ofNat b)==(bJ (b:Int) 64||(bJ (b:Int) 42||(bJ (b:Int) 35||(bJ (b:Int) 63||(bJ (b:Int) 45||(bJ (b:Int) 36||bJ (b:Int) 33)))))))
 |_=>false
theorem ayC:aBW=true:=by kernel_rfl
theorem an8 (c:UInt8):GN (c.toNat:Int) [64,42,35,63,45,36,33]=a6 (isP c,())/\isP c=(bJ (c.toNat:Int) 64||(bJ (c.toNat:Int) 42||(bJ (c.toNat:Int) 35||(bJ (c.toNat:Int) 63||(bJ (c.toNat:Int) 45||(bJ (c.toNat:Int) 36||bJ (c.toNat:Int) 33)))))):=by
 have h:=List.all_eq_true.1 ayC c.toNat (List.mem_range.2 (by have:=c.toNat_lt;omega));have d:UInt8.ofNat c.toNat=c:=by simp
 grind
theorem byte_at {s:List UInt8} {i:Nat} (h:i<s.length):bK s (i:Int)=(s[i].toNat:Int):=by
 simp_all [bK]
def runN (s:bQ):Nat:=(s.takeWhile Zb).length
def FQ (s:bQ):Nat:=(s.takeWhile isL).length
def jT (s:bQ):Nat:=(s.takeWhile KY).length
theorem KW (p:UInt8->Bool) (s:bQ):(s.takeWhile p).length<=s.length:=by
 induction s with
 |nil=>simp
 |cons c v d=>grind [aY]
theorem KU (p:UInt8->Bool): ∀(s:bQ) (i:Nat) (h:i<s.length),i<(s.takeWhile p).length->p s[i]=true
 |[],i,h,_=>by simp at h
 |c::v,i,h,d=>by
  rw[aY]at d;split at d
  .rename_i e
   match i with
   |0=>exact e
   |i+1=>exact KU p v i (by simpa using h) (by simpa using d)
  .simp at d
theorem BU (p:UInt8->Bool): ∀(s:bQ) (h:(s.takeWhile p).length<s.length),p s[(s.takeWhile p).length]=false
 |[],h=>by simp at h
 |c::v,h=>by
  by_cases hc:p c=true
  .have e:List.takeWhile p (c::v)=c::v.takeWhile p:=by simp_all
   have d:(v.takeWhile p).length<v.length:=by simp_all
   have:=BU p v d;simp_all
  simp_all
theorem aEQ (p:UInt8->Bool) (s:bQ) (n:Nat) (d:n<=s.length) (e: ∀i (h:i<s.length),i<n->p s[i]=true) (h2: ∀h:n<s.length,p s[n]=false):(s.takeWhile p).length=n:=by
 have a:=KW p s;by_cases c:(s.takeWhile p).length<n
 .grind [BU]
 grind [KU]
def nl (s:bQ):Nat:=if FQ s=0 then 0 else runN s
theorem aor {s:List UInt8} (h:FQ s≠0):runN s≠0:=by
 unfold FQ at h;unfold runN
 match s with
 |[]=>simp at h
 |c::v=>
  simp_all [aY,Zb]
theorem au9 (s:bQ):nl s<=s.length:=by
 unfold nl;split
 .omega
 .exact KW _ _
theorem TR {s:List UInt8} (d:s.length<4000000) {a k:Nat} (h:a+k<s.length): ∃hk:k<(s.drop a).length,bK s (bZ .i64 (a:Int) (k:Int))=(((s.drop a)[k]).toNat:Int):=by
 have hk:k<(s.drop a).length:=by grind
 refine⟨hk, ?_⟩;rw[dA,show(a:Int)+(k:Int)=((a+k:Nat):Int) by omega,byte_at h,List.getElem_drop]
theorem avl {s:List UInt8} (e:s.length<4000000) {at_:Nat} (g:at_<=s.length) (a:bQ) (b:Int) (c:bQ) (d:Int): ∀(N k:Nat),s.length-k<N->k<=FQ (s.drop at_)->
  mD N s (at_:Int) (k:Int) a b c d=a6 (.inl ((((FQ (s.drop at_):Nat):Int),()),((a,b,c,d,()),(),()),()))
 |0,k,h,hk=>by
  omega
 |N+1,k,h,hk=>by
  have o:=KW isL (s.drop at_);have p:=aQ (i:=at_) (l:=s);rw[mD,sU];have q:k<=((s.drop at_).takeWhile isL).length:=hk;have f:bZ .i64 (at_:Int) (k:Int)=(at_:Int)+k:=dA;by_cases h1:at_+k<s.length
  .obtain⟨j,m⟩:=TR e h1;rw[m,f,bM (eU (by rw[bF];omega)),bM (dV),(ny _).1,bu];by_cases h2:k<FQ (s.drop at_)
   .rw[KU isL _ k j h2];simp only[ak,ac];rw[dA,show(k:Int)+1=((k+1:Nat):Int) by omega];exact avl e g a b c d N (k+1) (by omega) (by omega)
   .obtain rfl:k=FQ (s.drop at_):=by omega
    grind [BU,FQ]
  .obtain rfl:k=FQ (s.drop at_):=by grind [FQ]
   rw[f,dD (iG (by rw[bF];omega))]
theorem avm {s:List UInt8} (e:s.length<4000000) {at_:Nat} (j:at_<=s.length) (a:bQ) (b:Int) (c:bQ) (d:Int): ∀(N k:Nat),s.length-k<N->k<=runN (s.drop at_)->
  nT N s (at_:Int) (k:Int) a b c d=a6 (.inl ((((runN (s.drop at_):Nat):Int),()),((a,b,c,d,()),(),()),()))
 |0,k,h,hk=>by
  omega
 |N+1,k,h,hk=>by
  have q:=KW Zb (s.drop at_);have u:=aQ (i:=at_) (l:=s);rw[nT,zT];have v:k<=((s.drop at_).takeWhile Zb).length:=hk;have f:bZ .i64 (at_:Int) (k:Int)=(at_:Int)+k:=dA;by_cases h1:at_+k<s.length
  .obtain⟨g,m⟩:=TR e h1;have o:bZ .i64 (k:Int) 1=((k+1:Nat):Int):=by grind [dA]
   rw[m,f,bM (eU (by rw[bF];omega)),bM (dV),(ny _).1,bu,(ny _).2.1];by_cases h2:k<runN (s.drop at_)
   .have p:=avm e j a b c d N (k+1) (by omega) (by omega);have x:=KU Zb _ k g h2;rw[o];cases hL:isL (s.drop at_)[k]with
    |true=>exact p
    |false=>
     simp_all [Zb,bu]
   .obtain rfl:k=runN (s.drop at_):=by omega
    have:=BU Zb _ g;have y:Zb (s.drop at_)[runN (s.drop at_)]=false:=this;simp_all [Zb,bu]
  .obtain rfl:k=runN (s.drop at_):=by grind [runN]
   rw[f,dD (iG (by rw[bF];omega))]
theorem avk {s:List UInt8} (e:s.length<4000000) {at_:Nat} (g:at_<=s.length) (a:bQ) (b:Int) (c:bQ) (d:Int): ∀(N k:Nat),s.length-k<N->k<=jT (s.drop at_)->
  og N s (at_:Int) (k:Int) a b c d=a6 (.inl ((((jT (s.drop at_):Nat):Int),()),((a,b,c,d,()),(),()),()))
 |0,k,h,hk=>by
  omega
 |N+1,k,h,hk=>by
  have o:=KW KY (s.drop at_);have p:=aQ (i:=at_) (l:=s);rw[og,wz];have q:k<=((s.drop at_).takeWhile KY).length:=hk;have f:bZ .i64 (at_:Int) (k:Int)=(at_:Int)+k:=dA;by_cases h1:at_+k<s.length
  .obtain⟨j,m⟩:=TR e h1;rw[m,f,bM (eU (by rw[bF];omega)),bM (dV),(ny _).2.1,bu];by_cases h2:k<jT (s.drop at_)
   .rw[KU KY _ k j h2];simp only[ak,ac];rw[dA,show(k:Int)+1=((k+1:Nat):Int) by omega];exact avk e g a b c d N (k+1) (by omega) (by omega)
   .obtain rfl:k=jT (s.drop at_):=by omega
    grind [BU,jT]
  .obtain rfl:k=jT (s.drop at_):=by grind [jT]
   rw[f,dD (iG (by rw[bF];omega))]
theorem MO {s:List UInt8} (d:s.length<4000000) {a:Nat} (e:a<=s.length):xP s a=a6 (((jT (s.drop a):Nat):Int),()):=by
 rw[xP,dD (iG)];by_cases h0:a=s.length
 .subst h0;rw[bM (nD (by rw[bF];omega)),List.drop_length];rfl
 rw[dD (GZ (by rw[bF];omega)),show og bG s a 0 s a s a=_ from avk d e s a s a bG 0 (dK) (by omega),bu];rfl
theorem av8 {s:List UInt8} (d:s.length<4000000) {a:Nat} (e:a<=s.length):ahU s a=a6 (((nl (s.drop a):Nat):Int),()):=by
 (rewrite [ahU];delta abC;rw[dD (iG)])
 by_cases h0:a=s.length
 .subst h0;rw[bM (nD (by rw[bF];omega)),List.drop_length];rfl
 rw[dD (GZ (by rw[bF];omega)),show mD bG s a 0 s a s a=_ from avl d e s a s a bG 0 (dK) (by omega),bu];unfold dL;simp only;unfold nl;by_cases h1:FQ (s.drop a)=0
 .rw[am h1,h1];rfl
 .rw[ap h1,dD (dX),dD (iG),dD (GZ (by rw[bF];omega)),show nT bG s a 0 _ _ _ _=_ from avm d e _ _ _ _ bG 0 (dK) (by omega)];rfl
theorem J8 {s:List UInt8} (e:s.length<4000000): ∀(N k:Nat),s.length-k<N->k<=runN s->
  I9 N s (k:Int)=a6 (if runN s=s.length then .inl ((),())else .inr ((false,()),()))
 |0,k,h,hk=>by omega
 |N+1,k,h,hk=>by
  have m:=KW Zb s;have o:k<=(s.takeWhile Zb).length:=hk;rw[I9,XY];by_cases h1:k<s.length
  .obtain⟨c,f,g,p⟩:=(ny s[k]).2.2;have i:fV s (k:Int)=true:=dV;rw[bM (eU (by rw[bF];omega)),i,byte_at h1,f,bu,g];by_cases h2:k<runN s
   .have j:=J8 e N (k+1) (by omega) (by omega);have q:=KU Zb s k h1 h2;have l:bZ .i64 (k:Int) 1=((k+1:Nat):Int):=by grind [dA]
    rw[l];cases hL:isL s[k]with
    |true=>exact j
    |false=>
     simp_all [Zb,bu]
   .obtain rfl:k=runN s:=by omega
    have:=BU Zb s h1;have d:Zb s[runN s]=false:=this;simp only[Zb,Bool.or_eq_false_iff]at d;rw[d.1,ap (by omega)];simp_all [bu]
  .obtain rfl:k=runN s:=by grind [runN]
   rw[dD (iG (by rw[bF];omega)),am (by omega)]
theorem amn {s:List UInt8} (d:s≠[]):FQ s=0↔isL (s.headD 0)=false:=by
 match s,d with
 |c::v,_=>
  simp_all [FQ,aY]
theorem abN {s:List UInt8} (e:s.length<4000000):ahT s=a6 (decide (nl s≠0/\nl s=s.length),()):=by
 rw[ahT];by_cases h0:s=[]
 .subst h0;rfl
 have f:0<s.length:=List.length_pos_iff.2 h0;obtain⟨_,_,c,g,j,o⟩:=ny s[0];have l:bK s 0=(s[0].toNat:Int):=byte_at (i:=0) f;have p:s.headD 0=s[0]:=by
  match s,h0 with
  |c::v,_=>rfl
 rw[dD (dX (by rw[bF];omega)),bM (dV),l,g,bu];simp only;rw[j];unfold nl;cases hL:isL s[0]with
 |false=>
  simp_all [amn]
 |true=>
  have d:FQ s≠0:=fun h=>by simp_all [amn]
  have m:=aor d;simp only[ak,ac];rw[ap d,show I9 bG s 1=_ from J8 e bG 1 (dK) (by omega)];by_cases h3:runN s=s.length
  .rw[am h3,decide_eq_true ⟨m,h3⟩];rfl
  .rw[ap h3,decide_eq_false (fun h=>h3 h.2)];rfl
theorem Yl (p:UInt8->Bool): ∀(s:bQ) (k:Nat),((s.take k).takeWhile p).length=min k (s.takeWhile p).length
 |[],k=>by simp
 |c::v,0=>by simp
 |c::v,k+1=>by
  rw[List.take_succ_cons,aY,aY];split
  .rw[aJ,aJ,Yl p v k];omega
  .simp
theorem asI (t:bQ) {k:Nat} (d:1<=k) (hk:k<=t.length):(nl (t.take k)≠0/\nl (t.take k)=(t.take k).length)↔k<=nl t:=by
 have e:(t.take k).length=k:=by simp_all
 have a:=Yl isL t k;have b:=Yl Zb t k;unfold nl FQ runN
 grind
theorem OE {s:List UInt8} (d:s.length<4000000) {a:Nat} (f:a<=s.length): ∀(N k:Nat),s.length-a+1-k<N->1<=k->k<=s.length-a+1->
  C9 N s a ((min (k-1) (nl (s.drop a)):Nat):Int) (k:Int)=a6 (.inl ((((nl (s.drop a):Nat):Int),()),()))
 |0,k,h,_,_=>by omega
 |N+1,k,h,g,l=>by
  have i:=au9 (s.drop a);rw[aQ]at i;rw[C9,MF,bF,iZ];by_cases e:k<=s.length-a
  .have j:sub s (a:Int) (bZ .i64 (a:Int) (k:Int))=(s.drop a).take k:=by
    grind [dA,sub,List.drop_take]
   have m:=OE d f N (k+1) (by omega) (by omega) (by omega);rw[bM (nD),bM (fH (by omega) (by grind [dA]) (by grind [dA])),j,
    abN (by grind),bu,dA,show(k:Int)+1=((k+1:Nat):Int) by omega]
   have o:=asI (s.drop a) g (by simp_all)
   grind
  .rw[dD (GZ (by omega)),show min (k-1) (nl (s.drop a))=nl (s.drop a) by omega]
theorem av9 {s:List UInt8} (d:s.length<4000000) {a:Nat} (e:a<=s.length):aep s a=a6 (((nl (s.drop a):Nat):Int),()):=by
 rw[aep];have h:=OE d e bG 1 (dK) (by omega) (by omega);rw[show min (1-1) (nl (s.drop a))=0 by omega]at h;rw[show C9 bG s a 0 1=_ from h,bu];rfl
def prl (s:bQ):Nat:=if nl s≠0 then nl s else match s with
 |c::_=>if isP c||KY c then 1 else 0
 |[]=>0
theorem adm (s:bQ):prl s<=s.length:=by
 unfold prl
 grind [au9]
theorem mf {s:List UInt8} {a:Nat} (h:a<s.length):s.drop a=s[a]::s.drop (a+1):=au h
theorem aqN {s:List UInt8} (d:s.length<4000000) {a:Nat} (f:a<=s.length):ael s a=a6 (((prl (s.drop a):Nat):Int),()):=by
 rw[ael,av9 d f,bu];unfold prl;by_cases e:nl (s.drop a)=0
 .rw[bM (fU),ap (by omega)];by_cases h:a<s.length
  .obtain⟨k,hk,j,g⟩:=(ny s[a]).2.2;have i:fV s (a:Int)=true:=dV;rw[bM (eU (by rw[bF];omega)),i,byte_at h,hk,bu,g,(an8 _).1,bu,e,mf h]
   grind
  simp_all [iG,bF,aB]
 simp_all [dX]
theorem aqM {s:List UInt8} (d:s.length<4000000) {a:Nat} (f:a<=s.length):Rw s a=a6 (((prl (s.drop a):Nat):Int),()):=by
 rw[Rw,av8 d f,bu];unfold prl;by_cases e:nl (s.drop a)=0
 .rw[dD (iG),ap (by omega),dD (iG)];by_cases h:a<s.length
  .rw[dD (GZ (by rw[bF];omega)),bM (dV),byte_at h,MO d f,bu];have hd:E8 ((jT (s.drop a):Nat):Int) 1=if KY s[a]then 1 else 0:=by
    grind [jT,mf,aY,E8]
   have g:=(an8 s[a]).2;rw[hd,mf h]
   grind
  simp_all [nD,bF,aB]
 .rw[bM (eU),am e]
end
section
open Bool renaming and_true → aH
open List renaming length_append → aI, length_cons → aJ
open Nat renaming le_refl → af
open Go.RowKit
abbrev jQ:=Int×Int×Int×Int×Bool×Unit
abbrev D6:=Int×Int×Unit
def dP:jQ:=(0,(0,(0,(0,(false,())))))
def dF:D6:=(0,(0,()))
def counts (m:Int):Int:=if m=3 then 1 else if m=11 then 9 else m
theorem YH (m:Int):Rx m=some (counts m,()):=by
 unfold Rx counts;simp only[gZ];by_cases h1:m=3
 .simp[h1]
 .by_cases h2:m=11<;>simp[h1,h2]
theorem Hq {e:Type} {l:List e} {d x:e} {i:Nat} (h:i<l.length):dB (ig l i x) d i=x:=by
 simp_all [dB,ig]
theorem aai {d:Type} {l:List d} {i:Nat} {x y:d}:ig (ig l i x) i y=ig l i y:=by
 simp_all [ig]
theorem aeA {d:Type} {l:List d} {i:Nat} {x:d} {k:Int}:fV (ig l i x) k=fV l k:=by
 simp_all [fV,ig]
theorem afk {d:Type} {l:List d} {i k:Nat} {x:d}:lN k (ig l i x)=lN k l:=by
 simp_all [lN,ig]
theorem sS {d:Type} {l:List d} {i:Nat} {x:d}:(ig l i x).length=l.length:=by
 simp_all [ig]
theorem YM (n:Nat):eqN n n=true:=by simp[eqN]
def KR (L:List jQ) (j:Nat) (a:Int):List jQ:=ig L j ((dB L dP j).1,(dB L dP j).2.1,a,(dB L dP j).2.2.2.1,false,())
def Sm (L:List jQ) (j:Nat) (m:Int):List jQ:=ig L j (m,(dB L dP j).2)
theorem Dx (L:List jQ) (j:Nat) (a:Int):(KR L j a).length=L.length:=sS
theorem Df (L:List jQ) (j:Nat) (m:Int):(Sm L j m).length=L.length:=sS
def mW (F:List D6) (a:Int):Nat->List jQ->List Int->List jQ×List Int
 |0,L,H=>(L,H)
 |n+1,L,H=>
  if n+1<=F.length/\(F.getD n dF).2.1=(dB L dP (H.getD n 0).toNat).2.1 then(L,H)
  else mW F a n (KR L (H.getD n 0).toNat (a+1)) (H.take n)
def x8 (F:List D6) (H:List Int):Nat->Nat->List jQ->List jQ
 |0,_,L=>L
 |k+1,i,L=>x8 F H k (i+1) (Sm L (H.getD i 0).toNat (counts (F.getD i dF).1))
theorem aah (F:List D6) {a:Int} (d:0<=a) (f:a<1000000) (g:F.length<1000000): ∀(N n:Nat) (L:List jQ) (H:List Int),n<N->n=H.length->n<1000000->L.length<1000000->
  (∀j∈H,0<=j/\j<L.length)->
  Ha N F a (n:Int) L H=some (.inl ((F,()),((),()),((),(mW F a n L H).1,(mW F a n L H).2,())))
 |0,n,L,H,h,_,_,_,_=>by omega
 |N+1,0,L,H,h,_,_,_,_=>by
  rfl
 |N+1,n+1,L,H,h,E,G,i,l=>by
  have I:n<H.length:=by omega
  have m:ed .i64 ((n+1:Nat):Int) 1=(n:Int):=by grind [iZ]
  have o:H.getD n 0∈H:=by simp_all
  obtain⟨p,q⟩:=l _ o;have s:dB H 0 (dh (n:Int))=H.getD n 0:=rfl;have u:gu F (0,(0,())) (n:Int)=F.getD n dF:=rfl;have v:fV L (H.getD n 0)=true:=dV p q;have y:lN (dh (H.getD n 0)) L=true:=mV (by simp only[dh];omega);have z:eG (bD H) 0 (n:Int)=true:=fH (by omega) (by omega) (by rw[bF];omega);have A:sub H 0 (n:Int)=H.take n:=by simp[sub]
  have B:bZ .i64 a 1=a+1:=dA;have D:dh (H.getD n 0)<L.length:=by simp only[dh];omega
  have iH: ∀x,dB (ig L (dh (H.getD n 0)) x) (0,(0,(0,(0,(false,()))))) (dh (H.getD n 0))=x:=fun x=>Hq D;have go:=aah F d f g N n (KR L (H.getD n 0).toNat (a+1)) (H.take n) (by omega) (by grind) (by omega) (by rw[Dx];exact i)
   (fun j J=>by grind [Dx])
  (rewrite [Ha,MG];delta DC ug uf iW;rw[mW])
  simp only[m,s,u,v,y,z,A,B,aeA,afk,iH,aai,aa];rw[bM (eU),bM (dV),bM (mV (by assumption))];by_cases e:n+1<=F.length
  .rw[bM (nD (by rw[bF];omega)),bM (dV)];by_cases e2:(F.getD n dF).2.1=(dB L dP (H.getD n 0).toNat).2.1
   .rw[am ⟨e,e2⟩];exact bM (fU e2)
   .rw[ap (fun h=>e2 h.2)];exact(dD (dX e2)).trans go
  .rw[dD (GZ (by rw[bF];omega)),ap (fun h=>e h.1)];exact go
theorem aag (F:List D6) (H:List Int) (e:F.length<1000000) (f:H.length<1000000): ∀(k i N:Nat) (L:List jQ),i+k=H.length->H.length<=F.length->L.length<1000000->(∀j∈H,0<=j/\j<L.length)->
  qp (N+k) F (bD F) (i:Int) L H=qp N F (bD F) (H.length:Int) (x8 F H k i L) H
 |0,i,N,L,h,_,_,_=>by simp_all [x8]
 |k+1,i,N,L,h,g,l,m=>by
  have x:i<H.length:=by omega
  have o:H.getD i 0∈H:=by simp_all
  obtain⟨p,q⟩:=m _ o;have s:dB H 0 (dh (i:Int))=H.getD i 0:=rfl;have u:gu F (0,(0,())) (i:Int)=F.getD i dF:=rfl;have d:fV L (H.getD i 0)=true:=dV p q;have v:lN (dh (H.getD i 0)) L=true:=mV (by simp only[dh];omega);have go:=aag F H e f k (i+1) N (Sm L (H.getD i 0).toNat (counts (F.getD i dF).1)) (by omega) g (by rw[Df];exact l) (fun j y=>by grind [Df])
  (rewrite [show N+(k+1)=(N+k)+1 by omega,qp,zQ];delta kS kQ jJ;rw[x8,<-go])
  rw[bM (eU (by rw[bF];omega)),bM (dV),bM (eU (by rw[bF];omega)),bM (dV),bM (mV (by assumption)),YH,bu,s,d,v];simp only[aeA,d,aa,YM,aH,u];rw[dA,show(i:Int)+1=((i+1:Nat):Int) by omega];rfl
theorem Jd (F:List D6) (H:List Int): ∀(k i:Nat) (L:List jQ),(x8 F H k i L).length=L.length
 |0,_,_=>rfl
 |k+1,i,L=>by rw[x8,Jd F H k,Df]
theorem Ju (F:List D6) (a:Int): ∀(n:Nat) (L:List jQ) (H:List Int),(mW F a n L H).1.length=L.length/\(mW F a n L H).2.length<=H.length/\(∀j∈(mW F a n L H).2,j∈H)
 |0,_,H=>⟨rfl,af _,fun _ h=>h⟩
 |n+1,L,H=>by
  rw[mW];split
  .simp
  .have h:=Ju F a n (KR L (H.getD n 0).toNat (a+1)) (H.take n)
   grind [Dx]
def Xt (L:List jQ) (H:List Int) (F:List D6) (a:Int):List jQ×List Int:=
 let r:=mW F a H.length L H
 let d:=x8 F r.2 r.2.length 0 r.1
 if F.length=r.2.length then(d,r.2)
 else(d++[(counts (F.getD r.2.length dF).1,((F.getD r.2.length dF).2.1,(0,((if r.2.length=0 then-1 else r.2.getD (r.2.length-1) 0),(true,())))))],r.2++[(d.length:Int)])
theorem aB9 {L:List jQ} {H:List Int} {F:List D6} {t:D6} {a:Int} (m:0<=a) (o:a<1000000) (g:F.length<1000000) (p:L.length<1000000) (q:H.length<1000000) (s: ∀j∈H,0<=j/\j<L.length)
  (u:(mW F a H.length L H).2.length<=F.length) (h2:F.length<=(mW F a H.length L H).2.length+1):
  YY L H (t::F) a=some (((Xt L H F a).1,((Xt L H F a).2,())),()):=by
 have I:=Ju F a H.length L H;have v:sub (t::F) 1 (bD (t::F))=F:=by simp[sub,bD]
 have y:=aah F m o g bG H.length L H (dK) rfl q p s;unfold YY;rw[bM (fH (by omega) (by rw[bF];simp;omega) (by rw[bF];omega)),v,bF (l:=H),y,bu];simp only[dL];unfold Xt;generalize J:mW F a H.length L H=r at*;have z: ∀j∈r.2,0<=j/\j<r.1.length:=fun j M=>by simp_all
 have N:=Jd F r.2 r.2.length 0 r.1;obtain⟨K,A⟩: ∃K,bG=(K+2)+r.2.length:=⟨bG-2-r.2.length,by have:=dK (n:=r.2.length+2) (by omega);omega⟩;have h:=aag F r.2 g (by omega) r.2.length 0 (K+2) r.1 (by omega) u (by omega) z;rw[<-A]at h;rw[show(0:Int)=((0:Nat):Int) from rfl,h];by_cases e:F.length=r.2.length
 ·(rewrite [qp,zQ];delta kS kQ jJ;rw[dD (iG (by rw[bF];omega)),am e,bu])
 .rw[ap e];have O:r.2.length<F.length:=by omega
  generalize S:x8 F r.2 r.2.length 0 r.1=L2 at*;have B:gu F (0,(0,())) (r.2.length:Int)=F.getD r.2.length dF:=rfl;have D: ∀x:jQ,dN (bP L2 [x]) 40=true:=fun x=>by simp only[dN,bP,aI,aJ,List.length_nil,decide_eq_true_eq,kF];omega
  have E: ∀x:Int,dN (bP r.2 [x]) 8=true:=fun x=>by simp only[dN,bP,aI,aJ,List.length_nil,decide_eq_true_eq,kF];omega
  have i: ∀f d,(d.length:Int)=r.2.length+1->qp (K+1) F (bD F) (bZ .i64 (r.2.length:Int) 1) f d=some (.inl ((),((),()),((),f,d,()))):=fun f d U=>by
   (rewrite [qp,zQ];delta kS kQ jJ;rw[dD (iG (by grind [bF,dA]))])
  (rewrite [qp,zQ];delta kS kQ jJ;rw[bM (eU (by rw[bF];omega)),bM (dV),dD (iG (by rw[bF];omega))])
  simp only[B,YH,bu,gq,D,E,aH,aa,gU];by_cases e0:r.2.length=0
  .rw[dD (iG),am e0,i _ _ (by simp[bP]),bu];rfl
  .have G:ed .i64 (r.2.length:Int) 1=((r.2.length-1:Nat):Int):=by grind [iZ]
   rw[bM (eU),G,bM (dV),bM (mV (by simp only[dh];omega)),ap e0,i _ _ (by simp[bP]),bu];rfl
end
section
open Go.RowKit
def nK (s:fB):List D6:=(s.dropLast.map fun f=>(f.1,f.2,())).reverse
def Ac (s:fB):List Int:=(s.dropLast.map (·.2)).reverse
theorem qx (s:fB):(nK s).map (·.2.1)=Ac s:=by
 simp only[nK,Ac,List.map_reverse,List.map_map];rfl
theorem axa {s:fB} (d:gK s): ∃t:D6,lo s=t::nK s:=by
 have e:s≠[]:=by rintro rfl;exact d
 grind [List.dropLast_concat_getLast,lo,nK]
theorem ZV (f:rD) {r:fB} (h:r≠[]):Ac (f::r)=Ac r++[f.2]:=by
 cases r with
 |nil=>exact absurd rfl h
 |cons g r=>simp[Ac]
theorem atn (pre:fB) (f:rD) (r:fB): ∃l,Ac (pre++f::r)=Ac (f::r)++l:=by
 induction pre with
 |nil=>simp
 |cons g pre d=>
  obtain⟨l,h⟩:=d;simp_all [ZV]
def Shape (s y:fB) (at_:Int):Prop:= ∃e f r d,s=e++f::r/\(y=(d,f.2)::r\/ ∃g,y=(g,at_)::(d,f.2)::r)
theorem ww {m:Int} {f:Int×Int} {r:fB} (j:m=0\/r≠[]) (fr:Bool) (b at_:Int):Shape (f::r) (iY m (f::r) fr b at_).1 at_:=by
 have d:Shape (f::r) (f::r) at_:=⟨[],f,r,f.1,rfl,.inl rfl⟩;have push: ∀k,Shape (f::r) ((k,at_)::f::r) at_:=fun k=>⟨[],f,r,f.1,rfl,.inr ⟨k,rfl⟩⟩;have e: ∀k,Shape (f::r) ((k,f.2)::r) at_:=fun k=>⟨[],f,r,k,rfl,.inl rfl⟩;have i:m≠0->Shape (f::r) r at_:=fun h=>by
  cases r with
  |nil=>simp_all
  |cons g r=>exact⟨[f],g,r,g.1,rfl,.inl rfl⟩
 unfold iY Hz ES;rcases lU b with rfl|rfl|rfl|rfl|rfl|rfl|rfl|rfl|rfl|rfl|rfl|⟨l,o,p,q,s,u,v,x,y,z,A⟩<;>cases fr<;>simp_all<;>
  (repeat' split)<;>first|assumption|exact push _|exact e _|(exact i (by omega))|(simp_all;done)|exact d|skip
theorem aiF {pre s y:fB} {at_:Int} (h:Shape s y at_):Shape (pre++s) y at_:=by
 obtain⟨p,f,r,d,g,e⟩:=h;exact⟨pre++p,f,r,d,by simp_all,e⟩
theorem PD {a:Int} {f:Int×Int} {r y:fB} {at_:Int} (h:Shape ((a,f.2)::r) y at_):Shape (f::r) y at_:=by
 obtain⟨p,g,m,e,i,j⟩:=h;cases p with
 |nil=>
  obtain⟨l,d⟩:=List.cons.inj i;subst l d;exact⟨[],f,r,e,rfl,j⟩
 |cons q p=>
  obtain⟨l,d⟩:=List.cons.inj i;exact⟨f::p,g,m,e,by rw[d];rfl,j⟩
theorem adz {s:fB} (d:gK s) (fr:Bool) (b at_:Int):Shape s (fE s fr b at_).1 at_:=by
 cases s with
 |nil=>cases d
 |cons f r=>
 have l: ∀k,Shape (f::r) ((k,f.2)::r) at_:=fun k=>⟨[],f,r,k,rfl,.inl rfl⟩;have m: ∀g j,r=g::j->Shape (f::r) r at_:=fun g j h=>by rw[h];exact⟨[f],g,j,g.1,rfl,.inl rfl⟩
 simp only[fE];split
 .rename_i e
  have i:r≠[]:=mi d (by omega);cases r with
  |nil=>exact absurd rfl i
  |cons g r=>
  split
  .exact l 3
  .split
   .split<;>exact l _
   .split
    .exact m g r rfl
    .have o:=CP d i;refine aiF (pre:=[f]) (ww ?_ fr b at_)
     grind [mi]
 .split
  .grind [mi,PD,ww]
  .split
   .rename_i e
    have i:r≠[]:=mi d (by omega);split
    .cases r with
     |nil=>exact absurd rfl i
     |cons g r=>exact m g r rfl
    grind [PD,ww]
   grind [ww,mi]
theorem Hy {s:fB} (e:gK s) (fr:Bool) (b at_:Int): ∃c,c<=(Ac s).length/\(Ac (fE s fr b at_).1=(Ac s).take c\/Ac (fE s fr b at_).1=(Ac s).take c++[at_]):=by
 obtain⟨i,f,r,j,m,o⟩:=adz e fr b at_;obtain⟨l,d⟩:=atn i f r;rw[<-m]at d;have p:Ac ((j,f.2)::r)=Ac (f::r):=by
  cases r with
  |nil=>rfl
  |cons g r=>rfl
 refine⟨(Ac (f::r)).length,by rw[d];simp, ?_⟩;rw[d,List.take_left']
 .rcases o with h|⟨q,h⟩
  .simp_all
  .rw[h,ZV _ (by simp),p];exact .inr rfl
 .rfl
end
section
open List renaming length_append → aI, length_map → aK
open Nat renaming le_refl → af, lt_or_ge → aF
open Go.RowKit
def aEK (p:jQ):Int:=p.1
def aEJ (p:jQ):Int:=p.2.1
def pTo (p:jQ):Int:=p.2.2.1
def pUp (p:jQ):Int:=p.2.2.2.1
def aEL (p:jQ):Bool:=p.2.2.2.2.1
theorem afm {e:Type} {l:List e} {d:e} {i:Nat} (h:l.length<=i):dB l d i=d:=by
 simp_all [dB]
theorem lC {e:Type} {l:List e} {d:e} {i:Nat} (h:i<l.length):dB l d i=l[i]:=by
 simp_all [dB]
theorem getD_take {e:Type} {l:List e} {d:e} {i n:Nat} (h:i<n):(l.take n).getD i d=l.getD i d:=by
 simp_all
theorem Fa {e:Type} {l:List e} {d x:e} {i j:Nat} (h:i≠j):dB (ig l i x) d j=dB l d j:=by
 simp_all [dB,ig]
def Ib (a:Int) (p:jQ):jQ:=(p.1,p.2.1,a,p.2.2.2.1,false,())
theorem Dy (L:List jQ) (j:Nat) (a:Int) (k:Nat) (d:j<L.length):dB (KR L j a) dP k=if j=k then Ib a (dB L dP k)else dB L dP k:=by
 unfold KR;by_cases h:j=k
 .subst h;rw[am rfl,Hq d];rfl
 .rw[ap h,Fa h]
theorem Je (L:List jQ) (j:Nat) (m:Int) (k:Nat) (d:j<L.length):dB (Sm L j m) dP k=if j=k then(m,(dB L dP k).2)else dB L dP k:=by
 unfold Sm;by_cases h:j=k
 .subst h;rw[am rfl,Hq d]
 .rw[ap h,Fa h]
theorem PG (F:List D6) (a:Int) (H:List Int) (c:Nat) (o: ∀n,n<H.length->0<=H.getD n 0): ∀(n:Nat) (L:List jQ),c<=n->n<=H.length->
  (∀m,m<n->(H.getD m 0).toNat<L.length)->
  (∀m,m<c->m<F.length/\(F.getD m dF).2.1=(dB L dP (H.getD m 0).toNat).2.1)->
  (∀m,c<=m->m<n-> ¬(m+1<=F.length/\(F.getD m dF).2.1=(dB L dP (H.getD m 0).toNat).2.1))->
  (mW F a n L (H.take n)).2=H.take c/\
  (∀j,(∃m,c<=m/\m<n/\(H.getD m 0).toNat=j)->dB (mW F a n L (H.take n)).1 dP j=Ib (a+1) (dB L dP j))/\
  (∀j,(∀m,c<=m->m<n->(H.getD m 0).toNat≠j)->dB (mW F a n L (H.take n)).1 dP j=dB L dP j)
 |0,L,p,q,g,s,i=>by
  have:c=0:=by omega
  subst this;exact⟨rfl,fun j ⟨m,_,h,_⟩=>by omega,fun j _=>rfl⟩
 |n+1,L,p,q,g,s,i=>by
  rw[mW,getD_take (by omega)];by_cases e:c=n+1
  .grind
  .have u:=i n (by omega) (by omega);have f:=g n (by omega);have A: ∀k,(dB (KR L (H.getD n 0).toNat (a+1)) dP k).2.1=(dB L dP k).2.1:=fun k=>by
    rw[Dy _ _ _ _ f];split<;>rfl
   rw[ap u,List.take_take,show min n (n+1)=n by omega];obtain⟨v,x,y⟩:=PG F a H c o n (KR L (H.getD n 0).toNat (a+1)) (by omega) (by omega) (fun m l=>by grind [Dx])
    (fun m l=>by grind) (fun m l z=>by grind)
   refine⟨v,fun j d=> ?_,fun j d=> ?_⟩
   .by_cases hq: ∃m,c<=m/\m<n/\(H.getD m 0).toNat=j
    .rw[x j hq,Dy _ _ _ _ f];split<;>rfl
    .obtain⟨m,B,z,D⟩:=d;have:m=n:=by
      grind
     simp_all [Dy]
   .rw[y j (fun k hk E=>d k hk (by omega)),Dy _ _ _ _ f,ap (d n (by omega) (by omega))]
theorem OD (F:List D6) (H:List Int) (f: ∀m n,m<H.length->n<H.length->(H.getD m 0).toNat=(H.getD n 0).toNat->m=n): ∀(k i:Nat) (L:List jQ),i+k<=H.length->
  (∀m,m<H.length->(H.getD m 0).toNat<L.length)->
  (∀m,i<=m->m<i+k->dB (x8 F H k i L) dP (H.getD m 0).toNat=(counts (F.getD m dF).1,(dB L dP (H.getD m 0).toNat).2))/\
  (∀j,(∀m,i<=m->m<i+k->(H.getD m 0).toNat≠j)->dB (x8 F H k i L) dP j=dB L dP j)
 |0,i,L,h,g=>⟨fun m p q=>by omega,fun j _=>rfl⟩
 |k+1,i,L,h,g=>by
  have d:=g i (by omega);obtain⟨s,l⟩:=OD F H f k (i+1) (Sm L (H.getD i 0).toNat (counts (F.getD i dF).1)) (by omega) (fun m u=>by grind [Df]);rw[x8];refine⟨fun m p q=> ?_,fun j o=> ?_⟩
  .by_cases e:m=i
   .subst e;rw[l _ (fun k hk x y=>by grind),Je _ _ _ _ d,am rfl]
   .rw[s m (by omega) (by omega),Je _ _ _ _ d,ap (fun v=>e (f i m (by omega) (by omega) v).symm)]
  .rw[l j (fun m u z=>o m (by omega) (by omega)),Je _ _ _ _ d,ap (o i (by omega) (by omega))]
def D7 (F:List D6) (v:Int):Option Int:=(F.find? fun f=>f.2.1==v).map (·.1)
theorem NM {F:List D6} (hd: ∀m n,m<F.length->n<F.length->(F.getD m dF).2.1=(F.getD n dF).2.1->m=n) {m:Nat} (d:m<F.length):D7 F (F.getD m dF).2.1=some (F.getD m dF).1:=by
 have e: ∃f,F.find? (fun f=>f.2.1==(F.getD m dF).2.1)=some f:=by
  cases h:F.find? (fun f=>f.2.1==(F.getD m dF).2.1)with
  |some f=>exact⟨f,rfl⟩
  |none=>
   grind
 grind [List.getElem_of_mem,D7]
theorem EQ {F:List D6} {v:Int} (h: ∀m,m<F.length->(F.getD m dF).2.1≠v):D7 F v=none:=by
 grind [D7,List.getElem_of_mem]
def lJ (F:List D6) (a:Int) (p:jQ):jQ:=
 if p.2.2.2.2.1=true then(match D7 F p.2.1 with
  |some m=>(counts m,p.2)
  |none=>Ib (a+1) p)else p
def Vb (F:List D6) (a:Int):Bool:=match F.getLast? with
 |some f=>decide (f.2.1=a)
 |none=>false
def amq (L:List Int) (v:Int):Int:=((L.findIdx fun p=>p==v:Nat):Int)
def wU (F:List D6) (a:Int) (fr:List Int):jQ:=(counts (F.getLastD dF).1,a,0,(if F.length=1 then-1 else amq fr (F.getD (F.length-2) dF).2.1),true,())
def J5 (F:List D6) (a:Int) (L:List jQ):List jQ:=L.map (lJ F a)++if Vb F a=true then [wU F a (L.map (·.2.1))]else []
structure Inv (L:List jQ) (H:List Int) (F:List D6) (k:Int):Prop where
 len:H.length=F.length
 nn: ∀n,n<H.length->0<=H.getD n 0/\(H.getD n 0).toNat<L.length
 frm: ∀n,n<H.length->(dB L dP (H.getD n 0).toNat).2.1=(F.getD n dF).2.1/\(dB L dP (H.getD n 0).toNat).2.2.2.2.1=true
 opn: ∀j,(dB L dP j).2.2.2.2.1=true-> ∃n,n<H.length/\(H.getD n 0).toNat=j
 lt: ∀j,j<L.length->(dB L dP j).2.1<k
 inj: ∀i j,i<L.length->j<L.length->(dB L dP i).2.1=(dB L dP j).2.1->i=j
 fd: ∀m n,m<F.length->n<F.length->(F.getD m dF).2.1=(F.getD n dF).2.1->m=n
theorem Inv.hd {L:List jQ} {H:List Int} {F:List D6} {k:Int} (h:Inv L H F k): ∀m n,m<H.length->n<H.length->(H.getD m 0).toNat=(H.getD n 0).toNat->m=n:=fun m n d f e=>by
 have g:=(h.frm m d).1;have i:=(h.frm n f).1;rw[e,i]at g;exact(h.fd n m (by rw[<-h.len];exact f) (by rw[<-h.len];exact d) g).symm
theorem pI {F:List D6} {n:Nat} (h:n<F.length:=by omega):(F.getD n dF).2.1=(F.map (·.2.1)).getD n 0:=by
 simp_all
theorem arh {f:Type} {d:f} {l e:List f} (h:l.length=e.length) (h2: ∀j,j<l.length->dB l d j=dB e d j):l=e:=by
 grind [List.ext_getElem,lC]
theorem Y8 {L:List jQ} (d: ∀i j,i<L.length->j<L.length->(dB L dP i).2.1=(dB L dP j).2.1->i=j) {j:Nat} (e:j<L.length):amq (L.map (·.2.1)) (dB L dP j).2.1=(j:Int):=by
 have f: ∀i,i<L.length->(L.map (·.2.1))[i]? =some (dB L dP i).2.1:=fun i g=>by
  simp_all [lC]
 unfold amq
 grind
theorem aoY {L:List jQ} {H:List Int} {F g:List D6} {k:Int} (h:Inv L H F k) {c:Nat} (hc:c<=F.length)
  (hF:g.map (·.2.1)=(F.map (·.2.1)).take c\/g.map (·.2.1)=(F.map (·.2.1)).take c++[k]):
  (mW g k H.length L H).2.length<=g.length/\g.length<=(mW g k H.length L H).2.length+1/\
  (Xt L H g k).1=J5 g k L/\Inv (Xt L H g k).1 (Xt L H g k).2 g (k+1):=by
 have aV:g.length=c\/g.length=c+1:=by
  have q:g.length=(g.map (·.2.1)).length:=(aK ..).symm;rcases hF with e|e<;>rw[q,e]<;>simp<;>omega
 have aG:c<=H.length:=by rw[h.len];exact hc
 have v: ∀m,m<c->m<g.length/\(g.getD m dF).2.1=(F.getD m dF).2.1:=fun m s=>by
  refine⟨by omega, ?_⟩;rw[pI,pI (F:=F) (by omega)];rcases hF with e|e
  .rw[e,getD_take s]
  .rw[e,List.getD_eq_getElem?_getD,List.getElem?_append_left (by simp;omega),<-List.getD_eq_getElem?_getD,getD_take s]
 have G:c<g.length->(g.getD c dF).2.1=k:=fun s=>by
  rcases hF with e|e
  .have:g.length=(g.map (·.2.1)).length:=(aK ..).symm;rw[e]at this;simp at this;omega
  .rw[pI s,e,List.getD_eq_getElem?_getD,List.getElem?_append_right (by simp;omega)];simp[Nat.min_eq_left hc]
 have I: ∀m,m<F.length->(F.getD m dF).2.1<k:=fun m s=>by
  rw[<-(h.frm m (by rw[h.len];exact s)).1];exact h.lt _ (h.nn m (by rw[h.len];exact s)).2
 obtain⟨Z,s2,s3⟩:=PG g k H c (fun n o=>(h.nn n o).1) H.length L aG (af _) (fun m s=>(h.nn m s).2)
  (fun m s=>⟨(v m s).1,(v m s).2.trans (h.frm m (by omega)).1.symm⟩)
  (fun m aW O ⟨B,y⟩=>by
   have s:m=c:=by omega
   subst s;rw[G (by omega),(h.frm m O).1]at y;have:=I m (by rw[<-h.len];exact O);omega)
 rw[List.take_length]at Z s2 s3;have ae:=(Ju g k H.length L H).1;have z:(H.take c).length=c:=by rw[List.length_take];omega
 have A: ∀m,m<c->(H.take c).getD m 0=H.getD m 0:=fun m s=>getD_take s;obtain⟨m1,m2⟩:=OD g (H.take c) (fun m n s o e=>by
   rw[z]at s o;rw[A m s,A n o]at e;exact h.hd m n (by omega) (by omega) e) c 0 (mW g k H.length L H).1 (by omega) (fun m s=>by
   rw[z]at s;rw[A m s,ae];exact(h.nn m (by omega)).2)
 have an:=Jd g (H.take c) c 0 (mW g k H.length L H).1;have aH: ∀j,j<L.length->dB (x8 g (H.take c) c 0 (mW g k H.length L H).1) dP j=lJ g k (dB L dP j):=fun j u=>by
  unfold lJ;have W: ∀m n,m<g.length->n<g.length->(g.getD m dF).2.1=(g.getD n dF).2.1->m=n:=fun m n s o e=>by
   rcases aF m c with q|q<;>rcases aF n c with x|x
   .rw[(v m q).2,(v n x).2]at e;exact h.fd m n (by omega) (by omega) e
   .have:n=c:=by omega
    subst this;rw[(v m q).2,G o]at e;have:=I m (by omega);omega
   .have:m=c:=by omega
    subst this;rw[(v n x).2,G s]at e;have:=I n (by omega);omega
   .omega
  by_cases D:(dB L dP j).2.2.2.2.1=true
  .rw[am D];obtain⟨n,o,J⟩:=h.opn j D;have ag:=(h.frm n o).1;rw[J]at ag;rcases aF n c with K|K
   .have e:=m1 n (by omega) (by omega);rw[A n K,J]at e;rw[e,s3 j (fun m s O S=>by have:=h.hd m n O o (S.trans J.symm);omega),ag,<-(v n K).2,NM W (v n K).1]
   .rw[m2 j (fun m _ s S=>by rw[A m (by omega)]at S;have:=h.hd m n (by omega) o (S.trans J.symm);omega),s2 j ⟨n,K,o,J⟩,EQ];intro m s e;rw[ag]at e;rcases aF m c with q|q
    .rw[(v m q).2]at e;have:=h.fd m n (by omega) (by rw[<-h.len];exact o) e;omega
    .have:m=c:=by omega
     subst this;rw[G s]at e;have:=I n (by rw[<-h.len];exact o);omega
  .rw[ap D];have ao: ∀m,m<H.length->(H.getD m 0).toNat≠j:=fun m s e=>D (by rw[<-e];exact(h.frm m s).2);rw[m2 j (fun m _ s S=>ao m (by omega) (by rw[<-A m (by omega)];exact S)),s3 j (fun m _ s=>ao m s)]
 have aJ:x8 g (H.take c) c 0 (mW g k H.length L H).1=L.map (lJ g k):=arh (d:=dP) (by rw[an,ae,aK]) fun j u=>by
  rw[an,ae]at u;rw[aH j u,lC (l:=L.map _) (by rw[aK];exact u),List.getElem_map,lC u]
 have E: ∀p,(lJ g k p).2.1=p.2.1:=fun p=>by
  unfold lJ;split
  .split<;>rfl
  .rfl
 have au:(Xt L H g k)=if g.length=c then(L.map (lJ g k),H.take c)else
   (L.map (lJ g k)++[(counts (g.getD c dF).1,((g.getD c dF).2.1,(0,((if c=0 then-1 else(H.take c).getD (c-1) 0),(true,())))))],H.take c++[(L.length:Int)]):=by
  unfold Xt;simp only[Z,z,aJ,aK]
 have aO: ∀p,(lJ g k p).2.2.2.2.1=true->p.2.2.2.2.1=true/\ ∃m,D7 g p.2.1=some m:=fun p U=>by
  unfold lJ at U;split at U
  .rename_i D
   split at U
   .rename_i m s;exact⟨D,m,s⟩
   .cases U
  .rename_i D;exact absurd U D
 have W: ∀m n,m<g.length->n<g.length->(g.getD m dF).2.1=(g.getD n dF).2.1->m=n:=fun m n s o e=>by
  rcases aF m c with q|q<;>rcases aF n c with x|x
  .rw[(v m q).2,(v n x).2]at e;exact h.fd m n (by omega) (by omega) e
  .have:n=c:=by omega
   subst this;rw[(v m q).2,G o]at e;have:=I m (by omega);omega
  .have:m=c:=by omega
   subst this;rw[(v n x).2,G s]at e;have:=I n (by omega);omega
  .omega
 have V: ∀j,j<L.length->dB (L.map (lJ g k)) dP j=lJ g k (dB L dP j):=fun j u=>by
  rw[lC (l:=L.map _) (by rw[aK];exact u),List.getElem_map,lC u]
 have av:J5 g k L=L.map (lJ g k)++if Vb g k=true then [wU g k (L.map (·.2.1))]else []:=rfl
 have aw: ∀n,n<c->(lJ g k (dB L dP (H.getD n 0).toNat)).2.1=(g.getD n dF).2.1/\(lJ g k (dB L dP (H.getD n 0).toNat)).2.2.2.2.1=true:=fun n o=>by
  have M:=h.frm n (by omega);refine⟨by rw[E,M.1,(v n o).2], ?_⟩;unfold lJ;rw[am M.2,M.1,<-(v n o).2,NM W (v n o).1];exact M.2
 have ax: ∀j,j<L.length->(lJ g k (dB L dP j)).2.2.2.2.1=true-> ∃n,n<c/\(H.getD n 0).toNat=j:=fun j u D=>by
  obtain⟨q,m,s⟩:=aO _ D;obtain⟨n,o,J⟩:=h.opn j q;have M:=(h.frm n o).1;rw[J]at M;rcases aF n c with K|K
  .exact⟨n,K,J⟩
  .rw[M,EQ]at s
   .cases s
   .intro m O e;rcases aF m c with q|q
    .rw[(v m q).2]at e;have:=h.fd m n (by omega) (by rw[<-h.len];exact o) e;omega
    .have:m=c:=by omega
     subst this;rw[G O]at e;have:=I n (by rw[<-h.len];exact o);omega
 have ay: ∀{l:List jQ} {j:Nat},(dB l dP j).2.2.2.2.1=true->j<l.length:=fun {l j} u=>by
  rcases aF j l.length with q|q
  .exact q
  .rw[afm q]at u;cases u
 refine⟨by rw[Z,z];omega,by rw[Z,z];omega, ?_⟩;by_cases e:g.length=c
 .have ah:Vb g k=false:=by
   unfold Vb;cases B:g.getLast? with
   |none=>rfl
   |some f=>
    have aP:g≠[]:=by rintro rfl;cases B
    have U:0<g.length:=List.length_pos_iff.2 aP;have:g.getD (c-1) dF=f:=by
     rw[List.getLast?_eq_getElem?,e]at B;rw[List.getD_eq_getElem?_getD,B];rfl
    have x:=(v (c-1) (by omega)).2;rw[this]at x;have:=I (c-1) (by omega);exact decide_eq_false (by omega)
  rw[au,am e,av,ah];refine⟨by simp, ?_⟩;exact {
   len:=by rw[z,e]
   nn:=fun n o=>by rw[z]at o;rw[A n o,aK];exact h.nn n (by omega)
   frm:=fun n o=>by
    rw[z]at o;rw[A n o,V _ (h.nn n (by omega)).2];exact aw n o
   opn:=fun j u=>by
    have B:=ay u;rw[aK]at B;rw[V j B]at u;obtain⟨n,o,y⟩:=ax j B u;exact⟨n,by rw[z];exact o,by rw[A n o];exact y⟩
   lt:=fun j u=>by
    rw[aK]at u;rw[V j u,E];have:=h.lt j u;omega
   inj:=fun i j X u y=>by
    rw[aK]at X u;rw[V i X,V j u,E,E]at y;exact h.inj i j X u y
   fd:=W}
 .have az:g.length=c+1:=by omega
  have aA:g.getLast?=some (g.getD c dF):=by
   rw[List.getLast?_eq_getElem?,az,List.getD_eq_getElem?_getD,show c+1-1=c by omega,List.getElem?_eq_getElem (by omega)];rfl
  have aQ:g.getLastD dF=g.getD c dF:=by rw[List.getLastD_eq_getLast?,aA];rfl
  have ai:=G (by omega);have ah:Vb g k=true:=by unfold Vb;rw[aA];exact decide_eq_true ai
  have aS:(if c=0 then-1 else(H.take c).getD (c-1) 0)=(if g.length=1 then-1 else amq (L.map (·.2.1)) (g.getD (g.length-2) dF).2.1):=by
   by_cases c0:c=0
   .rw[am c0,am (by omega)]
   .have o:=h.nn (c-1) (by omega);rw[ap c0,ap (by omega),A _ (by omega),show g.length-2=c-1 by omega,(v (c-1) (by omega)).2,<-(h.frm (c-1) (by omega)).1,Y8 h.inj o.2];omega
  have aU:(counts (g.getD c dF).1,((g.getD c dF).2.1,((0:Int),((if c=0 then-1 else(H.take c).getD (c-1) 0),(true,())))))=wU g k (L.map (·.2.1)):=by
   unfold wU;rw[aS,aQ,ai]
  rw[au,ap e,av,ah,aU];refine⟨by simp, ?_⟩;have ab:(L.map (lJ g k)++[wU g k (L.map (·.2.1))]).length=L.length+1:=by simp
  have N: ∀j,j<L.length->dB (L.map (lJ g k)++[wU g k (L.map (·.2.1))]) dP j=lJ g k (dB L dP j):=fun j u=>by
   rw[<-V j u];unfold dB;rw[List.getD_eq_getElem?_getD,List.getD_eq_getElem?_getD,List.getElem?_append_left (by rw[aK];exact u)]
  have ad:dB (L.map (lJ g k)++[wU g k (L.map (·.2.1))]) dP L.length=wU g k (L.map (·.2.1)):=by
   unfold dB;rw[List.getD_eq_getElem?_getD,List.getElem?_append_right (by simp)];simp
  have aj: ∀n,n<c->(H.take c++[(L.length:Int)]).getD n 0=H.getD n 0:=fun n o=>by
   rw[<-A n o,List.getD_eq_getElem?_getD,List.getD_eq_getElem?_getD,List.getElem?_append_left (by rw[z];exact o)]
  have ak:(H.take c++[(L.length:Int)]).getD c 0=L.length:=by
   rw[List.getD_eq_getElem?_getD,List.getElem?_append_right (by rw[z];omega)];simp[z]
  have Y:(H.take c++[(L.length:Int)]).length=c+1:=by rw[aI,z];rfl
  have aB: ∀n,n<c+1->n<c\/n=c:=fun n o=>by omega
  have al:(wU g k (L.map (·.2.1))).2.1=k:=rfl;exact {
   len:=by rw[Y,az]
   nn:=fun n o=>by
    rw[Y]at o;rw[ab];rcases aB n o with q|rfl
    .rw[aj n q];have:=h.nn n (by omega);omega
    .rw[ak];omega
   frm:=fun n o=>by
    rw[Y]at o;rcases aB n o with q|rfl
    .rw[aj n q,N _ (h.nn n (by omega)).2];exact aw n q
    .rw[ak,Int.toNat_natCast,ad];exact⟨ai.symm,rfl⟩
   opn:=fun j u=>by
    have B:=ay u;rw[ab]at B;rcases aF j L.length with q|q
    .rw[N j q]at u;obtain⟨n,o,y⟩:=ax j q u;exact⟨n,by rw[Y];omega,by rw[aj n o];exact y⟩
    .exact⟨c,by rw[Y];omega,by rw[ak];omega⟩
   lt:=fun j u=>by
    rw[ab]at u;rcases aF j L.length with q|q
    .rw[N j q,E];have:=h.lt j q;omega
    .rw[show j=L.length by omega,ad,al];omega
   inj:=fun i j X u y=>by
    rw[ab]at X u;rcases aF i L.length with q|q<;>rcases aF j L.length with x|x
    .rw[N i q,N j x,E,E]at y;exact h.inj i j q x y
    .rw[N i q,E,show j=L.length by omega,ad,al]at y;have:=h.lt i q;omega
    .rw[N j x,E,show i=L.length by omega,ad,al]at y;have:=h.lt j x;omega
    .omega
   fd:=W}
end
section
open Bool renaming and_true → aH
open List renaming drop_eq_getElem_cons → au, drop_zero → ay, length_map → aK, eq_nil_of_length_eq_zero → bi
open Go.RowKit
def pV:bQ->Int->fB×Bool->List jQ->List jQ
 |[],_,_,L=>L
 |b::l,a,x,L=>pV l (a+1) (fE x.1 x.2 (jd b) a) (J5 (nK (fE x.1 x.2 (jd b) a).1) a L)
def qR (s:bQ) (p:jQ):jQ:=if p.1=12 then(p.1,p.2.1,p.2.1+1+((prl (s.drop (p.2.1+1).toNat):Nat):Int),p.2.2.2.1,false,())else if p.2.2.2.2.1=true then(p.1,p.2.1,(s.length:Int),p.2.2.2.1,true,())else p
def bU (s:bQ):List jQ:=(pV s 0 eQ []).map (qR s)
theorem ah2 (F:List D6) (a:Int) (L:List jQ):(J5 F a L).length<=L.length+1:=by
 grind [J5]
theorem GV (s:fB):(nK s).length<=s.length:=by simp[nK]
theorem aq2 {l:List D6} (h:l.length<1000000):l9 l=some (l,()):=by
 grind [l9,pq,dN,kF]
theorem aqG (s:bQ) (u:s.length<=100000): ∀(N:Nat) (i:Int) (x:fB×Bool) (L:List jQ) (H:List Int),(s.length:Int)-i<N->0<=i->i<=s.length->gK x.1->(x.1.length:Int)<=i+1->Inv L H (nK x.1) i->(L.length:Int)<=i->
  ∃g o,G9 N s (bD s) i x.2 i (lo x.1) H L=some (.inl ((s,()),(g,pV (s.drop i.toNat) i x L,(),())))/\Inv (pV (s.drop i.toNat) i x L) g o s.length/\(pV (s.drop i.toNat) i x L).length<=s.length
 |0,i,x,L,H,h,_,_,_,_,_,_=>by omega
 |N+1,i,x,L,H,h,f,B,l,D,m,E=>by
  rw[G9,MC];by_cases e:i<s.length
  .obtain⟨b,hd,G⟩:=drop_at f e;have d:=good_step l x.2 (bK s i) i;have I:(lo (fE x.1 x.2 (bK s i) i).1).length≠0:=by
    rw[mY];intro e;rw[bi e]at d;exact d.1
   obtain⟨c,p,q⟩:=Hy l x.2 (bK s i) i;rw[<-qx,<-qx]at q;rw[<-qx,aK]at p;obtain⟨v,y,J,K⟩:=aoY m p q;obtain⟨t,M⟩:=axa d.1;have O:=GV (fE x.1 x.2 (bK s i) i).1;have S:=GV x.1;have U:=m.len;have V:=aB9 (t:=t) (L:=L) (H:=H) (F:=nK (fE x.1 x.2 (bK s i) i).1) (a:=i) f (by omega) (by have:=d.2;omega) (by omega) (by omega)
    (fun j z=>by
     obtain⟨n,A,W⟩:=List.getElem_of_mem z;have:=m.nn n A
     grind) v y
   have X:=ah2 (nK (fE x.1 x.2 (bK s i) i).1) i L;obtain⟨g,o,Y,Z,r3⟩:=aqG s u N (i+1) (fE x.1 x.2 (bK s i) i) (J5 (nK (fE x.1 x.2 (bK s i) i).1) i L) (Xt L H (nK (fE x.1 x.2 (bK s i) i).1) i).2 (by omega) (by omega) (by omega) d.1 (by have:=d.2;omega) (by simp_all) (by omega);rw[bM (eU (b:=bD s) e),bM (dV f e),abo l (by omega) x.2 (kN s i) f (by omega),bu];simp only[pst];rw[dD (dX (by rw[bF];omega)),aq2 (by grind),bu]
   grind [bu,dA,pV]
  .have ab:i=s.length:=by omega
   rw[dD (gX (b:=bD s) (by rw[bF];omega)),Gt,pV]
   grind
theorem auu (s:bQ) (o:s.length<=100000) (H:List Int): ∀(N i:Nat) (L:List jQ),L.length-i<N->i<=L.length->L.length<1000000->(∀j,j<L.length->0<=(dB L dP j).2.1/\(dB L dP j).2.1<s.length)->
  xY N s (bD L) (i:Int) H L=some (.inl ((),(H,L.take i++(L.drop i).map (qR s),(),())))
 |0,i,L,h,_,_,_=>by omega
 |N+1,i,L,h,B,p,q=>by
  (rewrite [xY,Ih];delta eu iT dU)
  by_cases e:i<L.length
  .have D:lN (dh (i:Int)) L=true:=mV (by assumption);have u:fV L (i:Int)=true:=dV;have v:dh (i:Int)=i:=by simp[dh]
   have iH: ∀x,dB (ig L i x) (0,(0,(0,(0,(false,()))))) i=x:=fun x=>Hq e;have y:lN i L=true:=by assumption
   have E:=q i e;have g:Rw s (bZ .i64 (dB L (0,(0,(0,(0,(false,()))))) i).2.1 1)=some (((prl (s.drop ((dB L dP i).2.1+1).toNat):Nat):Int),()):=by
    grind [dA,dP,aqM]
   have l:bZ .i64 (bZ .i64 (dB L (0,(0,(0,(0,(false,()))))) i).2.1 1) ((prl (s.drop ((dB L dP i).2.1+1).toNat):Nat):Int)=(dB L dP i).2.1+1+((prl (s.drop ((dB L dP i).2.1+1).toNat):Nat):Int):=by
    grind [adm,dP,dA]
   have z:bZ .i64 (i:Int) 1=((i+1:Nat):Int):=by grind [dA]
   have go: ∀x,x=qR s (dB L dP i)->xY N s (bD L) ((i+1:Nat):Int) H (ig L i x)=some (.inl ((),(H,L.take i++(L.drop i).map (qR s),(),()))):=fun x G=>by
    have I:(qR s (dB L dP i)).2.1=(dB L dP i).2.1:=by
     grind [qR]
    have m:=auu s o H N (i+1) (ig L i x) (by rw[sS];omega) (by rw[sS];omega) (by rw[sS];exact p) (fun j J=>by
     grind [ig,Hq,Fa])
    have A:bD (ig L i x)=bD L:=by rw[bF,bF,sS]
    rw[A]at m;rw[m];congr 4;have K:(ig L i x).take (i+1)=L.take i++[x]:=by
     simp_all [ig,List.take_add_one,List.take_set_of_le]
    grind [ig,List.drop_set_of_lt,au,lC]
   rw[bM (eU (by rw[bF];omega))];simp only[v,u,y,afk,iH,aai,aa,YM,aH,z];by_cases ho:(dB L dP i).2.2.2.2.1=true
   .have f:(dB L (0,(0,(0,(0,(false,()))))) i).2.2.2.2.1=true:=ho;rw[f,aa];by_cases hm:(dB L dP i).1=12
    .have d:(dB L (0,(0,(0,(0,(false,()))))) i).1=12:=hm;rw[d,bM (fU rfl),g,bu];simp only[l];refine go _ ?_;unfold qR;rw[am hm,hm];rfl
    .have d: ¬(dB L (0,(0,(0,(0,(false,()))))) i).1=12:=hm;rw[dD (dX d)];refine go _ ?_;unfold qR;rw[ap hm,am ho];rfl
   .have f:(dB L (0,(0,(0,(0,(false,()))))) i).2.2.2.2.1=false:=Bool.eq_false_iff.2 ho;rw[f,ac];by_cases hm:(dB L dP i).1=12
    .have d:(dB L (0,(0,(0,(0,(false,()))))) i).1=12:=hm;rw[d,bM (fU rfl),g,bu];simp only[l];refine go _ ?_;unfold qR;rw[am hm,hm];rfl
    .have d: ¬(dB L (0,(0,(0,(0,(false,()))))) i).1=12:=hm;rw[dD (dX d)];simp_all [ig,lC,qR]
  .have M:i=L.length:=by omega
   simp_all [iG,bF]
theorem ah8:Inv [] [] (nK eQ.1) 0:={
 len:=rfl
 nn:=fun n e=>by cases e
 frm:=fun n e=>by cases e
 opn:=fun j d=>by rw[afm (by simp)]at d;cases d
 lt:=fun j d=>by cases d
 inj:=fun i j f=>by cases f
 fd:=fun m n g=>by cases g}
theorem SG: ∀(l:bQ) (a:Int) (x:fB×Bool) (L:List jQ),0<=a->(∀p∈L,0<=p.2.1)-> ∀p∈pV l a x L,0<=p.2.1
 |[],a,x,L,f,h,p,d=>h p d
 |b::l,a,x,L,f,h,p,d=>by
  rw[pV]at d;refine SG l (a+1) _ _ (by omega) (fun p d=> ?_) p d;unfold J5 at d;rcases List.mem_append.1 d with e|e
  .obtain⟨q,g,rfl⟩:=List.mem_map.1 e;have:(lJ (nK (fE x.1 x.2 (jd b) a).1) a q).2.1=q.2.1:=by
    unfold lJ;split
    .split<;>rfl
    .rfl
   grind
  .split at e
   .rw[List.mem_singleton.1 e];exact f
   .cases e
theorem aDt (s:bQ) (d:s.length<=100000):aeo s=some (bU s,()):=by
 obtain⟨f,m,g,e,h⟩:=aqG s d bG 0 eQ [] [] (by have:=JR (n:=s.length) (by omega);omega) (by omega) (by omega) jL (by simp[eQ]) ah8 (by simp);unfold aeo;rw[show([(0,(0,()))]:List lZ)=lo eQ.1 from rfl,show(true:Bool)=eQ.2 from rfl,g,bu];simp only[dL,Int.toNat_zero,ay]at e h ⊢;have o:=SG s 0 eQ [] (by omega) (fun p i=>by cases i);have q:=auu s d f bG 0 (pV s 0 eQ []) (JR) (by omega) (by omega) (fun j l=>by
  refine⟨?_,e.lt j l⟩
  grind [lC])
 grind [bu,bU]
end
section
open Option renaming some → a6, none → a7
open List renaming map_cons → aj, drop_eq_getElem_cons → au, append_assoc → ax, drop_of_length_le → aB, nil_append → aO, mem_of_mem_take → aW
open Go.RowKit
def uy:bQ->Int->fB×Bool->jQ->jQ
 |[],_,_,p=>p
 |b::l,a,x,p=>uy l (a+1) (fE x.1 x.2 (jd b) a) (lJ (nK (fE x.1 x.2 (jd b) a).1) a p)
def qL:bQ->Int->fB×Bool->List Int->List jQ
 |[],_,_,_=>[]
 |b::l,a,x,d=>
  if Vb (nK (fE x.1 x.2 (jd b) a).1) a=true then uy l (a+1) (fE x.1 x.2 (jd b) a) (wU (nK (fE x.1 x.2 (jd b) a).1) a d)::qL l (a+1) (fE x.1 x.2 (jd b) a) (d++[a])
  else qL l (a+1) (fE x.1 x.2 (jd b) a) d
theorem TG (F:List D6) (a:Int) (p:jQ):(lJ F a p).2.1=p.2.1:=by
 unfold lJ;split
 .split<;>rfl
 .rfl
theorem Cj: ∀(l:bQ) (a:Int) (x:fB×Bool) (p:jQ),(uy l a x p).2.1=p.2.1
 |[],_,_,_=>rfl
 |b::l,a,x,p=>by rw[uy,Cj l,TG]
theorem Rn (s:bQ) (p:jQ):(qR s p).2.1=p.2.1:=by
 grind [qR]
theorem Rl: ∀(l:bQ) (a:Int) (x:fB×Bool) (p:jQ),p.2.2.2.2.1=false->uy l a x p=p
 |[],_,_,_,_=>rfl
 |b::l,a,x,p,h=>by
  rw[uy];have:lJ (nK (fE x.1 x.2 (jd b) a).1) a p=p:=by grind [lJ]
  rw[this];exact Rl l _ _ p h
theorem OY: ∀(l:bQ) (a:Int) (x:fB×Bool) (L:List jQ),pV l a x L=L.map (uy l a x)++qL l a x (L.map (·.2.1))
 |[],a,x,L=>by
  have:(uy [] a x)=id:=rfl;rw[pV,qL,this];simp
 |b::l,a,x,L=>by
  rw[pV,OY l,qL];have d:L.map (uy (b::l) a x)=(L.map (lJ (nK (fE x.1 x.2 (jd b) a).1) a)).map (uy l (a+1) (fE x.1 x.2 (jd b) a)):=by
   rw[List.map_map];rfl
  have e:(L.map (lJ (nK (fE x.1 x.2 (jd b) a).1) a)).map (·.2.1)=L.map (·.2.1):=by
   simp_all [TG]
  unfold J5;rw[d];split
  .rw[List.map_append,List.map_append,e];simp only[aj,List.map_nil,ax,List.cons_append,aO];rfl
  grind
theorem vW (s:bQ):bU s=(qL s 0 eQ []).map (qR s):=by
 unfold bU;rw[OY];rfl
structure PL (x:fB) (i:Int):Prop where
 up:(Ac x).Pairwise (· < ·)
 lt: ∀v∈Ac x,v<i
theorem aod:PL eQ.1 0:=⟨List.Pairwise.nil,fun v d=>by cases d⟩
theorem atl {s:fB} {i:Int} (g:gK s) (h:PL s i) (fr:Bool) (b:Int):PL (fE s fr b i).1 (i+1):=by
 obtain⟨c,m,e|e⟩:=Hy g fr b i
 .refine⟨by rw[e];exact h.up.sublist (List.take_sublist ..),fun v d=> ?_⟩;rw[e]at d;have:=h.lt v (aW d);omega
 .refine⟨?_,fun v d=> ?_⟩
  .rw[e,List.pairwise_append];refine⟨h.up.sublist (List.take_sublist ..),List.pairwise_singleton ..,fun a j b l=> ?_⟩;rw[List.mem_singleton.1 l];exact h.lt a (aW j)
  .rw[e]at d;rcases List.mem_append.1 d with f|f
   .have:=h.lt v (aW f);omega
   grind
theorem Ym {l:List Int} (h:l.Pairwise (· < ·)) {m n:Nat} {v:Int} (d:l[m]? =a6 v) (e:l[n]? =a6 v):m=n:=by
 grind [List.pairwise_iff_getElem]
theorem arj {l:List Int} (h:l.Pairwise (· < ·)) {n:Nat} {v:Int} (d:l[n]? =a6 v):l.findIdx? (· ==v)=a6 n:=by
 obtain⟨e,f⟩:=List.getElem?_eq_some_iff.1 d;cases hf:l.findIdx? (· ==v)with
 |none=>
  simp_all
 |some m=>
  obtain⟨g,i,_⟩:=List.findIdx?_eq_some_iff_getElem.1 hf;have:l[m]? =a6 v:=by simp_all
  rw[Ym h this d]
theorem stay {s:fB} {i v:Int} {n:Nat} (l:gK s) (h:PL s i) (f:(Ac s)[n]? =a6 v) (fr:Bool) (b:Int):(Ac (fE s fr b i).1)[n]? =a6 v\/v∉Ac (fE s fr b i).1:=by
 have p:=h.lt v (List.mem_of_getElem? f);obtain⟨c,q,e|e⟩:=Hy l fr b i<;>rw[e]
 .by_cases hnc:n<c
  .grind
  .right;intro g;obtain⟨m,d⟩:=List.getElem?_of_mem g;rw[List.getElem?_take]at d;split at d
   .rename_i o
    have:=Ym h.up d f;omega
   .cases d
 .have u:((Ac s).take c).length=c:=by simp_all
  by_cases hnc:n<c
  .grind
  .right;intro g;rcases List.mem_append.1 g with j|j
   .obtain⟨m,d⟩:=List.getElem?_of_mem j;rw[List.getElem?_take]at d;split at d
    .rename_i o
     have:=Ym h.up d f;omega
    .cases d
   simp_all
def atM (s:fB) (v:Int):Int:=match(Ac s).findIdx? (· ==v)with
 |some n=>((n+1:Nat):Int)
 |none=>0
theorem aog {s:fB} (d:gK s): ∃t,po s=t::Ac s:=by
 have e:s≠[]:=by rintro rfl;exact d
 grind [List.dropLast_concat_getLast,po,Ac]
theorem ayM {s:fB} (e:gK s): ∃t,so s=t::(nK s).map fun f=>letter f.1:=by
 have d:s≠[]:=by rintro rfl;exact e
 refine⟨letter (s.getLast d).1, ?_⟩
 conv=>lhs;rw[<-List.dropLast_concat_getLast d]
 simp[so,nK,List.map_reverse];rfl
theorem adP (v:Int) (S:bQ) (P:List Int) (fr:Bool) (d:P.length<1000000): ∀(N j:Nat),P.length-j<N->
  CZ N v (j:Int) S P fr=a6 (match(P.drop j).findIdx? (· ==v)with|some n=>.inr ((((j+n:Nat):Int),()),())|none=>.inl ((),()))
 |0,j,h=>by omega
 |N+1,j,h=>by
  rw[CZ,Me];by_cases e:j<P.length
  .have f:gu P 0 (j:Int)=P[j]:=by simp_all [gu]
   rw[bM (eU (by rw[bF];omega)),bM (dV),f,au e,List.findIdx?_cons,gZ];by_cases e2:P[j]=v
   .simp[e2]
   .rw[dA,show(j:Int)+1=((j+1:Nat):Int) by omega,adP v S P fr d N (j+1) (by omega)]
    grind
  simp_all [iG,bF,aB]
theorem awh {s:fB} (d:gK s) (hl:s.length<900000) (fr:Bool) (v:Int):YV (so s,(po s,(fr,()))) v=a6 (atM s v,()):=by
 unfold YV;obtain⟨t,e⟩:=aog d;have h:=adP v (so s) (po s) fr (by rw[O4];omega) bG 1 (dK (by rw[O4];omega));rw[show CZ bG v 1 (so s) (po s) fr=_ from h,bu,e]
 grind [atM,dL]
theorem anO: ∀n:Fin 15,aek ((letter ((n.val:Nat):Int)).toNat:Int)=a6 (counts ((n.val:Nat):Int),()):=by decide+kernel
theorem ax2 {m:Int} (d:0<=m) (e:m<=14):aek ((letter m).toNat:Int)=a6 (counts m,()):=by
 have:=anO ⟨m.toNat,by omega⟩
 grind
theorem ER: ∀{s:fB},gK s-> ∀f∈s,0<=f.1/\f.1<=14
 |[],h=>by cases h
 |[f],h=>by
  intro g d;rw[List.mem_singleton.1 d];have:f.1=0:=h;omega
 |f::g::r,h=>by
  intro q e;rcases List.mem_cons.1 e with rfl|i
  .have:=h.1;have:=h.2.1;omega
  .exact ER h.2.2.2 q i
theorem ahW {s:fB} (e:gK s) {n:Nat} (h:n<(nK s).length):0<=((nK s).getD n dF).1/\((nK s).getD n dF).1<=14:=by
 have d:(nK s).getD n dF∈nK s:=by simp_all
 generalize (nK s).getD n dF=q at d;unfold nK at d;rw[List.mem_reverse,List.mem_map]at d;obtain⟨f,g,rfl⟩:=d;exact ER e f (List.dropLast_subset s g)
theorem aCb {s:fB} (d:gK s) {n:Nat} (e:n<(nK s).length):bK (so s) ((n+1:Nat):Int)=((letter ((nK s).getD n dF).1).toNat:Int)/\fV (so s) ((n+1:Nat):Int)=true:=by
 grind [ayM,dV,bK]
theorem J3 (s:fB):(nK s).length=(Ac s).length:=by grind [qx]
theorem amf {s:fB} {n:Nat} {v:Int} (h:(Ac s)[n]? =a6 v):((nK s).getD n dF).2.1=v/\n<(nK s).length:=by
 grind [qx]
theorem awS {s:fB} {i:Int} (h:PL s i): ∀m n,m<(nK s).length->n<(nK s).length->((nK s).getD m dF).2.1=((nK s).getD n dF).2.1->m=n:=fun m n d f e=>by
 rw[pI d,pI f,qx]at e;rw[J3]at d f;rw[List.getD_eq_getElem?_getD,List.getD_eq_getElem?_getD,List.getElem?_eq_getElem d,List.getElem?_eq_getElem f]at e;exact Ym h.up (List.getElem?_eq_getElem d) (by simp_all)
theorem alR {s:fB} {i v:Int} {n:Nat} (h:PL s i) (d:(Ac s)[n]? =a6 v):D7 (nK s) v=a6 ((nK s).getD n dF).1:=by
 grind [amf,NM,awS]
theorem alQ {s:fB} {v:Int} (h:v∉Ac s):D7 (nK s) v=a7:=by
 grind [EQ,qx]
theorem ajG {s:fB} {i v:Int} {n:Nat} (h:PL s i) (d:(Ac s)[n]? =a6 v):atM s v=((n+1:Nat):Int):=by
 unfold atM;rw[arj h.up d]
theorem ajH {s:fB} {v:Int} (h:v∉Ac s):atM s v=0:=by
 grind [atM]
def iF (s:bQ) (k:Nat):fB×Bool:=lH (s.take k) 0 eQ
theorem aab: ∀(l m:bQ) (a:Int) (x:fB×Bool),lH (l++m) a x=lH m (a+l.length) (lH l a x)
 |[],m,a,x=>by simp[lH]
 |b::l,m,a,x=>by
  rw[List.cons_append,lH,lH,aab l m]
  grind
theorem DF {s:List UInt8} {k:Nat} (h:k<s.length):iF s (k+1)=fE (iF s k).1 (iF s k).2 (bK s k) k:=by
 unfold iF;rw[List.take_add_one,List.getElem?_eq_getElem h,Option.toList_some,aab,lH,lH,byte_at h,List.length_take,Nat.min_eq_left (by omega)];simp[jd]
theorem uh (s:bQ) (k:Nat):gK (iF s k).1/\(iF s k).1.length<=k+1:=by
 have h:=AC (s.take k) 0 eQ jL;refine⟨h.1, ?_⟩;have d:=h.2;have:eQ.1.length=1:=rfl
 grind [iF]
theorem Ik (s:bQ): ∀k,k<=s.length->PL (iF s k).1 k
 |0,_=>aod
 |k+1,h=>by
  rw[DF (by omega)];have:=atl (uh s k).1 (Ik s k (by omega)) (iF s k).2 (bK s k);simpa using this
end
section
open Option renaming some → a6, none → a7
open Bool renaming false_eq_true → ah
open List renaming map_cons → aj, drop_eq_getElem_cons → au, append_assoc → ax, drop_zero → ay, drop_of_length_le → aB, length_append → aI, length_cons → aJ, length_map → aK, nil_append → aO, length_drop → aQ, mem_of_mem_take → aW, mem_append_right → bg
open Nat renaming le_refl → af, lt_or_ge → aF
open Go.RowKit
abbrev RSt:=List UInt8×(List Int×nH)
def dS:RSt:=([],([],(false,())))
def qJ (s:bQ) (n:Nat):List RSt:=(List.range n).map fun k=>Ep (iF s k)
theorem oH (s:bQ) (n:Nat):(qJ s n).length=n:=by simp[qJ]
theorem Gh (s:bQ) {n k:Nat} (h:k<n):dB (qJ s n) dS k=Ep (iF s k):=by
 simp_all [lC,qJ]
theorem Yu (s:bQ) (d:s.length<=100000): ∀(N k:Nat),s.length-k<N->k<=s.length->
  CW N s (k:Int) (qJ s (k+1))=a6 (.inl ((s,()),(qJ s (s.length+1),())))
 |0,k,h,_=>by omega
 |N+1,k,h,hk=>by
  rw[CW,LZ];by_cases e:k<s.length
  .have j:=uh s k;have f:dB (qJ s (k+1)) ([],([],(false,()))) (dh (k:Int))=Ep (iF s k):=by
    rw[show dh (k:Int)=k from rfl];exact Gh s (by omega)
   have g:abB (so (iF s k).1,(po (iF s k).1,((iF s k).2,()))) (bK s (k:Int)) (k:Int)=a6 (Ep (iF s (k+1)),()):=by
    grind [DF,abp,kN]
   have i:bP (qJ s (k+1)) [Ep (iF s (k+1))]=qJ s (k+2):=by
    simp_all [bP,qJ,List.range_succ]
   rw[bM (eU (by rw[bF];omega)),bM (dV (by omega) (by rw[oH];omega)),bM (dV),bM (mV (by simp_all [oH,dh])),f];simp only[Ep];rw[g,bu];simp only;rw[i,bM (by grind [dN,oH,kF]),dA,show(k:Int)+1=((k+1:Nat):Int) by omega];exact Yu s d N (k+1) (by omega) (by omega)
  .rw[dD (iG (by rw[bF];omega)),show k=s.length by omega]
theorem agY (s:bQ) (A:List RSt) (out:List jQ) (from_ n:Int) (P:List Int) (m f to_:Int) (d:Bool) (v:out.length<1000000) (x:n<1000000)
  (g:(dB A dS (dh (bZ .i64 from_ 1))).2.1=P) (i:fV A (bZ .i64 from_ 1)=true) (l:lN (dh (bZ .i64 from_ 1)) A=true) (o:1<n->fV P (ed .i64 n 1)=true)
  (j:Nat) (p:1<n->j<out.length/\(dB out dP j).2.1=gu P 0 (ed .i64 n 1)) (q: ∀a b,a<out.length->b<out.length->(dB out dP a).2.1=(dB out dP b).2.1->a=b):
  ∀(N k:Nat),out.length-k<N->k<=out.length->
  xX N s from_ n (k:Int) m f to_ (if 1<n/\j<k then(j:Int)else-1) d out A=a6 (.inl ((s,from_,n,()),((m,f,to_,(if 1<n then(j:Int)else-1),d,()),out,A,())))
 |0,k,h,_=>by omega
 |N+1,k,h,hk=>by
  rw[xX,Ie];by_cases e:k<out.length
  .have u:=agY s A out from_ n P m f to_ d v x g i l o j p q N (k+1) (by omega) (by omega);rw[bM (eU (by rw[bF];omega)),dA (a:=(k:Int)) (by omega) (by omega),show(k:Int)+1=((k+1:Nat):Int) by omega];by_cases e1:1<n
   .obtain⟨y,z⟩:=p e1;have B:(dB A ([],([],(false,()))) (dh (bZ .i64 from_ 1))).2.1=P:=g;rw[bM (eU e1),bM (dV),bM (mV (by assumption)),i,l,B,o e1];simp only[aa];by_cases e2:k=j
    .simp_all [dB,dh,fU]
    .have: ¬(dB out (0,(0,(0,(0,(false,()))))) (dh (k:Int))).2.1=gu P 0 (ed .i64 n 1):=fun D=>e2 (q k j e y (D.trans z.symm));rw[dD (dX this)]
     grind
   .rw[ap (fun h=>e1 h.1)]at u ⊢;rw[dD (iG e1)];exact u
  .rw[dD (iG (by rw[bF];omega))]
   grind
theorem Tf (s:bQ) (A:s.length<=100000) (out:List jQ) (f n:Nat) (d:Int): ∀(N k:Nat) (m:Int) (p:jQ),s.length+1-k<N->f<k->k<=s.length->
  (Ac (iF s k).1)[n]? =a6 (f:Int)->p.1=counts ((nK (iF s k).1).getD n dF).1->p.2.1=f->p.2.2.2.2.1=true->p.2.2.2.1=d->
  uK N s (f:Int) ((n+1:Nat):Int) (k:Int) m f (s.length:Int) d true out (qJ s (s.length+1))=
   a6 (.inl ((s,(f:Int),()),(((uy (s.drop k) k (iF s k) p).1,(f:Int),(if(uy (s.drop k) k (iF s k) p).2.2.2.2.1=true then(s.length:Int)else(uy (s.drop k) k (iF s k) p).2.2.1),d,(uy (s.drop k) k (iF s k) p).2.2.2.2.1,()),out,qJ s (s.length+1),())))
   /\(uy (s.drop k) k (iF s k) p).2.2.2.1=d
 |0,k,m,p,h,_,_,_,_,_,_,_=>by omega
 |N+1,k,m,p,h,X,hk,l,B,u,i,v=>by
  have j:=uh s k;have x:=Ik s k hk;obtain⟨Y,y⟩:=amf l;have D:dB (qJ s (s.length+1)) ([],([],(false,()))) (dh (k:Int))=Ep (iF s k):=by
   rw[show dh (k:Int)=k from rfl];exact Gh s (by omega)
  have E:fV (qJ s (s.length+1)) (k:Int)=true:=dV (by omega) (by rw[oH];omega);have G:lN (dh (k:Int)) (qJ s (s.length+1))=true:=mV (by grind [oH,dh]);obtain⟨I,J⟩:=aCb j.1 y;have z:=ahW j.1 y;rw[uK,yu,bM (nD (by rw[bF];omega)),E,G,D];simp only[aa,Ep];rw[awh j.1 (by omega),bu,ajG x l,dD (dX),J,I];simp only[aa];rw[ax2 z.1 z.2,bu,dA,show(k:Int)+1=((k+1:Nat):Int) by omega];simp only;by_cases e:k<s.length
  .have hd:s.drop k=s[k]::s.drop (k+1):=au e;have o:=DF e;have K:bK s (k:Int)=jd s[k]:=byte_at e;rw[K]at o;have L:=uh s (k+1);have M:=Ik s (k+1) (by omega);have O:uy (s.drop k) k (iF s k) p=uy (s.drop (k+1)) ((k+1:Nat):Int) (iF s (k+1)) (lJ (nK (iF s (k+1)).1) k p):=by
    grind [uy]
   rw[O];rcases stay j.1 x l (iF s k).2 (jd s[k])with h1|h1
   .rw[<-o]at h1;have q:lJ (nK (iF s (k+1)).1) k p=(counts ((nK (iF s (k+1)).1).getD n dF).1,p.2):=by
     unfold lJ;rw[am i,u,alR M h1]
    rw[q];exact Tf s A out f n d N (k+1) _ _ (by omega) (by omega) (by omega) h1 rfl u i v
   .rw[<-o]at h1;have q:lJ (nK (iF s (k+1)).1) k p=Ib (k+1) p:=by
     simp_all [lJ,alQ]
    have S:dB (qJ s (s.length+1)) ([],([],(false,()))) (dh ((k+1:Nat):Int))=Ep (iF s (k+1)):=by
     rw[show dh ((k+1:Nat):Int)=k+1 from rfl];exact Gh s (by omega)
    have U:fV (qJ s (s.length+1)) ((k+1:Nat):Int)=true:=dV (by omega) (by rw[oH];omega);have V:lN (dh ((k+1:Nat):Int)) (qJ s (s.length+1))=true:=mV (by simp_all [oH,dh]);rw[q,Rl _ _ _ _ rfl];obtain⟨g,rfl⟩: ∃g,N=g+1:=⟨N-1,by omega⟩;rw[uK,yu,bM (nD (by rw[bF];omega)),U,V,S];simp only[aa,Ep];rw[awh L.1 (by omega),bu,ajH h1,bM (fU rfl)];simp_all [Ib]
  .have W:k=s.length:=by omega
   subst W;rw[List.drop_length,uy];obtain⟨g,rfl⟩: ∃g,N=g+1:=⟨N-1,by omega⟩;rw[uK,yu,dD (GZ (by rw[bF];omega)),am i,i,B];exact⟨rfl,v⟩
theorem ais (F:List D6) (a:Int):Vb F a=decide ((F.map (·.2.1)).getLast?=a6 a):=by
 grind [Vb]
theorem Dj (s:bQ) (G:s.length<=100000): ∀(N k:Nat) (out:List jQ),s.length-k<N->k<=s.length->out.length<=k->
  (∀a b,a<out.length->b<out.length->(dB out dP a).2.1=(dB out dP b).2.1->a=b)->(∀p∈out,p.2.1<(k:Int))->(∀v∈Ac (iF s k).1,v∈out.map (·.2.1))->
  zk N s (k:Int) out (qJ s (s.length+1))=a6 (.inl ((),(out++(qL (s.drop k) k (iF s k) (out.map (·.2.1))).map (qR s),())))
 |0,k,out,h,_,_,_,_,_=>by omega
 |N+1,k,out,h,hk,aY,y,I,av=>by
  rw[zk,L6];by_cases e:k<s.length
  .have hd:s.drop k=s[k]::s.drop (k+1):=au e;have J:=DF e;have z:bK s (k:Int)=jd s[k]:=byte_at e;rw[z]at J;have hg:=uh s k;have aw:=Ik s k hk;have K:=uh s (k+1);have az:=Ik s (k+1) (by omega);have i:bZ .i64 (k:Int) 1=((k+1:Nat):Int):=by rw[dA];omega
   have W:dB (qJ s (s.length+1)) ([],([],(false,()))) (dh ((k+1:Nat):Int))=Ep (iF s (k+1)):=by
    rw[show dh ((k+1:Nat):Int)=k+1 from rfl];exact Gh s (by omega)
   have X:fV (qJ s (s.length+1)) ((k+1:Nat):Int)=true:=dV (by omega) (by rw[oH];omega);have Y:lN (dh ((k+1:Nat):Int)) (qJ s (s.length+1))=true:=mV (by rw[oH];simp only[dh];omega);rw[bM (eU (by rw[bF];omega)),i,X,Y,W,hd,qL,<-J];simp only[aa,Ep];rw[awh K.1 (by omega),bu,ais,qx];obtain⟨c,hc,g⟩:=Hy hg.1 (iF s k).2 (jd s[k]) k;rw[<-J]at g;have Z:((Ac (iF s k).1).take c).length=c:=by rw[List.length_take];omega
   have L: ∀v∈(Ac (iF s k).1).take c,v∈out.map (·.2.1):=fun v f=>av v (aW f);rcases g with g|g
   .
    have ab:(k:Int)∉Ac (iF s (k+1)).1:=fun f=>by
     rw[g]at f;have:=aw.lt _ (aW f);omega
    have M: ¬(Ac (iF s (k+1)).1).getLast?=a6 (k:Int):=fun f=>ab (List.mem_of_getLast? f);rw[ajH ab,bM (fU rfl),decide_eq_false M];simp only[ah,if_false];exact Dj s G N (k+1) out (by omega) (by omega) (by omega) y (fun p O=>by have:=I p O;omega) (fun v f=>by rw[g]at f;exact L v f)
   .have ad:(Ac (iF s (k+1)).1)[c]? =a6 (k:Int):=by
     rw[g,List.getElem?_append_right (by omega),Z];simp
    have M:(Ac (iF s (k+1)).1).getLast?=a6 (k:Int):=by rw[g];simp
    have ae:(nK (iF s (k+1)).1).length=c+1:=by rw[J3,g,aI,Z];rfl
    rw[ajG az ad,dD (dX),decide_eq_true M];simp only[if_true];have aZ:=GV (iF s (k+1)).1;have bd:=K.2;have aA:1<((c+1:Nat):Int)->fV (po (iF s (k+1)).1) (ed .i64 ((c+1:Nat):Int) 1)=true:=fun d=>by
     rw[iZ];refine dV (by omega) ?_;rw[O4];have:=GV (iF s (k+1)).1;omega
    obtain⟨t,ht⟩:=aog K.1;have aG:1<((c+1:Nat):Int)->gu (po (iF s (k+1)).1) 0 (ed .i64 ((c+1:Nat):Int) 1)=((nK (iF s (k+1)).1).getD (c-1) dF).2.1:=fun d=>by
     rw[iZ,ht,pI,qx];unfold gu;rw[show(((c+1:Nat):Int)-1).toNat=(c-1)+1 by omega,List.getD_cons_succ]
    have aH: ∃j:Nat,1<((c+1:Nat):Int)->j<out.length/\(dB out dP j).2.1=((nK (iF s (k+1)).1).getD (c-1) dF).2.1/\amq (out.map (·.2.1)) ((nK (iF s (k+1)).1).getD (c-1) dF).2.1=(j:Int):=by
     by_cases d:1<((c+1:Nat):Int)
     .have aP:((nK (iF s (k+1)).1).getD (c-1) dF).2.1∈out.map (·.2.1):=by
       refine L _ ?_;rw[pI,qx,g,List.getD_eq_getElem?_getD,List.getElem?_append_left (by omega),List.getElem?_eq_getElem (by omega)];exact List.getElem_mem _
      obtain⟨j,A,ag⟩:=List.getElem_of_mem aP;rw[aK]at A;rw[List.getElem_map]at ag;have ai:(dB out dP j).2.1=((nK (iF s (k+1)).1).getD (c-1) dF).2.1:=by rw[lC A];exact ag
      exact⟨j,fun _=>⟨A,ai,by rw[<-ai];exact Y8 y A⟩⟩
     .exact⟨0,fun l=>absurd l d⟩
    obtain⟨j,S⟩:=aH;have ak:=agY s (qJ s (s.length+1)) out (k:Int) ((c+1:Nat):Int) (po (iF s (k+1)).1) 0 (k:Int) (s.length:Int) true (by omega) (by have:=GV (iF s (k+1)).1;omega)
     (by rw[i];exact congrArg (·.2.1) W) (by rw[i];exact X) (by rw[i];exact Y) aA j (fun d=>⟨(S d).1,(S d).2.1.trans (aG d).symm⟩) y bG 0 (dK) (by omega)
    rw[ap (by omega)]at ak;rw[show xX bG s (k:Int) ((c+1:Nat):Int) 0 0 (k:Int) (bD s) (-1) true out (qJ s (s.length+1))=_ from ak,bu];simp only[dL];have B:wU (nK (iF s (k+1)).1) k (out.map (·.2.1))=(counts ((nK (iF s (k+1)).1).getD c dF).1,(k:Int),0,(if 1<((c+1:Nat):Int)then(j:Int)else-1),true,()):=by
     unfold wU;have aS:(nK (iF s (k+1)).1).getLastD dF=(nK (iF s (k+1)).1).getD c dF:=by
      rw[List.getLastD_eq_getLast?,List.getLast?_eq_getElem?,ae,List.getD_eq_getElem?_getD];rfl
     rw[aS,ae];by_cases d:1<((c+1:Nat):Int)
     .rw[ap (by omega),am d,show c+1-2=c-1 by omega,(S d).2.2]
     .rw[am (by omega),ap d]
    obtain⟨aU,U⟩:=Tf s G out k c (if 1<((c+1:Nat):Int)then(j:Int)else-1) bG (k+1) 0 (wU (nK (iF s (k+1)).1) k (out.map (·.2.1))) (dK) (by omega) (by omega) ad (by rw[B]) (by rw[B]) (by rw[B]) (by rw[B]);rw[i,aU,bu];simp only;have o:=Cj (s.drop (k+1)) ((k+1:Nat):Int) (iF s (k+1)) (wU (nK (iF s (k+1)).1) k (out.map (·.2.1)));have aV:(wU (nK (iF s (k+1)).1) k (out.map (·.2.1))).2.1=(k:Int):=rfl;rw[aV]at o;rw[show((k:Int)+1)=((k+1:Nat):Int) by omega];generalize hq:uy (s.drop (k+1)) ((k+1:Nat):Int) (iF s (k+1)) (wU (nK (iF s (k+1)).1) k (out.map (·.2.1)))=q at*;have al: ∀x:jQ,dN (bP out [x]) 40=true:=fun x=>by
     unfold dN bP;exact decide_eq_true (by rw[aI];simp only[aJ,List.length_nil];unfold kF;omega)
    have go:zk N s ((k+1:Nat):Int) (out++[qR s q]) (qJ s (s.length+1))=a6 (.inl ((),(out++(q::qL (s.drop (k+1)) ((k+1:Nat):Int) (iF s (k+1)) (out.map (·.2.1)++[(k:Int)])).map (qR s),()))):=by
     have u:(qR s q).2.1=(k:Int):=(Rn s q).trans o;have D: ∀a,a<out.length->dB (out++[qR s q]) dP a=dB out dP a:=fun a m=>by
      unfold dB;rw[List.getD_eq_getElem?_getD,List.getD_eq_getElem?_getD,List.getElem?_append_left m]
     have an:dB (out++[qR s q]) dP out.length=qR s q:=by
      unfold dB;rw[List.getD_eq_getElem?_getD,List.getElem?_append_right (af _)];simp
     have ao: ∀a,a<out.length->(dB out dP a).2.1<(k:Int):=fun a m=>by rw[lC m];exact I _ (List.getElem_mem m)
     have ih:=Dj s G N (k+1) (out++[qR s q]) (by omega) (by omega) (by simp;omega)
      (fun a b m z E=>by
       rw[aI]at m z;simp only[aJ,List.length_nil]at m z;rcases aF a out.length with d|d<;>rcases aF b out.length with l|l
       .rw[D a d,D b l]at E;exact y a b d l E
       .rw[D a d,show b=out.length by omega,an,u]at E;have:=ao a d;omega
       .rw[D b l,show a=out.length by omega,an,u]at E;have:=ao b l;omega
       .omega)
      (fun p O=>by
       rcases List.mem_append.1 O with d|d
       .have:=I p d;omega
       .rw[List.mem_singleton.1 d,u];omega)
      (fun v f=>by
       rw[g]at f;rw[List.map_append];rcases List.mem_append.1 f with d|d
       .exact List.mem_append_left _ (L v d)
       .rw[List.mem_singleton.1 d];exact bg _ (by simp[u]))
     rw[ih];rw[List.map_append,ax,aj];simp only[aj,List.map_nil,u];rfl
    by_cases e12:q.1=12
    .rw[bM (fU e12),i,aqN (by omega) (by omega),bu,al,aa];have aX:=adm (s.drop (k+1));rw[aQ]at aX;rw[dA];have V:qR s q=(q.1,(k:Int),((k+1:Nat):Int)+((prl (s.drop (k+1)):Nat):Int),(if 1<((c+1:Nat):Int)then(j:Int)else-1),false,()):=by
      unfold qR;rw[am e12,o,U,show((k:Int)+1).toNat=k+1 by omega,show(k:Int)+1=((k+1:Nat):Int) by omega]
     rw[<-V];exact go
    .rw[dD (dX e12),i,al,aa];have V:qR s q=(q.1,(k:Int),(if q.2.2.2.2.1=true then(s.length:Int)else q.2.2.1),(if 1<((c+1:Nat):Int)then(j:Int)else-1),q.2.2.2.2.1,()):=by
      unfold qR;rw[ap e12];by_cases ho:q.2.2.2.2.1=true
      .rw[am ho,am ho,o,U,ho]
      .rw[ap ho,ap ho,<-o,<-U]
     rw[<-V];exact go
  .rw[dD (iG (by rw[bF];omega)),aB (by omega),qL];simp
theorem awc (s:bQ) (d:s.length<=100000):aea s=a6 (bU s,()):=by
 unfold aea;have e:=Yu s d bG 0 (JR) (by omega);have f:=Dj s d bG 0 [] (JR) (by omega) (by simp) (fun a b g=>by cases g) (fun p h=>by cases h) (fun v i=>by cases i);rw[show abA=a6 (Ep eQ,()) from rfl,bu,show CW bG s 0 [(Ep eQ,()).1]=_ from e,bu];simp only[dL];rw[show zk bG s 0 [] (qJ s (s.length+1))=_ from f,bu];simp only[aO,ay];rw[vW];rfl
end
section
open List renaming mem_cons_of_mem → ai, length_drop → aQ
open Nat renaming le_refl → af
open Go.RowKit
theorem ab6 {g f:Int×Int} {r:fB} (d:gK (f::g::r)):g.1≠13:=by
 have:=d.2.2.1
 grind [Oi]
theorem Ci {m:Int} {f:Int×Int} {r:fB} (hf:f.1=m\/m≠13/\f.1≠13) (e: ∀g d,r=g::d->g.1≠13) (q:r=[]->m≠13) (fr:Bool) (b i:Int):
  ∀g d,(iY m (f::r) fr b i).1=g::d->g.1=13->g.2=i:=by
 intro g d h j;have l: ∀{x:Int×Int} {y:fB},x::y=g::d->x=g:=fun h=>(List.cons.inj h).1;have s:m≠13->f::r=g::d->False:=fun o h=>by
  simp_all
 have p:r=g::d->False:=fun h=>e g d h j;have u: ∀k,(k,i)::f::r=g::d->g.2=i:=fun k h=>by rw[<-l h]
 unfold iY at h;split at h
 .rename_i o
  have v:m≠13:=by omega
  unfold Hz at h
  grind
 .split at h
  .exact(p h).elim
  grind [ES]
theorem alI {s:fB} (j:gK s) (fr:Bool) (b i:Int): ∀g∈(fE s fr b i).1,g.1=13->g.2=i:=by
 have o: ∀g d,(fE s fr b i).1=g::d->g.1=13->g.2=i:=by
  cases s with
  |nil=>cases j
  |cons f r=>
  intro g d h l;have D: ∀{x:Int×Int} {y:fB},x::y=g::d->x=g:=fun h=>(List.cons.inj h).1;have p: ∀g d,r=g::d->g.1≠13:=fun g d e=>by subst e;exact ab6 j
  have A: ∀g u d,r=g::u::d->u.1≠13:=fun g u d e=>by subst e;exact ab6 j.2.2.2
  have E: ∀k:Int,k≠13->(k,f.2)::r=g::d->False:=fun k hk h=>by
   grind
  simp only[fE]at h;split at h
  .split at h
   .simp_all
   .split at h
    .grind
    .split at h
     .grind
     .cases r with
      |nil=>rename_i G _ _ _;have:f.1=0:=j;omega
      |cons q r=>
       exact Ci (.inl rfl) (fun g d e=>A q g d (by rw[e])) (fun _=>by simp_all) fr b i g d h l
  .split at h
   .split at h
    .simp_all
    .exact Ci (f:=(1,f.2)) (.inl rfl) p (fun _=>by omega) fr b i g d h l
   .split at h
    .split at h
     .grind
     .exact Ci (f:=(9,f.2)) (.inl rfl) p (fun _=>by omega) fr b i g d h l
    .refine Ci (.inl rfl) p (fun e=> ?_) fr b i g d h l;subst e;have:f.1=0:=j;omega
 have v:=(good_step j fr b i).1;revert o v;generalize (fE s fr b i).1=y;intro o v g m l;cases y with
 |nil=>cases m
 |cons f r=>
  rcases List.mem_cons.1 m with e|m
  .simp_all
  .exfalso;clear o
   induction r generalizing f with
   |nil=>cases m
   |cons q r B=>
    rcases List.mem_cons.1 m with e|z
    .grind [ab6]
    .exact B q v.2.2.2 (ai _ z) z
def PI (p:jQ) (a:Int):Prop:=0<=p.2.1/\p.2.1<a/\(p.2.2.2.2.1=true/\(p.1=13->p.2.1+1=a)\/p.2.2.2.2.1=false/\p.2.1+2<=p.2.2.1/\p.2.2.1<=a/\(p.1=13->p.2.2.1=p.2.1+2))
theorem aha {m:Int} (h:counts m=13):m=13:=by
 grind [counts]
theorem arO {s:fB} {f:D6} (h:f∈nK s):(f.1,f.2.1)∈s:=by
 unfold nK at h;rw[List.mem_reverse,List.mem_map]at h;obtain⟨g,d,rfl⟩:=h
 grind [List.dropLast_sublist]
theorem ahO {F:List D6} {v m:Int} (h:D7 F v=some m): ∃f∈F,f.2.1=v/\f.1=m:=by
 unfold D7 at h;obtain⟨f,d,rfl⟩:=Option.map_eq_some_iff.1 h
 grind
theorem ayE {s:fB} (j:gK s) (fr:Bool) (b a:Int) {p:jQ} (h:PI p a):PI (lJ (nK (fE s fr b a).1) a p) (a+1):=by
 obtain⟨g,v,l⟩:=h;unfold lJ;rcases l with ⟨d,i⟩|⟨d,i,x,o⟩
 .rw[am d];split
  .rename_i m q
   refine⟨g,by simp only;omega,.inl ⟨d,fun h=> ?_⟩⟩;have y:m=13:=aha h;obtain⟨f,u,z,e⟩:=ahO q;have:=alI j fr b a _ (arO u) (by simp only;omega);omega
  .refine⟨g,by simp only[Ib];omega,.inr ⟨rfl,by simp only[Ib];omega,by simp[Ib],fun h=> ?_⟩⟩
   grind [Ib]
 .rw[ap (by rw[d];simp)];exact⟨g,by omega,.inr ⟨d,i,by omega,o⟩⟩
theorem ayD {s:fB} (e:gK s) (fr:Bool) (b:Int) {a:Int} (d:0<=a) (l:List Int):PI (wU (nK (fE s fr b a).1) a l) (a+1):=
 ⟨d,by simp only[wU];omega,.inl ⟨rfl,fun h=>by simp only[wU]⟩⟩
theorem afV: ∀(l:bQ) (a:Int) (x:fB×Bool) (p:jQ),gK x.1->PI p a->PI (uy l a x p) (a+l.length)
 |[],a,x,p,_,h=>by simpa [uy] using h
 |b::l,a,x,p,d,h=>by
  rw[uy];have:=afV l (a+1) (fE x.1 x.2 (jd b) a) _ (good_step d _ _ _).1 (ayE d x.2 (jd b) a h)
  grind
theorem Xj: ∀(l:bQ) (a:Int) (x:fB×Bool) (fr:List Int),0<=a->gK x.1-> ∀p∈qL l a x fr,PI p (a+l.length)/\a<=p.2.1
 |[],a,x,fr,_,_,p,h=>by cases h
 |b::l,a,x,fr,j,f,p,h=>by
  have g:=(good_step f x.2 (jd b) a).1;have e: ∀d,p∈qL l (a+1) (fE x.1 x.2 (jd b) a) d->PI p (a+((b::l).length:Int))/\a<=p.2.1:=fun d i=>by
   have:=Xj l (a+1) _ d (by omega) g p i
   grind
  rw[qL]at h;split at h
  .rcases List.mem_cons.1 h with rfl|h
   .grind [afV,ayD,Cj,wU]
   .exact e _ h
  .exact e _ h
theorem Uc: ∀(l:bQ) (a:Int) (x:fB×Bool) (fr:List Int),0<=a->gK x.1->(qL l a x fr).Pairwise (fun p q=>p.2.1<q.2.1)
 |[],a,x,fr,_,_=>List.Pairwise.nil
 |b::l,a,x,fr,g,e=>by
  have d:=(good_step e x.2 (jd b) a).1;rw[qL];split
  .refine List.Pairwise.cons (fun p f=> ?_) (Uc l (a+1) _ _ (by omega) d);have:=(Xj l (a+1) _ _ (by omega) d p f).2
   grind [Cj,wU]
  .exact Uc l (a+1) _ _ (by omega) d
structure PF (s:bQ) (p:jQ):Prop where
 f0:0<=p.2.1
 f1:p.2.1<s.length
 t0:p.2.1<p.2.2.1
 t1:p.2.2.1<=s.length
 op:p.2.2.2.2.1=true->p.2.2.1=s.length/\p.1≠12
 sh:p.2.2.2.2.1=false->p.1≠12->p.2.1+2<=p.2.2.1
 es:p.1=13->p.2.2.1<=p.2.1+2
 dl:p.1=12->p.2.2.1=p.2.1+1+((prl (s.drop (p.2.1+1).toNat):Nat):Int)
theorem aiz (s:bQ): ∀p∈bU s,PF s p:=by
 intro p i;rw[vW]at i;obtain⟨q,m,rfl⟩:=List.mem_map.1 i;obtain⟨⟨f,d,j⟩,_⟩:=Xj s 0 eQ [] (by omega) jL q m;rw[Int.zero_add]at d j;have o:=adm (s.drop (q.2.1+1).toNat);rw[aQ]at o;unfold qR;split
 .rename_i e
  exact⟨f,d,by simp only;omega,by simp only;omega,fun h=>(by cases h),fun _ h=>absurd e h,fun h=>(by omega),fun _=>rfl⟩
 .rename_i e
  split
  .rename_i g
   refine⟨f,d,d,Int.le_refl _,fun _=>⟨rfl,e⟩,fun h=>(by cases h),fun h=> ?_,fun h=>absurd h e⟩
   grind
  .rename_i g
   rcases j with ⟨l,_⟩|⟨l,u,v,x⟩
   .exact absurd l g
   .exact⟨f,d,by omega,v,fun h=>absurd h g,fun _ _=>u,fun h=>by have:=x h;omega,fun h=>absurd h e⟩
theorem SE (s:bQ):(bU s).Pairwise (fun p q=>p.2.1<q.2.1):=by
 grind [vW,Uc,jL,Rn]
theorem zG (s:bQ):(bU s).length<=s.length:=by
 have h: ∀(l:bQ) (a:Int) (x:fB×Bool) (d:List Int),(qL l a x d).length<=l.length:=by
  intro l
  induction l with
  |nil=>intro a x d;exact af 0
  |cons b l e=>
   grind [qL]
 simp_all [vW,eQ]
end
section
open Nat renaming le_trans → aG
open Go.RowKit
def uz (L:List jQ) (v:Int):Option jQ:=L.find? fun p=>p.2.1==v
theorem NK {L:List jQ} {v:Int} {p:jQ} (h:uz L v=some p):p∈L/\p.2.1=v:=
 ⟨List.mem_of_find?_eq_some h,by simpa using List.find?_some h⟩
theorem uA {s:List UInt8} {v:Int} {p:jQ} (h:uz (bU s) v=some p):PF s p/\p.2.1=v:=
 ⟨aiz s p (NK h).1,(NK h).2⟩
def lone (p:jQ):Bool:=decide (p.1=12)&&decide (p.2.2.1=p.2.1+1)
def lT (s:bQ) (p:jQ):bQ:=sub s p.2.1 p.2.2.1
def vg (p:jQ):Int:=if p.2.2.2.2.1=true then p.2.2.1 else p.2.2.1-1
def Qn (s:bQ) (p:jQ):bQ:=if p.2.2.1=p.2.1+2/\bK s (p.2.1+1)≠10 then sub s (p.2.1+1) p.2.2.1 else []
def Qm (s:bQ) (p:jQ):bQ:=if p.2.2.1=p.2.1+2 then(if bK s (p.2.1+1)=36\/bK s (p.2.1+1)=96\/bK s (p.2.1+1)=34\/bK s (p.2.1+1)=92 then sub s (p.2.1+1) p.2.2.1 else if bK s (p.2.1+1)=10 then []else lT s p)else []
def gY (s:bQ) (L:List jQ) (at_:Int):Int×List UInt8×Bool:=
 match uz L at_ with
 |none=>(at_+1,sub s at_ (at_+1),false)
 |some p=>if lone p=true then(at_+1,sub s at_ (at_+1),false)
  else if p.1=13 then(p.2.2.1,Qm s p,false)
  else(p.2.2.1,lT s p,true)
def pG (s:bQ) (L:List jQ) (to_:Int):Nat->Int->bQ
 |0,_=>[]
 |n+1,at_=>if at_<to_ then(gY s L at_).2.1++pG s L to_ n (gY s L at_).1 else []
def stepT (s:bQ) (L:List jQ) (at_:Int):Int×List UInt8:=
 match uz L at_ with
 |none=>(at_+1,sub s at_ (at_+1))
 |some p=>if lone p=true\/p.1=14 then(p.2.2.1,lT s p)
  else if p.1=13 then(p.2.2.1,Qn s p)
  else if p.1=4 then(p.2.2.1,sub s (p.2.1+1) (vg p))
  else if p.1=5 then(p.2.2.1,pG s L (vg p) s.length (p.2.1+1))
  else(p.2.2.1,lT s p)
def kC (s:bQ) (L:List jQ):Nat->Int->bQ
 |0,_=>[]
 |n+1,at_=>if at_<s.length then(stepT s L at_).2++kC s L n (stepT s L at_).1 else []
def Gj (s:bQ):bQ:=kC s (bU s) s.length 0
theorem PP {s:List UInt8} {at_:Int}:at_<(gY s (bU s) at_).1:=by
 unfold gY;split
 .simp only;omega
 .rename_i p d
  obtain⟨h,e⟩:=uA d;have:=h.t0
  grind
theorem PQ {s:List UInt8} {at_:Int}:at_<(stepT s (bU s) at_).1:=by
 unfold stepT;split
 .simp only;omega
 .rename_i p d
  obtain⟨h,e⟩:=uA d;have:=h.t0
  grind
theorem aak {s:List UInt8} {at_:Int} (f:at_<s.length):(stepT s (bU s) at_).1<=s.length:=by
 unfold stepT;split
 .simp only;omega
 .rename_i p d
  obtain⟨h,e⟩:=uA d;have:=h.t1
  grind
theorem Iz (s:bQ) (to_:Int): ∀(n m:Nat) (at_:Int),to_-at_<=n->to_-at_<=m->pG s (bU s) to_ n at_=pG s (bU s) to_ m at_
 |0,0,_,_,_=>rfl
 |0,m+1,at_,h,_=>by rw[pG,pG,ap (by omega)]
 |n+1,0,at_,_,h=>by rw[pG,pG,ap (by omega)]
 |n+1,m+1,at_,d,e=>by
  rw[pG,pG];split
  .have:= @PP s at_;rw[Iz s to_ n m _ (by omega) (by omega)]
  .rfl
theorem EI (s:bQ): ∀(n m:Nat) (at_:Int),(s.length:Int)-at_<=n->(s.length:Int)-at_<=m->kC s (bU s) n at_=kC s (bU s) m at_
 |0,0,_,_,_=>rfl
 |0,m+1,at_,h,_=>by rw[kC,kC,ap (by omega)]
 |n+1,0,at_,_,h=>by rw[kC,kC,ap (by omega)]
 |n+1,m+1,at_,d,e=>by
  rw[kC,kC];split
  .have:= @PQ s at_;rw[EI s n m _ (by omega) (by omega)]
  .rfl
theorem FV {d:Type} (l:List d) (a b:Int):(sub l a b).length<=l.length:=by
 grind [sub]
theorem Jz (s:bQ) (L:List jQ) (at_:Int):(gY s L at_).2.1.length<=s.length:=by
 unfold gY;split
 .exact FV s _ _
 .split
  .exact FV s _ _
  .split
   .simp only;unfold Qm lT
    repeat' split
    all_goals simp_all [FV]
   .exact FV s _ _
theorem YI (s:bQ) (L:List jQ) (to_:Int): ∀(n:Nat) (at_:Int),(pG s L to_ n at_).length<=n*s.length
 |0,_=>by simp[pG]
 |n+1,at_=>by
  rw[pG];split
  .have:=Jz s L at_;have:=YI s L to_ n (gY s L at_).1
   grind
  simp
theorem JA (s:bQ) (L:List jQ) (at_:Int):(stepT s L at_).2.length<=s.length*s.length+s.length:=by
 have h: ∀a b,(sub s a b).length<=s.length*s.length+s.length:=fun a b=>aG (FV s a b) (Nat.le_add_left _ _);unfold stepT;split
 .exact h _ _
 .split
  .exact h _ _
  .split
   .simp only;unfold Qn
    grind
   .split
    .exact h _ _
    .split
     .exact aG (YI _ _ _ _ _) (Nat.le_add_right _ _)
     .exact h _ _
theorem QY (s:bQ) (L:List jQ): ∀(n:Nat) (at_:Int),(kC s L n at_).length<=n*(s.length*s.length+s.length)
 |0,_=>by simp[kC]
 |n+1,at_=>by
  rw[kC];split
  .have:=JA s L at_;have:=QY s L n (stepT s L at_).1
   grind
  simp
end
end Go.Proofs.YtjgoejaajmhllaaGreatDoor
