/- Parts of the proof, joined and shortened by a program: the plain machine, the functions as it prints them, and the mathematics over them. -/
import Derived.Test.YtkichehglnecnaaGreatDoorZ3
import Derived.Test.YtkichehglnecnaaGreatDoorZ4
import Derived.Test.YtkichehglnecnaaGreatDoorZ5
import Derived.Test.YtkichehglnecnaaGreatDoorZ6
import Derived.Test.YtkichehglnecnaaGreatDoorZ7
import Derived.Test.YtkichehglnecnaaGreatDoorZ8
import Derived.Test.YtkichehglnecnaaGreatDoorZ9
import Derived.Test.YtkichehglnecnaaGreatDoorZ10
set_option linter.unusedVariables false
set_option linter.unusedSimpArgs false
set_option maxRecDepth 100000
set_option maxHeartbeats 4000000
namespace Go.Proofs.YtkichehglnecnaaGreatDoor
section
open Bool renaming and_eq_true → af, not_eq_true' → aW
open List renaming length_append → ai, mem_cons_of_mem → aj, mem_cons_self → az, length_cons → aG, cons_append → aH
open Go.RowKit
def uT (c:UInt8):Bool:= !uD (eX c)&& !decide (eX c=92)&& !decide (eX c=36)&& !decide (eX c=96)&& !decide (eX c=34)&& !decide (eX c=125)&& !decide (eX c=39)&& !decide (eX c=40)&& !decide (eX c=41)&& !decide (eX c=35)&& !decide (eX c=123)
theorem aIy: ∀n:Fin 256,NS (UInt8.ofNat n.val)=true->uT (UInt8.ofNat n.val)=true:=by decide+kernel
theorem aFc {c:UInt8} (h:NS c=true):uT c=true:=by
 have:=aIy ⟨c.toNat,c.toNat_lt⟩;simp only[UInt8.ofNat_toNat]at this;exact this h
def Ah (m:Int):Prop:=m=0\/m=5\/m=7\/m=8
theorem apu {f:Int×Int} {r:fE} (d:Ah f.1) (fr:Bool) {c:UInt8} (h:uT c=true) (a:Int): ∃g,iJ f.1 (f::r) fr (eX c) a=(f::r,g):=by
 simp only[uT,af,aW,decide_eq_false_iff_not]at h;unfold iJ xn uf;rcases d with e|e|e|e<;>simp[e,h]
theorem Ym {f:Int×Int} {r:fE} (d:Ah f.1) (fr:Bool) {c:UInt8} (h:uT c=true) (a:Int): ∃g,eQ (f::r) fr (eX c) a=(f::r,g):=by
 obtain⟨g,e⟩:=apu (r:=r) d fr h a;refine⟨g, ?_⟩;unfold eQ;simp only;rw[aq (by unfold Ah at d;omega),aq (by unfold Ah at d;omega),aq (by unfold Ah at d;omega),e]
theorem QT {p:Int} {f:Int×Int} {r:fE} (g:Ah f.1) (fr:Bool) {c:UInt8} (h:uT c=true) (a:Int): ∃d,eQ ((12,p)::f::r) fr (eX c) a=(f::r,d):=by
 obtain⟨d,e⟩:=apu (r:=r) g fr h a;refine⟨d, ?_⟩;simp only[uT,af,aW,decide_eq_false_iff_not]at h;unfold eQ;simp only[List.headD_cons,if_true];rw[aq (by simp[h]),aq (by simp[h]),aq (by simp[h]),e]
theorem Bg {s:fE} {b:Int} (h:uD b=false):pz s b=false:=by unfold pz;rw[h];rfl
theorem aeR {f:Int×Int} {r:fE} (g:Ah f.1): ∀(l:bV) (a:Int) (fr:Bool),(∀c∈l,uT c=true)->(gB l a (f::r,fr)).1=f::r/\jL l a (f::r,fr)=l.length
 |[],a,fr,_=>⟨rfl,rfl⟩
 |c::l,a,fr,h=>by
  have d:=h c (az ..);obtain⟨j,e⟩:=Ym (r:=r) g fr d a;have i:=aeR (r:=r) g l (a+1) j fun x m=>h x (aj _ m);have o:uD (eX c)=false:=by simp only[uT,af,aW]at d;exact d.1.1.1.1.1.1.1.1.1.1
  rw[gB,jL,e,i.2];refine⟨i.1, ?_⟩;rw[Bg o];simp
theorem ah4 {p:Int} {f:Int×Int} {r:fE} (g:Ah f.1) (c:UInt8) (l:bV) (a:Int) (fr:Bool) (h: ∀x∈c::l,uT x=true):
  (gB (c::l) a ((12,p)::f::r,fr)).1=f::r/\jL (c::l) a ((12,p)::f::r,fr)=(c::l).length:=by
 have d:=h c (az ..);obtain⟨j,e⟩:=QT (p:=p) (r:=r) g fr d a;have i:=aeR (r:=r) g l (a+1) j fun x m=>h x (aj _ m);have o:uD (eX c)=false:=by simp only[uT,af,aW]at d;exact d.1.1.1.1.1.1.1.1.1.1
 rw[gB,jL,e,i.2];refine⟨i.1, ?_⟩;rw[Bg o];simp
theorem DK: ∀(l m:bV) (a:Int) (x:fE×Bool),jL l a x=l.length->jL (l++m) a x=l.length+jL m (a+l.length) (gB l a x)
 |[],m,a,x,_=>by simp[gB]
 |b::l,m,a,x,h=>by
  rw[jL]at h;split at h
  .simp at h
  .rename_i d
   have e:=DK l m (a+1) (eQ x.1 x.2 (eX b) a) (by simpa using h);rw[aH,jL,aq d,e,gB,aG,show a+((l.length+1:Nat):Int)=a+1+(l.length:Int) by omega];omega
def rq (q d:Bool):bV:=(if q=true then [34,97,32,98]else [])++36::(if d=true then [123]else [])
def aI9 (q d:Bool):bV:=[108,115,32,45,108,32]++rq q d
def QU (q d:Bool):fE:=((if d=true then(if q=true then 8 else 7)else 12),(if q=true then 4 else 0))::(if q=true then [(5,0),(0,0)]else [(0,0)])
def asb (q d:Bool) (e:bV):fE:=if d=false/\e≠[]then(QU q d).tail else QU q d
theorem aoJ (q d:Bool):(gB (rq q d) 0 dZ).1=QU q d/\jL (rq q d) 0 dZ=(rq q d).length/\jL (rq q d) 6 dZ=(rq q d).length:=by
 cases q<;>cases d<;>decide+kernel
theorem aM0 (q d:Bool) {e:List UInt8} (h: ∀c∈e,NS c=true):
  (gB (rq q d++e) 0 dZ).1=asb q d e/\jL (rq q d++e) 6 dZ=(rq q d++e).length:=by
 obtain⟨o,z,u⟩:=aoJ q d;have g: ∀c∈e,uT c=true:=fun c v=>aFc (h c v);have y:md (gB (rq q d) 6 dZ).1=md (QU q d):=by cases q<;>cases d<;>decide+kernel
 rw[Aj,DK _ _ _ _ u,ai];have j: ∀(a:Int) (x:fE×Bool),x.1=QU q d->(gB e a x).1=asb q d e/\jL e a x=e.length:=by
  intro a x m;obtain⟨s,i⟩:=x;simp only at m;subst m;cases e with
  |nil=>simp[asb,gB,jL]
  |cons c l=>
   cases d with
   |true=>
    have:=aeR (f:=((if q=true then 8 else 7),(if q=true then 4 else 0))) (r:=if q=true then [(5,0),(0,0)]else [(0,0)]) (by unfold Ah;cases q<;>simp) (c::l) a i g;simpa [asb,QU] using this
   |false=>
    cases q with
    |true=>simpa [asb,QU] using ah4 (p:=4) (f:=(5,0)) (r:=[(0,0)]) (by unfold Ah;simp) c l a i g
    |false=>simpa [asb,QU] using ah4 (p:=0) (f:=(0,0)) (r:=[]) (by unfold Ah;simp) c l a i g
 refine⟨(j _ _ o).1, ?_⟩;congr 1;rw[abI e _ ((rq q d).length:Int) (gB (rq q d) 6 dZ) (QU q d,(gB (rq q d) 6 dZ).2) y rfl];exact(j _ _ rfl).2
end
section
open Bool renaming false_eq_true → ag
open Int renaming toNat_natCast → aS
open List renaming mem_cons_of_mem → aj, map_cons → au, mem_cons_self → az, drop_eq_getElem_cons → aF, length_cons → aG, cons_append → aH, map_nil → aX, drop_zero → aY, takeWhile_cons → bi, take_of_length_le → bG
open Go.RowKit
theorem nJ {s:List UInt8} {a:Nat} {c:UInt8} {t:List UInt8} (h:s.drop a=c::t):cu s (a:Int)=eX c/\a<s.length:=by
 have d:a<s.length:=by
  have:=congrArg List.length h;simp at this;omega
 rw[aF d]at h;injection h with h1 h2
 rw[byte_at d,h1];exact⟨rfl,d⟩
def atC (c:UInt8):Bool:=decide (c=108)||decide (c=45)||decide (c=34)||decide (c=36)
theorem Va {s:List UInt8} {a:Nat} {c:UInt8} {t:List UInt8} (h:s.drop a=c::t) (i:atC c=true) (P:List Dlm):
  jC s a (0,P,false,())=(((6,(a:Int),((mP s a:Nat):Int), !BP (AL s a (mP s a)),()):Tok),((0,P,false,()):YQ)):=by
 obtain⟨j,v⟩:=nJ h;have f:c=108\/c=45\/c=34\/c=36:=by simpa [atC,or_assoc] using i
 have l:nY (c.toNat:Int)=false:=by rcases f with e|e|e|e<;>subst e<;>rfl
 have m:BG (c.toNat:Int)=false:=by rcases f with e|e|e|e<;>subst e<;>rfl
 have o:isD c=false:=by rcases f with e|e|e|e<;>subst e<;>rfl
 have g:eX c≠10/\eX c≠35:=by rcases f with e|e|e|e<;>subst e<;>decide
 have p:uB (c::t)=0:=by
  rw[tN,aq (by simp[l]),aq];cases t with
  |nil=>simp[pq]
  |cons d t=>rcases f with e|e|e|e<;>subst e<;>simp[pq]
 have q:(CS (c::t)).2=0:=by unfold CS;rw[TJ m]
 have u:Ae (c::t)=0:=by
  have:jT (c::t)=0:=by unfold jT;rw[bi,o];rfl
  unfold Ae;simp[this]
 unfold jC jI kK;simp only[h,p,q,u,j,g.1,g.2,ne_eq,not_true_eq_false,if_false,ag,if_true]
theorem Vu {s:List UInt8} {a:Nat} {c:UInt8} {t:List UInt8} (h:s.drop a=32::c::t) (g:atC c=true) (P:List Dlm):
  jC s a (0,P,false,())=(((1,(a:Int),((a+1:Nat):Int),false,()):Tok),((0,P,false,()):YQ)):=by
 have f:c=108\/c=45\/c=34\/c=36:=by simpa [atC,or_assoc] using g
 have i:nY (c.toNat:Int)=false:=by rcases f with e|e|e|e<;>subst e<;>rfl
 have j:uB (c::t)=0:=by
  rw[tN,aq (by simp[i]),aq];cases t with
  |nil=>simp[pq]
  |cons d t=>rcases f with e|e|e|e<;>subst e<;>simp[pq]
 have l:uB (32::c::t)=1:=by rw[tN,am (by decide),j]
 unfold jC jI kK;simp[h,l]
theorem aPs (q d:Bool) {e:List UInt8} (h: ∀c∈e,NS c=true):
  kJ (aI9 q d++e)=([(6,0,2,false,()),(1,2,3,false,()),(6,3,5,false,()),(1,5,6,false,()),(6,6,((6+(rq q d++e).length:Nat):Int), !BP (rq q d++e),())],(0,[],false,())):=by
 obtain⟨I,m⟩:=aM0 q d h;have hT:aI9 q d++e=108::115::32::45::108::32::(rq q d++e):=by unfold aI9;rfl
 obtain⟨w,W,f,g⟩: ∃w W,rq q d++e=w::W/\atC w=true:=by
  unfold rq;cases q
  .exact⟨36,_,rfl,by decide⟩
  .exact⟨34,_,rfl,by decide⟩
 rw[hT];generalize J:rq q d++e=X at*;have o: ∀Y:bV,jL (108::115::32::Y) 0 dZ=2:=fun Y=>by rfl
 have p: ∀Y:bV,jL (45::108::32::Y) 3 dZ=2:=fun Y=>by rfl
 have u:mP (108::115::32::45::108::32::X) 0=2:=by unfold mP;rw[aY,show((0:Nat):Int)=0 from rfl,o]
 have v:mP (108::115::32::45::108::32::X) 3=5:=by unfold mP;rw[show List.drop 3 (108::115::32::45::108::32::X)=45::108::32::X from rfl,show((3:Nat):Int)=3 from rfl,p]
 have x:mP (108::115::32::45::108::32::X) 6=6+X.length:=by unfold mP;rw[show List.drop 6 (108::115::32::45::108::32::X)=X from rfl,show((6:Nat):Int)=6 from rfl,m]
 have y:AL (108::115::32::45::108::32::X) 0 2=[108,115]:=by simp[AL]
 have z:AL (108::115::32::45::108::32::X) 3 5=[45,108]:=by simp[AL]
 have A:AL (108::115::32::45::108::32::X) 6 (6+X.length)=X:=by
  unfold AL;rw[bG (by simp;omega)];rfl
 have i:=Va (s:=108::115::32::45::108::32::X) (a:=0) rfl (by decide) [];have B:=Vu (s:=108::115::32::45::108::32::X) (a:=2) rfl (by decide) [];have j:=Va (s:=108::115::32::45::108::32::X) (a:=3) rfl (by decide) [];have D:=Vu (s:=108::115::32::45::108::32::X) (a:=5) (c:=w) (t:=W) (by rw[f];rfl) g [];have l:=Va (s:=108::115::32::45::108::32::X) (a:=6) (c:=w) (t:=W) (by rw[f];rfl) g [];rw[u,y]at i;rw[v,z]at j;rw[x,A]at l;have K:0<X.length:=by rw[f];simp
 obtain⟨k,hk⟩: ∃k,(108::115::32::45::108::32::X).length+1=k+6:=⟨X.length+1,by simp⟩;have L:(108::115::32::45::108::32::X).length=6+X.length:=by simp;omega
 unfold kJ;rw[hk,nC,am (by omega),i];simp only[aS];rw[nC,am (by omega),B];simp only[aS];rw[nC,am (by omega),j];simp only[aS];rw[nC,am (by omega),D];simp only[aS];rw[nC,am (by omega),l];simp only[aS];rw[nC,aq (by omega)];have E:BP [108,115]=true:=by decide
 have G:BP [45,108]=true:=by decide
 simp[E,G]
theorem Xz: ∀(l m:bV) (a:Int) (x:fE×Bool) (L:List jY),lm (l++m) a x L=lm m (a+l.length) (gB l a x) (lm l a x L)
 |[],m,a,x,L=>by simp[lm,gB]
 |b::l,m,a,x,L=>by
  rw[aH,lm,Xz l m,lm,gB,aG,show a+((l.length+1:Nat):Int)=a+1+(l.length:Int) by omega]
def La (q:Bool):fE:=if q=true then [(5,0),(0,0)]else [(0,0)]
def L8 (q:Bool) (v:Int):List jY:=if q=true then [(5,0,0,-1,true,()),(12,4,v,0,false,())]else [(12,0,v,-1,false,())]
def arU (q:Bool):List jY:=if q=true then [(5,0,0,-1,true,()),(12,4,0,0,true,())]else [(12,0,0,-1,true,())]
theorem ahO (q:Bool) (v:Int): ∀(l:bV) (a:Int) (fr:Bool),0<a->(∀c∈l,uT c=true)->lm l a (La q,fr) (L8 q v)=L8 q v
 |[],_,_,_,_=>rfl
 |c::l,a,fr,p,h=>by
  have j:=h c (az ..);have m:=fun d=>ahO q v l (a+1) d (by omega) fun x o=>h x (aj _ o);rw[lm];cases q with
  |true=>
   obtain⟨d,e⟩:=Ym (f:=(5,0)) (r:=[(0,0)]) (by unfold Ah;simp) fr j a;have i:eQ (La true) fr (eX c) a=(La true,d):=e;simp only[i];have g:xQ (jS (La true)) a (L8 true v)=L8 true v:=by
    simp[xQ,jS,La,L8,jU,qc,counts,xK];omega
   rw[g];exact m d
  |false=>
   obtain⟨d,e⟩:=Ym (f:=(0,0)) (r:=[]) (by unfold Ah;simp) fr j a;have i:eQ (La false) fr (eX c) a=(La false,d):=e;simp only[i];have g:xQ (jS (La false)) a (L8 false v)=L8 false v:=by
    simp[xQ,jS,La,L8,jU,qc,counts,xK]
   rw[g];exact m d
theorem arZ (q:Bool) (c:UInt8) (l:bV) (a:Int) (fr:Bool) (s:0<a) (h: ∀x∈c::l,uT x=true): ∃v,lm (c::l) a (QU q false,fr) (arU q)=L8 q v:=by
 have j:=h c (az ..);refine⟨a+1, ?_⟩;rw[lm];have m:=fun d=>ahO q (a+1) l (a+1) d (by omega) fun x o=>h x (aj _ o);cases q with
 |true=>
  obtain⟨d,e⟩:=QT (p:=4) (f:=(5,0)) (r:=[(0,0)]) (by unfold Ah;simp) fr j a;have i:eQ (QU true false) fr (eX c) a=(La true,d):=e;simp only[i];have g:xQ (jS (La true)) a (arU true)=L8 true (a+1):=by
   simp[xQ,jS,La,L8,arU,jU,qc,counts,xK,xy];omega
  rw[g];exact m d
 |false=>
  obtain⟨d,e⟩:=QT (p:=0) (f:=(0,0)) (r:=[]) (by unfold Ah;simp) fr j a;have i:eQ (QU false false) fr (eX c) a=(La false,d):=e;simp only[i];have g:xQ (jS (La false)) a (arU false)=L8 false (a+1):=by
   simp[xQ,jS,La,L8,arU,jU,qc,counts,xK,xy]
  rw[g];exact m d
theorem aAN (p:UInt8->Bool): ∀l:bV,(∀c∈l,p c=true)->l.takeWhile p=l
 |[],_=>rfl
 |c::l,h=>by rw[bi,am (h c (az ..)),aAN p l fun x d=>h x (aj _ d)]
theorem aC8 {d:List UInt8} (h: ∀c∈d,NS c=true) (f:d≠[]) (g:isL (d.headD 0)=true):nl d=d.length:=by
 have i:Iq d≠0:=fun e=>by rw[ajI f]at e;rw[g]at e;cases e
 have j:runN d=d.length:=by
  unfold runN;congr 1;exact aAN _ _ h
 unfold nl;rw[aq i,j]
theorem aNZ (q:Bool) {d:List UInt8} (h: ∀c∈d,NS c=true) (e:d≠[]) (g:isL (d.headD 0)=true):
  bP (rq q false++d)=(if q=true then [(5,0,(((rq q false++d).length:Nat):Int),-1,true,()),(12,4,(((rq q false++d).length:Nat):Int),0,false,())]else [(12,0,(((rq q false++d).length:Nat):Int),-1,false,())]):=by
 obtain⟨i,u,x⟩:=aoJ q false;have j:lm (rq q false) 0 dZ []=arU q:=by cases q<;>decide+kernel
 have m: ∀c∈d,uT c=true:=fun c o=>aFc (h c o);have p:=aC8 h e g;have y:0<d.length:=List.length_pos_iff.2 e;have f:prl d=d.length:=by unfold prl;rw[am (by omega),p]
 unfold bP;rw[Xz,j];obtain⟨c,l,rfl⟩: ∃c l,d=c::l:=by
  cases d with
  |nil=>exact absurd rfl e
  |cons c l=>exact⟨c,l,rfl⟩
 obtain⟨v,s⟩:=arZ q c l (0+(rq q false).length) (gB (rq q false) 0 dZ).2 (by unfold rq;cases q<;>simp) m;rw[show gB (rq q false) 0 dZ=(QU q false,(gB (rq q false) 0 dZ).2) from by rw[<-i],s];cases q with
 |true=>
  have hd:List.drop 5 (rq true false++c::l)=c::l:=rfl;simp only[L8,if_true,au,aX,qE];simp[hd,f];have:(rq true false).length=5:=rfl;omega
 |false=>
  have hd:List.drop 1 (rq false false++c::l)=c::l:=rfl;simp only[L8,ag,if_false,au,aX,qE];simp[hd,f];have:(rq false false).length=1:=rfl;omega
end
section
open Option renaming some → a6, none → a7
open List renaming length_append → ai, drop_eq_getElem_cons → aF, drop_of_length_le → aI, length_singleton → aV
open Go.RowKit
theorem rF {e:Type} {l:List e} {d:e} {k:Nat} (h:k<l.length):ed l d (k:Int)=l[k]:=by
 simp_all [ed]
abbrev Ctx:=Int×Int×Int×Int×bV×(Bool×bV×lL)
def aiT (f:xM):Bool:=decide (f.1=1)||decide (f.1=3)
def GK (l:List xM):Nat:=l.countP aiT
theorem QV (F:List xM) (hF:F.length<1000000): ∀(N k:Nat) (c:Int),F.length-k<N->k<=F.length->0<=c->c<=k->
  Ql N c F (bK F) (k:Int)=a6 (.inl ((c+(GK (F.drop k):Int),()),()))
 |0,k,c,h,_,_,_=>by omega
 |N+1,k,c,h,hk,i,j=>by
  rw[Ql,afa];by_cases e:k<F.length
  .have f:cO .i64 (k:Int) 1=((k+1:Nat):Int):=by grind [dB]
   have g:cO .i64 c 1=c+1:=dB;rw[bW (fG (by rw[bM];omega)),bW (eF),rF e,f,g,
    QV F hF N (k+1) (c+1) (by omega) (by omega) (by omega) (by omega),QV F hF N (k+1) c (by omega) (by omega) (by omega) (by omega),aF e]
   unfold GK;rw[List.countP_cons];generalize List.countP aiT (F.drop (k+1))=m;have d:c+((m+1:Nat):Int)=c+1+(m:Int):=by omega
   by_cases a:F[k].1=1
   .rw[bW (eG a),show aiT F[k]=true by simp[aiT,a],am rfl,d]
   .rw[dG (dM a)];by_cases b:F[k].1=3
    .rw[bW (eG b),show aiT F[k]=true by simp[aiT,b],am rfl,d]
    simp_all [dM,aiT]
  simp_all [gU,bM,aI,GK]
theorem aJn {F:List xM} (hF:F.length<1000000):aBM F=a6 ((GK F:Int),()):=by
 have h:=QV F hF bT 0 0 (dJ) (by omega) (by omega) (by omega);rw[aBM,show Ql bT 0 F (bK F) 0=_ from h,bI];simp_all [dR]
def PT (f:xM):Bool:= !(decide (f.1=0)||decide (f.1=2)||decide (f.1=4)||decide (f.1=5)||decide (f.1=13)||decide (f.1=14))
def VK (l:List xM):Option xM:=l.reverse.find? PT
theorem af5 (F:List xM) (hF:F.length<1000000): ∀(k N:Nat),k<=F.length->k<N->
  Ac N ((k:Int)-1) F false 0 0=a6 (match(F.take k).reverse.find? PT with
   |none=>.inl ((),((),(),(),()),((),(F,()),(false,()),(0,0,()),()))
   |some f=>.inr ((),((),(),(),()),((),(F,()),(true,()),(f.1,f.2.1,()),())))
 |0,0,_,h=>by omega
 |0,N+1,_,_=>by
  rfl
 |k+1,0,_,h=>by omega
 |k+1,N+1,hk,j=>by
  have d:=af5 F hF k N (by omega) (by omega);have e:((k+1:Nat):Int)-1=(k:Int):=by omega
  have g:gy F (k:Int)=true:=eF;have i:eP .i64 (k:Int) 1=(k:Int)-1:=ig
  (rewrite [Ac,F9];delta mM;rw[e,bW (oK)])
  simp only[g,rF (show k<F.length by omega),i,d,aa];rw[List.take_succ_eq_append_getElem (by omega),List.reverse_append,List.reverse_singleton,List.singleton_append,List.find?_cons];by_cases h0:F[k].1=0
  .simp_all [eG,PT]
  rw[dG (dM h0)];by_cases h2:F[k].1=2
  .simp_all [eG,PT]
  rw[dG (dM h2)];by_cases h4:F[k].1=4
  .simp_all [eG,PT]
  rw[dG (dM h4)];by_cases h5:F[k].1=5
  .simp_all [eG,PT]
  rw[dG (dM h5)];by_cases h13:F[k].1=13
  .simp_all [eG,PT]
  rw[dG (dM h13)];by_cases h14:F[k].1=14
  .simp_all [eG,PT]
  simp_all [dM,PT]
theorem aqd {F:List xM} (hF:F.length<1000000):aBN F=a6 ((VK F).getD (0,(0,())),((VK F).isSome,())):=by
 have h:=af5 F hF F.length bT (by omega) (dJ);rw[List.take_length]at h;have d:eP .i64 (bK F) 1=(F.length:Int)-1:=ig (by rw[bM];omega) (by rw[bM];omega);rw[aBN,d,h,bI];unfold VK;cases F.reverse.find? PT<;>rfl
def stF (l:List xM):Int:=let m:=(l.getLastD (0,(0,()))).1;if m=4\/m=5\/m=13 then m else 0
theorem aD6 {F:List xM} (d:F≠[]) (hF:F.length<1000000):aBQ F=a6 (stF F,()):=by
 obtain⟨r,t,e⟩:=(List.eq_nil_or_concat F).resolve_left d;rw[List.concat_eq_append]at e;subst e;rw[ai,aV]at hF;have f:eP .i64 (bK (r++[t])) 1=(r.length:Int):=by
  grind [bM,ig]
 have g:ed (r++[t]) (0,(0,())) (r.length:Int)=t:=qF rfl;unfold stF
 (rewrite [aBQ];delta ER;rw[f,bW (eF (by omega) (by grind))])
 simp only[g,List.getLastD_concat];by_cases h4:t.1=4
 .simp_all [eG]
 rw[dG (dM h4)];by_cases h5:t.1=5
 .simp_all [eG]
 rw[dG (dM h5)];by_cases h13:t.1=13
 .simp_all [eG]
 simp_all [dM]
def ajL (s:bV):Bool:=decide (nl s≠0/\nl s=s.length)
def abH (w:bV):bV:=match(bP w).getLast? with
 |none=>[]
 |some p=>if p.1=12/\p.2.2.1=bK w/\ajL (sub w (p.2.1+1) (bK w))=true then sub w (p.2.1+1) (bK w)else []
theorem auE {w:List UInt8} (p:w.length<=10000) (f: ∀s:bV,s.length<1000000->Wj s=a6 (ajL s,())):aBP w=a6 (abH w,()):=by
 have g:=uV w;rw[aBP,aGf w (by omega),bI];unfold abH;simp only;rcases List.eq_nil_or_concat (bP w)with e|⟨r,t,e⟩
 .rw[e];rfl
 .rw[List.concat_eq_append]at e;have d:=QA (s:=w) t (by rw[e];simp);have q:=d.f0;have u:=d.f1;rw[e,ai,aV]at g;rw[e,List.getLast?_concat];have i:eP .i64 (bK (r++[t])) 1=(r.length:Int):=by
   grind [bM,ig]
  have j:ed (r++[t]) (0,(0,(0,(0,(false,()))))) (r.length:Int)=t:=qF rfl;have l:cO .i64 t.2.1 1=t.2.1+1:=dB;have m:eY (bK w) (t.2.1+1) (bK w)=true:=fQ (by omega) (by rw[bM];omega) (by omega);rw[dG (dM (by grind [bM])),i,bW (eF (by omega) (by grind))];simp only[j,l,m,aa];by_cases h12:t.1=12
  .rw[eG h12];by_cases h3:t.2.2.1=bK w
   .rw[eG h3];have o:=xG w (t.2.1+1) (bK w);rw[bM]at o;rw[f _ (by rw[bM];omega),bI]
    grind
   simp_all [dM]
  simp_all [dM]
theorem auD (w:bV):(abH w).length<=w.length:=by
 grind [abH,Gh]
def aht (s:bV) (from_ d:Int) (t:bV):Ctx:=(2,0,from_+bK s-bK t,0,t,false,[],0,d,())
def XH (s:bV) (from_ d k:Int):Ctx:=(k,0,from_+bK s,0,[],false,[],0,d,())
def auC (s:bV) (from_ d:Int) (f:xM) (w:bV):Ctx:=if f.1=12 then aht s from_ d []else if(f.1=7\/f.1=8)/\(sub w (f.2.1+2) (bK w)=[]\/ajL (sub w (f.2.1+2) (bK w))=true)then aht s from_ d (sub w (f.2.1+2) (bK w))else XH s from_ d 5
theorem acD {s:List UInt8} {d e:Int} {f:List Tok} {g i j:Int} {l m:Bool} {t:List UInt8} (o:s.length<=10000) (p:0<=d) (h2:d<=10000) (q:t.length<=10000):
  agI s d e f g i j l m t=a6 ((s,(d,(e,(f,(g,(i,(j,(l,(m,()))))))))),(aht s d e t,())):=by
 rw[agI,dB (by rw[bM];omega) (by rw[bM];omega),ig (by grind [bM]) (by grind [bM])];rfl
theorem aeI {s:List UInt8} {d e:Int} {f:List Tok} {g i j:Int} {l m:Bool} (k:Int) (o:s.length<=10000) (p:0<=d) (h2:d<=10000):
  ajy s d e f g i j l m k=a6 ((s,(d,(e,(f,(g,(i,(j,(l,(m,()))))))))),(XH s d e k,())):=by
 rw[ajy,dB (by rw[bM];omega) (by rw[bM];omega)];rfl
theorem aqc {s:List UInt8} {g i:Int} {j:List Tok} {l m o:Int} {p q:Bool} {f:xM} {w:List UInt8} (u:s.length<=10000) (v:0<=g) (h2:g<=10000) (A:w.length<=10000)
  (hf:f.1=7\/f.1=8->0<=f.2.1/\f.2.1+2<=w.length) (x: ∀s:bV,s.length<1000000->Wj s=a6 (ajL s,())):
  aBO s g i j l m o p q f w=a6 ((s,(g,(i,(j,(l,(m,(o,(p,(q,()))))))))),(auC s g i f w,())):=by
 (rewrite [aBO];delta ajA ab7 ajz)
 unfold auC;have y:=xG w (f.2.1+2) (bK w);rw[bM]at y;by_cases h12:f.1=12
 .simp_all [eG,acD,bI]
 rw[dG (dM h12),aq h12];have B:(f.1=7\/f.1=8)->(bif(eY (bK w) (cO .i64 f.2.1 2) (bK w))then
    bif(gp (sub w (cO .i64 f.2.1 2) (bK w)) [])then
     bJ (agI s g i j l m o p q (sub w (cO .i64 f.2.1 2) (bK w))) fun e=>
      a6 ((e.1.1,(e.1.2.1,(e.1.2.2.1,(e.1.2.2.2.1,(e.1.2.2.2.2.1,(e.1.2.2.2.2.2.1,(e.1.2.2.2.2.2.2.1,(e.1.2.2.2.2.2.2.2.1,(e.1.2.2.2.2.2.2.2.2.1,()))))))))),((e.2.1.1,(e.2.1.2.1,(e.2.1.2.2.1,(e.2.1.2.2.2.1,(e.2.1.2.2.2.2.1,(e.2.1.2.2.2.2.2.1,(e.2.1.2.2.2.2.2.2.1,(e.2.1.2.2.2.2.2.2.2.1,(e.2.1.2.2.2.2.2.2.2.2.1,()))))))))),()))
    else
    bJ (Wj (sub w (cO .i64 f.2.1 2) (bK w))) fun e=>
     bif e.1 then
      bJ (agI s g i j l m o p q (sub w (cO .i64 f.2.1 2) (bK w))) fun d=>
       a6 ((d.1.1,(d.1.2.1,(d.1.2.2.1,(d.1.2.2.2.1,(d.1.2.2.2.2.1,(d.1.2.2.2.2.2.1,(d.1.2.2.2.2.2.2.1,(d.1.2.2.2.2.2.2.2.1,(d.1.2.2.2.2.2.2.2.2.1,()))))))))),((d.2.1.1,(d.2.1.2.1,(d.2.1.2.2.1,(d.2.1.2.2.2.1,(d.2.1.2.2.2.2.1,(d.2.1.2.2.2.2.2.1,(d.2.1.2.2.2.2.2.2.1,(d.2.1.2.2.2.2.2.2.2.1,(d.2.1.2.2.2.2.2.2.2.2.1,()))))))))),()))
     else
     bJ (ajy s g i j l m o p q 5) fun d=>
      a6 ((d.1.1,(d.1.2.1,(d.1.2.2.1,(d.1.2.2.2.1,(d.1.2.2.2.2.1,(d.1.2.2.2.2.2.1,(d.1.2.2.2.2.2.2.1,(d.1.2.2.2.2.2.2.2.1,(d.1.2.2.2.2.2.2.2.2.1,()))))))))),((d.2.1.1,(d.2.1.2.1,(d.2.1.2.2.1,(d.2.1.2.2.2.1,(d.2.1.2.2.2.2.1,(d.2.1.2.2.2.2.2.1,(d.2.1.2.2.2.2.2.2.1,(d.2.1.2.2.2.2.2.2.2.1,(d.2.1.2.2.2.2.2.2.2.2.1,()))))))))),()))
   else
   a7)=a6 ((s,(g,(i,(j,(l,(m,(o,(p,(q,()))))))))),(if(f.1=7\/f.1=8)/\(sub w (f.2.1+2) (bK w)=[]\/ajL (sub w (f.2.1+2) (bK w))=true)then aht s g i (sub w (f.2.1+2) (bK w))
    else XH s g i 5,())):=by
  intro h;obtain⟨D,g1⟩:=hf h;have z:cO .i64 f.2.1 2=f.2.1+2:=dB;rw[z,bW (fQ (by omega) (by rw[bM];omega) (by omega))];by_cases he:sub w (f.2.1+2) (bK w)=[]
  .rw[bW (by rw[he];rfl),acD u v h2 (by rw[bM];omega),bI,am ⟨h,.inl he⟩]
  .rw[dG (by simpa [gp] using he),x _ (by rw[bM];omega),bI];by_cases hn:ajL (sub w (f.2.1+2) (bK w))=true
   .rw[bW hn,acD u v h2 (by rw[bM];omega),bI,am ⟨h,.inr hn⟩]
   simp_all [aeI,bI]
 by_cases h7:f.1=7
 .simp_all [eG]
 rw[dG (dM h7)];by_cases h8:f.1=8
 .simp_all [eG]
 simp_all [dM,aeI,bI]
end
section
open List renaming length_map → aO, length_drop → aU, length_take → aZ
open Nat renaming le_trans → aK
open Go.RowKit
theorem arz {s:List UInt8} (d:s.length<=10000):Zo (iy s (kJ s).1):=by
 refine⟨?_,fun f e=> ?_⟩
 .have h:=(NZ d).2.2;unfold iy;rw[aO];exact aK (List.length_filter_le _ _) (aK h d)
 .unfold iy at e;obtain⟨t,_,rfl⟩:=List.mem_map.1 e;refine aK ?_ d;unfold ag7 sub;simp only[aZ,aU];omega
theorem aOy {s:List UInt8} (d:s.length<=10000): ∃l,Wi (iy s (kJ s).1)=some (l,())/\aBD (iy s (kJ s).1)=some (l,())/\l.length<=16*(iy s (kJ s).1).length+1/\ ∃m,l=(1,0,((iy s (kJ s).1).length:Int),-1,())::m/\Tr (iy s (kJ s).1) 0 (iy s (kJ s).1).length 0 1 m:=
 ahM (arz d)
end
section
open Option renaming some → a6, none → a7
open Bool renaming not_true → ax
open List renaming mem_cons_of_mem → aj, mem_cons_self → az, drop_eq_getElem_cons → aF, drop_of_length_le → aI, getElem_mem → aP
open Go.RowKit
def zG (l:List Nd) (leaf:Int):Nat->Int
 |0=> -1
 |k+1=>if(ed l Ci (k:Int)).2.1<=leaf/\leaf<(ed l Ci (k:Int)).2.2.1 then(k:Int)else zG l leaf k
theorem al6 (l:List Nd) (leaf:Int): ∀k,zG l leaf k= -1\/(0<=zG l leaf k/\zG l leaf k<k/\(ed l Ci (zG l leaf k)).2.1<=leaf/\leaf<(ed l Ci (zG l leaf k)).2.2.1)
 |0=>.inl rfl
 |k+1=>by
  rw[zG];split
  .omega
  .rcases al6 l leaf k with h|h
   all_goals omega
theorem af0 (l:List Nd) (leaf:Int) (hl:l.length<1000000): ∀(k N:Nat),k<=l.length->k<N->
  WT N l leaf ((k:Int)-1)=a6 (if zG l leaf k= -1 then .inl ((),())else .inr ((zG l leaf k,()),()))
 |0,0,_,h=>by omega
 |0,N+1,_,_=>by
  rfl
 |k+1,0,_,h=>by omega
 |k+1,N+1,hk,j=>by
  have d:=af0 l leaf hl k N (by omega) (by omega);have e:((k+1:Nat):Int)-1=(k:Int):=by omega
  have f:gy l (k:Int)=true:=eF;have g:eP .i64 (k:Int) 1=(k:Int)-1:=ig;rw[WT,afi,e,bW (oK)];simp only[f,g,d,aa];show(bif leI (ed l Ci (k:Int)).2.1 leaf then bif iF leaf (ed l Ci (k:Int)).2.2.1 then _ else _ else _)=_;by_cases h1:(ed l Ci (k:Int)).2.1<=leaf
  .rw[bW (oK h1)];by_cases h2:leaf<(ed l Ci (k:Int)).2.2.1
   .simp_all [zG,fG]
   simp_all [zG,aq,gU]
  .have i:zG l leaf (k+1)=zG l leaf k:=by rw[zG,aq (fun h=>h1 h.1)]
   rw[dG (BC h1),i]
theorem aA1 {l:List Nd} (hl:l.length<1000000) (leaf:Int):aBY l leaf=a6 (zG l leaf l.length,()):=by
 have h:=af0 l leaf hl l.length bT (by omega) (dJ);have d:eP .i64 (bK l) 1=(l.length:Int)-1:=ig (by rw[bM];omega) (by rw[bM];omega);rw[aBY,d,h,bI];split
 .rename_i e;rw[e];rfl
 .rfl
def AO (up:Int):List Nd->Nat->List Int
 |[],_=>[]
 |n::m,k=>if n.2.2.2.1=up then(k:Int)::AO up m (k+1)else AO up m (k+1)
theorem acw (up:Int) (l:List Nd): ∀(m:List Nd) (k:Nat),l.drop k=m->k<=l.length-> ∀x∈AO up m k,∃j:Nat,x=(j:Int)/\j<l.length
 |[],_,_,_,x,d=>by cases d
 |n::m,k,h,hk,x,d=>by
  have e:k<l.length:=by
   grind
  have f:=acw up l m (k+1) (by rw[<-List.drop_drop,h];rfl) (by omega)
  grind [AO]
theorem ag1 (up:Int): ∀(m:List Nd) (k:Nat),(AO up m k).length<=m.length
 |[],_=>by simp[AO]
 |n::m,k=>by
  have d:=ag1 up m (k+1)
  grind [AO]
theorem Qe (l:List Nd) (up:Int) (hl:l.length<1000000): ∀(N k:Nat) (o:List Int),l.length-k<N->k<=l.length->o.length<=k->
  WO N up l (bK l) (k:Int) o=a6 (.inl ((),(o++AO up (l.drop k) k,())))
 |0,k,o,h,_,_=>by omega
 |N+1,k,o,h,hk,f=>by
  rw[WO,afc];by_cases e:k<l.length
  .have d:cO .i64 (k:Int) 1=((k+1:Nat):Int):=by grind [dB]
   rw[bW (fG (by rw[bM];omega)),bW (eF),rF e,d,aF e,AO];by_cases h1:l[k].2.2.2.1=up
   .rw[bW (eG h1),am h1,bW (qR (by grind [bU])),Qe l up hl N (k+1) _ (by omega) (by omega) (by simp_all [bU])];simp[bU]
   .rw[dG (dM h1),aq h1,Qe l up hl N (k+1) _ (by omega) (by omega) (by omega)]
  simp_all [gU,bM,aI,AO]
theorem aGc {l:List Nd} (hl:l.length<1000000) {i:Int} (d:0<=i) (e:i<l.length):aBS l i=a6 (AO i l 0,()):=by
 have h:=Qe l i hl bT 0 [] (dJ) (by omega) (by simp);have f:aB1 l i=a6 (true,()):=by
  rw[aB1,oK d,fG (by rw[bM];exact e)];rfl
 rw[aBS,f,bI];simp only[ax,ac]
 grind [bI,dR]
def Dz (l:List Nd) (i:Int):List Int->Int->Int->Int×Int
 |[],n,f=>(n,f)
 |k::K,n,f=>if k<i/\(ed l Ci k).1=7 then Dz l i K (n+1) (if n=0 then k else f)else Dz l i K n f
theorem abf (l:List Nd) (i:Int): ∀(K:List Int) (n f:Int),0<=n->(∀x∈K,∃j:Nat,x=(j:Int)/\j<l.length)->(0<n-> ∃j:Nat,f=(j:Int)/\j<l.length/\(ed l Ci f).1=7)->
  n<=(Dz l i K n f).1/\(Dz l i K n f).1<=n+K.length/\(0<(Dz l i K n f).1-> ∃j:Nat,(Dz l i K n f).2=(j:Int)/\j<l.length/\(ed l Ci (Dz l i K n f).2).1=7)
 |[],n,f,e,_,d=>⟨by simp[Dz],by simp[Dz],d⟩
 |k::K,n,f,e,m,d=>by
  rw[Dz];have g: ∀x∈K,∃j:Nat,x=(j:Int)/\j<l.length:=fun x o=>m x (aj _ o);split
  .rename_i h
   have p:=abf l i K (n+1) (if n=0 then k else f) (by omega) g (fun _=>by
    grind [az])
   grind
  .have p:=abf l i K n f e g d
   grind
theorem zB (l:List Nd) (i:Int) (K:List Int) (g:K.length<1000000) (d: ∀x∈K,∃j:Nat,x=(j:Int)/\j<l.length): ∀(N j:Nat) (n f:Int),K.length-j<N->j<=K.length->0<=n->n<=j->
  WU N l i n f K (bK K) (j:Int)=a6 (.inl (((Dz l i (K.drop j) n f).1,(Dz l i (K.drop j) n f).2,()),()))
 |0,j,n,f,h,_,_,_=>by omega
 |N+1,j,n,f,h,p,s,u=>by
  rw[WU,afj];by_cases e:j<K.length
  .have m:cO .i64 (j:Int) 1=((j+1:Nat):Int):=by grind [dB]
   have o:cO .i64 n 1=n+1:=dB;obtain⟨q,v,y⟩:=d K[j] (aP e);rw[bW (fG (by rw[bM];omega)),bW (eF),rF e,aF e,Dz,m,o];by_cases h2:K[j]<i
   .rw[bW (fG h2),bW (eF)];show(bif bY (ed l Ci K[j]).1 7 then _ else _)=_;by_cases h3:(ed l Ci K[j]).1=7
    .rw[bW (eG h3),am ⟨h2,h3⟩];by_cases h4:n=0
     .rw[bW (eG h4),am h4,zB l i K g d N (j+1) _ _ (by omega) (by omega) (by omega) (by omega)]
     .rw[dG (dM h4),aq h4,zB l i K g d N (j+1) _ _ (by omega) (by omega) (by omega) (by omega)]
    .rw[dG (dM h3),aq (fun h=>h3 h.2),zB l i K g d N (j+1) _ _ (by omega) (by omega) (by omega) (by omega)]
   .rw[dG (gU h2),aq (fun h=>h2 h.1),zB l i K g d N (j+1) _ _ (by omega) (by omega) (by omega) (by omega)]
  .rw[dG (gU (by rw[bM];omega)),aI (by omega)];rfl
theorem aA0 {l:List Nd} (hl:l.length<1000000) {up:Int} (d:0<=up) (e:up<l.length) (i:Int):
  awm l up i=a6 ((Dz l i (AO up l 0) 0 i).1,((Dz l i (AO up l 0) 0 i).2,())):=by
 have hk:=ag1 up l 0;have h:=zB l i (AO up l 0) (by omega) (acw up l l 0 rfl (by omega)) bT 0 0 i (dJ) (by omega) (by omega) (by omega);rw[awm,aGc hl d e,bI]
 grind [bI,dR]
def akp:List Lf->Int
 |[]=>0
 |x::l=>if x.1=4 then((ofF x.2.1:Nat):Int)else akp l
theorem ahJ (v:List Lf) (d:v.length<1000000): ∀(N k:Nat),v.length-k<N->k<=v.length->
  ∃r,Qn N v (bK v) (k:Int)=a6 r/\dR r (fun _=>a6 ((0:Int),())) (fun b=>a6 (b.1.1,()))=a6 (akp (v.drop k),())
 |0,k,h,_=>by omega
 |N+1,k,h,hk=>by
  rw[Qn,afk];by_cases e:k<v.length
  .have f:cO .i64 (k:Int) 1=((k+1:Nat):Int):=by grind [dB]
   rw[bW (fG (by rw[bM];omega)),bW (eF),rF e,aF e,akp,f];by_cases h1:v[k].1=4
   .rw[bW (eG h1),am h1,aki,bI];exact⟨_,rfl,rfl⟩
   .rw[dG (dM h1),aq h1];exact ahJ v d N (k+1) (by omega) (by omega)
  .rw[dG (gU (by rw[bM];omega)),aI (by omega)];exact⟨_,rfl,rfl⟩
theorem aK9 {f:List Lf} (hf:f.length<1000000) {n:Nd} (d:0<=n.2.1) (e:n.2.1<=n.2.2.1) (h2:n.2.2.1<=f.length):aBZ f n=a6 (akp (sub f n.2.1 n.2.2.1),()):=by
 have g:(sub f n.2.1 n.2.2.1).length<1000000:=by
  grind [U5]
 obtain⟨r,i,j⟩:=ahJ (sub f n.2.1 n.2.2.1) g bT 0 (dJ) (by omega);rw[aBZ,bW (fQ d e (by rw[bM];omega)),show Qn bT (sub f n.2.1 n.2.2.1) (bK (sub f n.2.1 n.2.2.1)) 0=_ from i,bI];exact j
structure NOk (a b k:Nat) (n:Nd):Prop where
 f0:(a:Int)<=n.2.1
 ft:n.2.1<=n.2.2.1
 t1:n.2.2.1<=b
 wd:n.1=6\/n.1=7->n.2.2.1=n.2.1+1
 u0:0<=n.2.2.2.1
 u1:n.2.2.2.1<k
theorem NOk.mono {a b k d e f:Nat} {n:Nd} (h:NOk a b k n) (g:d<=a) (hb:b<=e) (hk:k<=f):NOk d e f n:=
 ⟨by have:=h.f0;omega,h.ft,by have:=h.t1;omega,h.wd,h.u0,by have:=h.u1;omega⟩
theorem Tr.all {F:List Lf} {a b:Nat} {u:Int} {k:Nat} {m:List Nd} (h:Tr F a b u k m):0<=u->u<k-> ∀n∈m,NOk a b (k+m.length) n:=by
 induction h with
 |nil h=>simp
 | @leaf a b f t u k kd m h1 hk hf h2 i=>
  intro d j n g;have l:=h2.le;rcases List.mem_cons.1 g with e|e
  .subst e;exact⟨by simp only;omega,by simp only;omega,by simp only;omega,by simp only;omega,d,by grind⟩
  .exact(i d (by omega) n e).mono (by omega) (by omega) (by grind)
 | @node a b f t u k kd m n' h1 hk h8 h h2 ih1 o=>
  intro d j n g;have l:=h.le;have p:=h2.le;rcases List.mem_cons.1 g with e|e
  .subst e;exact⟨by simp only;omega,by simp only;omega,by simp only;omega,by simp only;omega,d,by grind⟩
  .rcases List.mem_append.1 e with e|e
   .exact(ih1 (by omega) (by omega) n e).mono (by omega) (by omega) (by grind)
   .exact(o d (by omega) n e).mono (by omega) (by omega) (by grind)
def AP (s:bV):Nat->Nat->List Tok->List Tok
 |0,_,l=>l
 |n+1,a,l=>if a<s.length then AP s n (jC s a (0,[],false,())).1.2.2.1.toNat (l++[(jC s a (0,[],false,())).1])else l
def ag8 (s:bV):List Tok:=AP s (s.length+1) 0 []
theorem Z9 {s:List UInt8} (d:s.length<=10000): ∀(n m a:Nat) (l:List Tok),s.length<n+a->s.length<m+a->AP s n a l=AP s m a l
 |0,0,a,l,_,_=>rfl
 |0,m+1,a,l,h,_=>by rw[AP,AP,aq (by omega)]
 |n+1,0,a,l,_,h=>by rw[AP,AP,aq (by omega)]
 |n+1,m+1,a,l,f,g=>by
  rw[AP,AP];split
  .rename_i e
   have:=xF d e (0,[],false,());exact Z9 d n m _ _ (by omega) (by omega)
  .rfl
theorem ane {s:List UInt8} (f:s.length<=10000): ∀(n a:Nat) (l:List Tok),l.length<=a->a<=s.length->(∀t∈l,OkT s t/\t.1≠7)->(∀t∈AP s n a l,OkT s t/\t.1≠7)/\(AP s n a l).length<=s.length
 |0,a,l,g,i,h=>⟨h,by grind [AP]⟩
 |n+1,a,l,g,i,h=>by
  rw[AP];split
  .rename_i e
   have m:=xF f e (0,[],false,());exact ane f n _ _ (by grind) (by omega) (fun t j=>by
    rcases List.mem_append.1 j with d|d
    .exact h t d
    .rw[List.mem_singleton.1 d];refine⟨⟨by omega,by omega,by omega⟩, ?_⟩
     grind [jC,jI])
  grind
theorem anf {s:List UInt8} (d:s.length<=10000):(∀t∈ag8 s,OkT s t/\t.1≠7)/\(ag8 s).length<=s.length:=
 ane d _ _ _ (by simp) (by omega) (fun t e=>by cases e)
end
section
open Option renaming some → a6, none → a7
open Bool renaming not_true → ax
open List renaming nil_append → aB, drop_eq_getElem_cons → aF, drop_of_length_le → aI, drop_zero → aY, append_nil → bg
open Nat renaming le_trans → aK
open Go.RowKit
def X0 (c:Ctx) (r:Int):Ctx:=(c.1,(r,(c.2.2.1,(c.2.2.2.1,(c.2.2.2.2.1,(c.2.2.2.2.2.1,(c.2.2.2.2.2.2.1,(c.2.2.2.2.2.2.2.1,(c.2.2.2.2.2.2.2.2.1,())))))))))
def aM4 (c:Ctx) (t:bV) (n:Int):Ctx:=(c.1,(2,(c.2.2.1,(c.2.2.2.1,(c.2.2.2.2.1,(c.2.2.2.2.2.1,(t,(n,(c.2.2.2.2.2.2.2.2.1,())))))))))
def ah1 (V:bV->bV) (c:Ctx) (f:List Lf) (l:List Nd):Ctx:=
 let i:=zG l (bK f-1) l.length
 let n:=ed l Ci i
 if n.1=6 then X0 c 5 else if n.1≠7 then X0 c 9 else
 let a:=Dz l i (AO n.2.2.2.1 l 0) 0 i
 let u:=ed l Ci n.2.2.2.1
 if u.1=5 then(if 0<a.1 then aM4 c (V (ed f dLf (ed l Ci a.2).2.1).2.1) a.1 else X0 c 1)
 else if u.1=8 then(if akp (sub f u.2.1 u.2.2.1)=4\/akp (sub f u.2.1 u.2.2.1)=5 then X0 c 4 else X0 c 3)
 else if u.1=13 then(if a.1=0 then X0 c 6 else X0 c 7)
 else if u.1=14 then X0 c 7 else if u.1=15 then X0 c 8 else X0 c 9
abbrev Plc:=bV×Int×Int×(List Tok)×Int×Int×Int×Bool×Bool×Unit
theorem agQ {e:Type} {l:List e} {d:e} {i:Int} (f:0<=i) (g:i<l.length):ed l d i∈l:=by
 obtain⟨k,rfl⟩:=Int.eq_ofNat_of_zero_le f;simp_all [rF]
structure RT (f:List Lf) (l:List Nd):Prop where
 len:l.length<1000000
 hd: ∃m,l=(1,0,(f.length:Int),-1,())::m/\Tr f 0 f.length 0 1 m
theorem RT.node {f:List Lf} {l:List Nd} (h:RT f l) {i:Int} (j:0<=i) (o:i<l.length):0<=(ed l Ci i).2.1/\(ed l Ci i).2.1<=(ed l Ci i).2.2.1/\(ed l Ci i).2.2.1<=f.length/\
  ((ed l Ci i).1=7->(ed l Ci i).2.2.1=(ed l Ci i).2.1+1/\0<=(ed l Ci i).2.2.2.1/\(ed l Ci i).2.2.2.1<l.length):=by
 obtain⟨q,m,e,hT⟩:=h;have g:=agQ (d:=Ci) j o;generalize ed l Ci i=n at g;subst e;rcases List.mem_cons.1 g with e|g
 .simp_all
 .have:=hT.all (by omega) (by omega) n g;have a:=this.f0;have b:=this.ft;have c:=this.t1;have d:=this.u0;have e:=this.u1;exact⟨by omega,b,c,fun p=>⟨this.wd (.inr p),d,by grind⟩⟩
theorem RT.cov {f:List Lf} {l:List Nd} (h:RT f l) (hf:f≠[]):0<=zG l (bK f-1) l.length/\zG l (bK f-1) l.length<l.length:=by
 obtain⟨g,m,e,hT⟩:=h;have i:0<f.length:=List.length_pos_iff.2 hf;rcases al6 l (bK f-1) l.length with h|h
 .exfalso;have: ∀k,0<k->k<=l.length->zG l (bK f-1) k≠ -1:=by
   intro k
   induction k with
   |zero=>intro h;omega
   |succ k j=>
    intro _ hk;rw[zG];split
    .omega
    .rename_i d
     by_cases hk0:k=0
     .exfalso;apply d;subst hk0;rw[show((0:Nat):Int)=0 from rfl,e,show ed ((1,0,(f.length:Int),-1,())::m) Ci 0=(1,0,(f.length:Int),-1,()) from rfl]
      grind [bM]
     omega
  simp_all
 omega
theorem ayA {f:List Lf} (hF:Zo f) (hf:f≠[]) {l:List Nd} (hp:Wi f=a6 (l,())) (hT:RT f l) {V:bV->List UInt8} (z: ∀x∈f,∃b,TA x.2.1=a6 (V x.2.1,(b,()))) (c d:Ctx) (p:Plc):
  qm f d.1 d.2.1 d.2.2.1 d.2.2.2.1 d.2.2.2.2.1 d.2.2.2.2.2.1 d.2.2.2.2.2.2.1 d.2.2.2.2.2.2.2.1 d.2.2.2.2.2.2.2.2.1 c.1 c.2.1 c.2.2.1 c.2.2.2.1 c.2.2.2.2.1 c.2.2.2.2.2.1 c.2.2.2.2.2.2.1 c.2.2.2.2.2.2.2.1 c.2.2.2.2.2.2.2.2.1
   p.1 p.2.1 p.2.2.1 p.2.2.2.1 p.2.2.2.2.1 p.2.2.2.2.2.1 p.2.2.2.2.2.2.1 p.2.2.2.2.2.2.2.1 p.2.2.2.2.2.2.2.2.1=
   a6 (.inr ((),((),()),(ah1 V c f l,p,()))):=by
 have N:=hF.len;have A:eP .i64 (bK f) 1=bK f-1:=ig (by rw[bM];omega) (by rw[bM];omega);obtain⟨v,y⟩:=hT.cov hf;have B:=hT.node v y
 (rewrite [qm,BX];delta wE;rw[hp,bI])
 unfold ah1;simp only;rw[aA1 hT.len,bI,A];simp only[show((0:Int),((0:Int),((0:Int),((0:Int),()))))=Ci from rfl];generalize zG l (bK f-1) l.length=i at*;have D:gy l i=true:=eF v y;generalize O:ed l Ci i=n at*;simp only[D,aa];by_cases h6:n.1=6
 .rw[bW (eG h6),am h6,dM (show n.1≠7 by omega)];rfl
 rw[dG (dM h6),aq h6];by_cases h7:n.1=7
 .obtain⟨S,g,m⟩:=B.2.2.2 h7;rw[eG h7,aq (by simp[h7])];simp only[ax,ac];have hk:=acw n.2.2.2.1 l l 0 rfl (by omega);have E:=abf l i (AO n.2.2.2.1 l 0) 0 i (by omega) hk (by omega);rw[aA0 hT.len g m,bI];simp only;generalize Dz l i (AO n.2.2.2.1 l 0) 0 i=a at*;have q:=hT.node g m;have G:gy l n.2.2.2.1=true:=eF g m;generalize ed l Ci n.2.2.2.1=u at*;simp only[G,aa];by_cases h5:u.1=5
  .rw[bW (eG h5),am h5];by_cases h0:0<a.1
   .obtain⟨j,e,U,I⟩:=E.2.2 h0;have s:=hT.node (i:=a.2) (by omega) (by omega);have W:=s.2.2.2 I;have J:gy l a.2=true:=eF;rw[bW (fG h0),am h0,bW J];have K:gy f (ed l Ci a.2).2.1=true:=eF s.1 (by omega);rw[bW K];have L:=agQ (l:=f) (d:=dLf) (i:=(ed l Ci a.2).2.1) s.1 (by omega);obtain⟨b,M⟩:=z _ L;rw[show((0:Int),(([]:bV),((0:Int),((0:Int),()))))=dLf from rfl,M,bI];rfl
   .rw[dG (gU h0),aq h0];rfl
  rw[dG (dM h5),aq h5];by_cases h8:u.1=8
  .rw[bW (eG h8),am h8,aK9 (by omega) q.1 q.2.1 q.2.2.1,bI];simp only;generalize akp (sub f u.2.1 u.2.2.1)=o;by_cases o4:o=4
   .rw[bW (eG o4),am (.inl o4)];rfl
   rw[dG (dM o4)];by_cases o5:o=5
   .rw[bW (eG o5),am (.inr o5)];rfl
   rw[dG (dM o5),aq (by omega)];rfl
  rw[dG (dM h8),aq h8];by_cases h13:u.1=13
  .rw[bW (eG h13),am h13];by_cases h0:a.1=0
   .rw[bW (eG h0),am h0];rfl
   .rw[dG (dM h0),aq h0];rfl
  rw[dG (dM h13),aq h13];by_cases h14:u.1=14
  .rw[bW (eG h14),am h14];rfl
  rw[dG (dM h14),aq h14];by_cases h15:u.1=15
  .rw[bW (eG h15),am h15];rfl
  rw[dG (dM h15),aq h15];rfl
 .rw[dM h7,am h7];rfl
theorem apY {s:List UInt8} (d:s.length<1000000): ∃y,V6 s=a6 (if asg s=true then sub s 0 (nl s:Int)else [],(y,(asg s,()))):=by
 have f:nl s<=s.length:=by unfold nl;split;omega;exact Gt NS s
 rw[V6,Xg d,bI];simp only;by_cases h0:nl s=0
 .simp_all [eG,asg]
 rw[dG (dM)];by_cases h1:nl s=s.length
 .simp_all [eG,bM,asg]
 have e:nl s<s.length:=by omega
 rw[dG (dM (by rw[bM];omega)),bW (eF),byte_at e];have g:s.getD (nl s) 0=s[nl s]:=by simp_all
 by_cases h3:s[nl s]=61
 .rw[h3,show bY ((61:UInt8).toNat:Int) 61=true from rfl];simp only[ax,ac];rw[dB,bW (fQ (by omega) (by omega) (by rw[bM];omega)),bW (fQ (by omega) (by rw[bM];omega) (by omega))];simp_all [asg]
 .rw[dM (fun h=>h3 (UInt8.toNat_inj.1 (by grind)))];simp_all [asg]
def wTx (w:bV):bV:=if asg w=true then sub w 0 (nl w:Int)++[61]else [95]
def Y2 (s:bV) (tk:List Tok) (b:Int):List Lf:=iy s (tk.filter fun t=>decide (t.2.2.1<=b))++[(6,(wTx (sub s b (bK s)),(0,(0,()))))]
theorem aEa (w:bV):(wTx w).length<=w.length+1:=by
 unfold wTx;split
 .have:=xG w 0 (nl w:Int);have d:nl w<=w.length:=by unfold nl;split;omega;exact Gt NS w
  grind
 .simp
theorem aIt {s:List UInt8} (e:s.length<=9000) {tk:List Tok} (g:tk.length<=s.length) (b:Int) (i:0<=b):Zo (Y2 s tk b):=by
 refine⟨?_,fun f d=> ?_⟩
 .unfold Y2 iy
  grind
 .rcases List.mem_append.1 d with h|h
  .unfold iy at h;obtain⟨t,_,rfl⟩:=List.mem_map.1 h
   grind [ag7,sub]
  grind [aEa,xG,bM]
theorem Xb (tk:List Tok) (hk:tk.length<1000000) (b d f g i j l:Int) (m:bV) (q:Bool) (s:bV) (u v:Int) (c:Ctx) (p:Plc): ∀(N k:Nat) (o:List Tok),tk.length-k<N->k<=tk.length->o.length<=k->
  zi N b tk (bK tk) (k:Int) d f o g i j l m q s u v c.1 c.2.1 c.2.2.1 c.2.2.2.1 c.2.2.2.2.1 c.2.2.2.2.2.1 c.2.2.2.2.2.2.1 c.2.2.2.2.2.2.2.1 c.2.2.2.2.2.2.2.2.1
   p.1 p.2.1 p.2.2.1 p.2.2.2.1 p.2.2.2.2.1 p.2.2.2.2.2.1 p.2.2.2.2.2.2.1 p.2.2.2.2.2.2.2.1 p.2.2.2.2.2.2.2.2.1=
  a6 (.inl ((b,()),((d,f,()),(),()),(o++(tk.drop k).filter (fun t=>decide (t.2.2.1<=b)),(g,i,j,l,m,q,s,u,v,()),c,p,())))
 |0,k,o,h,_,_=>by omega
 |N+1,k,o,h,z,A=>by
  (rewrite [zi,JL];delta kD)
  by_cases e:k<tk.length
  .have x:cO .i64 (k:Int) 1=((k+1:Nat):Int):=by grind [dB]
   rw[bW (fG (by rw[bM];omega)),bW (eF)];simp only[rF e,x];rw[aF e,List.filter_cons];by_cases h1:tk[k].2.2.1<=b
   .rw[bW (oK h1),am (by simpa using h1),bW (qR (by grind [bU]))];have y:=Xb tk hk b d f g i j l m q s u v c p N (k+1) (bU o [tk[k]]) (by omega) (by omega) (by simp_all [bU]);refine Eq.trans y ?_;simp[bU]
   .rw[dG (BC h1),aq (by simpa using h1)];exact Xb tk hk b d f g i j l m q s u v c p N (k+1) o (by omega) (by omega) (by omega)
  .rw[dG (gU (by rw[bM];omega)),aI (by omega)];simp only[List.filter_nil,bg];rfl
theorem oEq {d e:Type} {o o':Option d} {k:d->Option e} (h:o=o'):bJ o k=bJ o' k:=by rw[h]
theorem afH {s:List UInt8} (d:s.length<=10000) {l:List Tok} (hl:l.length<=10000) (e: ∀t∈l,OkT s t):agH s l=a6 (iy s l,()):=by
 have h:=EY d l hl e bT 0 (dJ) (by omega);rw[agH,show Fb bT s l (bK l) 0 []=_ from h,bI];rfl
theorem aGh {s:List UInt8} (E:s.length<=9000) {tk:List Tok} (G:tk.length<=s.length) (I: ∀t∈tk,OkT s t) {b:Int} (u:0<=b) (J:b<=bK s) {V:bV->List UInt8} (K: ∀w:bV,w.length<=10000-> ∃q,TA w=a6 (V w,(q,())))
  (e f g i j:Int) (o p:Bool) (c:Ctx): ∃l,Wi (Y2 s tk b)=a6 (l,())/\RT (Y2 s tk b) l/\
  aBR s e f tk g i j o p c b=a6 ((s,(e,(f,(tk,(g,(i,(j,(o,(p,()))))))))),(ah1 V c (Y2 s tk b) l,())):=by
 have hF:=aIt E G b u;obtain⟨l,v,X,m,L,hT⟩: ∃l,Wi (Y2 s tk b)=a6 (l,())/\l.length<=16*(Y2 s tk b).length+1/\ ∃m,l=(1,0,((Y2 s tk b).length:Int),-1,())::m/\Tr (Y2 s tk b) 0 (Y2 s tk b).length 0 1 m:=by
  grind [ahM]
 have Y:=hF.len;have z:RT (Y2 s tk b) l:=⟨by omega,m,L,hT⟩;refine⟨l,v,z, ?_⟩;have M:Y2 s tk b≠[]:=by unfold Y2;simp
 have N: ∀x∈Y2 s tk b,∃q,TA x.2.1=a6 (V x.2.1,(q,())):=fun x O=>K _ (hF.txt x O);have S:=Xb tk (by omega) b b b 0 0 0 0 [] false [] 0 0 c (s,e,f,tk,g,i,j,o,p,()) bT 0 [] (dJ) (by omega) (by simp)
 (rewrite [aBR];delta ajB;rw[show zi bT b tk (bK tk) 0 b b [] 0 0 0 0 [] false [] 0 0 c.1 c.2.1 c.2.2.1 c.2.2.2.1 c.2.2.2.2.1 c.2.2.2.2.2.1 c.2.2.2.2.2.2.1 c.2.2.2.2.2.2.2.1 c.2.2.2.2.2.2.2.2.1 s e f tk g i j o p=_ from S,bI])
 simp only[dR,aY,aB];rw[bW (fQ u J (by omega))];have U:=xG s b (bK s);rw[bM]at U;obtain⟨y,W⟩:=apY (s:=sub s b (bK s)) (by rw[bM];omega);rw[W,bI];simp only;have Z:=List.length_filter_le (fun t:Tok=>decide (t.2.2.1<=b)) tk;have A:agH s (tk.filter fun t=>decide (t.2.2.1<=b))=a6 (iy s (tk.filter fun t=>decide (t.2.2.1<=b)),()):=afH (by omega) (aK (List.length_filter_le _ _) (by omega)) fun t h=>I t (List.mem_filter.1 h).1;have B:=ayA hF M v z N;have D:eu (Y2 s tk b) 40=true:=qR (by omega);have d:iy s (tk.filter fun t=>decide (t.2.2.1<=b))++[(6,(wTx (sub s b (bK s)),(0,(0,()))))]=Y2 s tk b:=rfl;unfold wTx at d;by_cases ha:asg (sub s b (bK s))=true
 .have ab:=xG (sub s b (bK s)) 0 (nl (sub s b (bK s)):Int);have ad:nl (sub s b (bK s))<=(sub s b (bK s)).length:=by unfold nl;split;omega;exact Gt NS _
  rw[am ha]at d ⊢;rw[bW ha,bW (Ai (by grind [bM])),A,bI];simp only[bU]at d ⊢;rw[d,bW D];exact(oEq (B c (0,0,0,0,[],false,[],0,0,()) (s,e,f,tk,g,i,j,o,p,()))).trans rfl
 .rw[aq ha]at d ⊢;rw[dG (by simpa using ha),A,bI];simp only[bU]at d ⊢;rw[d,bW D];exact(oEq (B c (0,0,0,0,[],false,[],0,0,()) (s,e,f,tk,g,i,j,o,p,()))).trans rfl
end
section
open Go.RowKit
def Wu (u:bV) (k:Int) (d b:Bool):Bool:=b||(decide (k=7)&&(d|| !(bY (cu u (bK u-1)) 10)))
def kU (u:bV) (t:Tok):Int:=if t.1=6 then t.2.1 else bK u
theorem auJ (u:bV) (f d:Int) (l:List Tok) (hl:l.length<1000000) (b:Bool):
  awk u f d l 0 0 0 false b=some ((u,(f,(d,(l,((iq l).1,((iq l).2.1,((iq l).2.2.1,((iq l).2.2.2.1,(b,()))))))))),()):=by
 rw[awk];rcases List.eq_nil_or_concat l with h|⟨r,t,h⟩
 .subst h;rfl
 .rw[List.concat_eq_append]at h;subst h;obtain⟨e,g,i⟩:=axj r t (by grind);simp_all [NW]
theorem aB7 (u:bV) (j:u.length<1000000) (f d:Int) (l:List Tok) (k fr to_:Int) (e b:Bool) (g:k=7->u≠[]):
  aBK u f d l k fr to_ e b=some ((u,(f,(d,(l,(k,(fr,(to_,(e,(b,()))))))))),(Wu u k e b,())):=by
 rw[aBK];unfold Wu;cases b with
 |true=>rfl
 |false=>
  rw[ac];by_cases h:k=7
  .have m:0<u.length:=List.length_pos_iff.2 (g h);rw[bW (eG h)];cases e with
   |true=>simp[h]
   |false=>
    have i:eP .i64 (bK u) 1=bK u-1:=ig (by rw[bM];omega) (by rw[bM];omega);rw[ac,i,bW (eF (by rw[bM];omega) (by rw[bM];omega))];simp[h]
  simp_all [dM]
theorem aEc (u:bV) (f d:Int) (l:List Tok) (k fr to_:Int) (e b:Bool):
  aBL u f d l k fr to_ e b=some ((u,(f,(d,(l,(k,(fr,(to_,(e,(b,()))))))))),(if k=6 then fr else bK u,())):=by
 rw[aBL];by_cases h:k=6
 .simp_all [eG]
 simp_all [dM]
theorem aNP {u:List UInt8} (d:u.length<=10000):0<=kU u (iq (kJ u).1)/\kU u (iq (kJ u).1)<=bK u:=by
 unfold kU;split
 .simp_all [arx,bM]
 .rw[bM];omega
theorem aPz (s:fE):(lo s).map (fun f=>letter f.1)=so s:=by
 simp_all [lo,so]
def aOB (u:bV):bV:=if Wu u (iq (kJ u).1).1 (iq (kJ u).1).2.2.2.1 (kJ u).2.2.2.1=true then [72]else if bY (iq (kJ u).1).1 3=true then [84,35]else so (gB (sub u (kU u (iq (kJ u).1)) (bK u)) 0 dZ).1
end
section
open Bool renaming and_true → ay
open Int renaming toNat_natCast → aS
open List renaming eq_nil_of_length_eq_zero → bF
open Go.RowKit
def aiv (f:List Lf):List Nd:=((Wi f).getD ([],())).1
def VI (V:bV->bV×Bool):Nat->bV->Int->Int->List Tok->Bool->Ctx
 |0,_,_,_,_,_=>(0,0,0,0,[],false,[],0,0,())
 |n+1,s,d,e,tk,g=>
  if Wu s (iq tk).1 (iq tk).2.2.2.1 g=true then XH s d e 4
  else if(iq tk).1=3 then XH s d e 3
  else match VK (lo (gB (sub s (kU s (iq tk)) (bK s)) 0 dZ).1)with
   |some f=>if f.1=1\/f.1=3 then VI V n (sub s (kU s (iq tk)+f.2.1+2) (bK s)) (d+(kU s (iq tk)+f.2.1+2)) (e+GK (lo (gB (sub s (kU s (iq tk)) (bK s)) 0 dZ).1)) (ag8 (sub s (kU s (iq tk)+f.2.1+2) (bK s))) false
    else auC s d (e+GK (lo (gB (sub s (kU s (iq tk)) (bK s)) 0 dZ).1)) f (sub s (kU s (iq tk)) (bK s))
   |none=>if abH (sub s (kU s (iq tk)) (bK s))≠[]then aht s d (e+GK (lo (gB (sub s (kU s (iq tk)) (bK s)) 0 dZ).1)) (abH (sub s (kU s (iq tk)) (bK s)))
    else ah1 (fun x=>(V x).1) (1,0,d+kU s (iq tk),stF (lo (gB (sub s (kU s (iq tk)) (bK s)) 0 dZ).1),(V (sub s (kU s (iq tk)) (bK s))).1,(V (sub s (kU s (iq tk)) (bK s))).2,[],0,e+GK (lo (gB (sub s (kU s (iq tk)) (bK s)) 0 dZ).1),())
     (Y2 s tk (kU s (iq tk))) (aiv (Y2 s tk (kU s (iq tk))))
theorem ang {s:List UInt8} (d:s.length<=10000) (g i j:Int) (m:Bool): ∀(N a:Nat) (l:List Tok),s.length-a<N->a<=s.length->l.length<=a->
  ∃r,Qm N s (a:Int) l=some (.inl r)/\r=((),(AP s N a l,()))
 |0,a,l,h,_,_=>by omega
 |N+1,a,l,h,u,v=>by
  rw[Qm,afg,AP];by_cases e:a<s.length
  .have x:=xF d e (0,[],false,());rw[bW (fG (by rw[bM];omega)),att d e (0,[],false,()) (fun h=>by cases h) (by simp),bI,am e];simp only[eU,iL,Bool.and_self,ay,aa];obtain⟨b,f⟩: ∃b:Nat,(jC s a (0,[],false,())).1.2.2.1=(b:Int):=⟨(jC s a (0,[],false,())).1.2.2.1.toNat,by omega⟩;rw[bW (qR (by grind [bU]))];have o:=ang d g i j m N b (l++[(jC s a (0,[],false,())).1]) (by omega) (by omega) (by grind);rw[f,aS];obtain⟨r,p,q⟩:=o;refine⟨r, ?_,q⟩;rw[<-p,<-f];rfl
  .rw[dG (gU (by rw[bM];omega)),aq e];exact⟨_,rfl,rfl⟩
theorem aGd {s:List UInt8} (d:s.length<=10000):aBX s=some (ag8 s,()):=by
 obtain⟨r,e,f⟩:=ang d 0 0 0 false bT 0 [] (dJ) (by omega) (by simp);rw[aBX,show Qm bT s 0 []=_ from e,bI,f];have g:AP s bT 0 []=ag8 s:=Z9 d _ _ _ _ (by have:=dJ (n:=s.length) (by omega);omega) (by omega);rw[g];rfl
theorem ag6 {l:List Tok} (h:(iq l).1≠0):iq l∈l:=by
 rcases List.eq_nil_or_concat l with e|⟨r,t,e⟩
 .rw[e]at h;exact absurd rfl h
 simp_all [NW]
theorem apT {s:List UInt8} {tk:List Tok} (d: ∀t∈tk,OkT s t):0<=kU s (iq tk)/\kU s (iq tk)<=bK s:=by
 unfold kU;split
 .rename_i h
  have:=d _ (ag6 (by omega));have a:=this.f0;have b:=this.ft;have c:=this.t1;rw[bM];omega
 .rw[bM];omega
theorem aBm (l:List xM):GK l<=l.length:=List.countP_le_length
theorem axm {w:List UInt8} {f:xM} (h:f∈lo (gB w 0 dZ).1):MW w.length (f.1,f.2.1):=by
 unfold lo at h;rw[List.mem_reverse,List.mem_map]at h;obtain⟨g,d,rfl⟩:=h;exact awo w g d
theorem af4 {l:List xM} {f:xM} (h:VK l=some f):f∈l/\PT f=true:=by
 grind [VK]
theorem agY {s:List UInt8} (d:s.length<1000000):Wj s=some (ajL s,()):=G9 d
theorem afM {V:bV->bV×Bool} (i: ∀w:bV,w.length<=10000->TA w=some ((V w).1,((V w).2,()))) (e:Ctx): ∀(N:Nat) (s:bV) (fr dp:Int) (tk:List Tok) (d:Bool),s.length<N->s.length<=1000->0<=fr->fr+s.length<=1000->0<=dp->dp+1002*s.length<=10000000->
  tk.length<=s.length->(∀t∈tk,OkT s t)->
  Qj N s fr dp tk (iq tk).1 (iq tk).2.1 (iq tk).2.2.1 (iq tk).2.2.2.1 d e.1 e.2.1 e.2.2.1 e.2.2.2.1 e.2.2.2.2.1 e.2.2.2.2.2.1 e.2.2.2.2.2.2.1 e.2.2.2.2.2.2.2.1 e.2.2.2.2.2.2.2.2.1=
   some (.inr ((),(VI V N s fr dp tk d,())))
 |0,s,fr,dp,tk,d,h,_,_,_,_,_,_,_=>by omega
 |N+1,s,fr,dp,tk,d,h,hs,g,h1,d0,d1,z,j=>by
  (rewrite [Qj,ae4];delta Pi Ph;rw[VI])
  have p:(iq tk).1=7->s≠[]:=fun p=>by
   have:=j _ (ag6 (by omega));have a:=this.f0;have b:=this.ft;have c:=this.t1
   grind
  rw[aB7 s (by omega) fr dp tk _ _ _ _ d p,bI];simp only;by_cases hh:Wu s (iq tk).1 (iq tk).2.2.2.1 d=true
  .rw[bW hh,am hh,aeI 4 (by omega) g (by omega),bI];rfl
  rw[dG (by simpa using hh),aq hh];by_cases h3:(iq tk).1=3
  .rw[bW (eG h3),am h3,aeI 3 (by omega) g (by omega),bI];rfl
  rw[dG (dM h3),aq h3,aEc,bI];obtain⟨b0,m⟩:=apT j;have A:(if(iq tk).1=6 then(iq tk).2.1 else bK s)=kU s (iq tk):=rfl;simp only[A];generalize hb:kU s (iq tk)=b at*;have B:eY (bK s) b (bK s)=true:=fQ b0 m (by omega);have D:((sub s b (bK s)).length:Int)=bK s-b:=U5 b0 m (by rw[bM];omega);rw[bM]at m;generalize q:sub s b (bK s)=w at*;have ae:w.length<=s.length:=by rw[bM]at D;omega
  have E:=D5 w 0 dZ kV;have af:dZ.1.length=1:=rfl;have ag:(lo (gB w 0 dZ).1).length<=w.length+1:=by rw[oV];omega
  have G:lo (gB w 0 dZ).1≠[]:=by
   intro ah;have:(gB w 0 dZ).1.length=0:=by grind [oV]
   have v:=E.1;rw[bF this]at v;exact v
  rw[B,aa,aEh w (by omega),bI];simp only;have I: ∀f∈lo (gB w 0 dZ).1,MW w.length (f.1,f.2.1):=fun f J=>axm J;have ai:=aBm (lo (gB w 0 dZ).1);have K: ∀f,VK (lo (gB w 0 dZ).1)=some f->f∈lo (gB w 0 dZ).1/\PT f=true:=fun f h=>af4 h;generalize hF:lo (gB w 0 dZ).1=F at*;rw[aJn (by omega),bI,aqd (by omega),bI];simp only;have L:cO .i64 dp (GK F:Int)=dp+(GK F:Int):=dB;rw[L];cases hd:VK F with
  |some f=>
   obtain⟨M,O⟩:=K f hd;have S:=I f M;simp only[MW]at S;simp only[Option.getD_some,Option.isSome_some,aa];have aj:f.1≠0:=fun h=>by simp[PT,h]at O
   have U:0<=f.2.1/\f.2.1+1<=w.length:=by omega
   by_cases h13:f.1=1\/f.1=3
   .have ak:f.2.1+2<=w.length:=by omega
    have W:cO .i64 b f.2.1=b+f.2.1:=dB;have X:cO .i64 (b+f.2.1) 2=b+f.2.1+2:=dB;have Y:cO .i64 fr (b+f.2.1+2)=fr+(b+f.2.1+2):=dB;have Z:eY (bK s) (b+f.2.1+2) (bK s)=true:=fQ;have ab:((sub s (b+f.2.1+2) (bK s)).length:Int)=bK s-(b+f.2.1+2):=U5 (by omega) (by omega) (by rw[bM];omega);rw[am h13];generalize hu:sub s (b+f.2.1+2) (bK s)=u at*;have al:u.length+2<=s.length:=by omega
    have y:=anf (s:=u) (by omega);have ih:=afM i e N u (fr+(b+f.2.1+2)) (dp+(GK F:Int)) (ag8 u) false (by omega) (by omega) (by omega) (by rw[bM]at ab;omega) (by omega) (by omega) y.2 (fun t o=>(y.1 t o).1);have ad:=auJ u (fr+(b+f.2.1+2)) (dp+(GK F:Int)) (ag8 u) (by omega) false;simp only[W,X,Y,Z,hu,eU,lN,aa,aGd (show u.length<=10000 by omega),bI,ad];rcases h13 with h|h
    .simp_all [eG]
    simp_all [eG]
   .rw[aq h13,dG (dM (fun h=>h13 (.inl h))),dG (dM (fun h=>h13 (.inr h)))];rw[aqc (by omega) g (by omega) (by omega) (fun h=>⟨U.1,by omega⟩) (fun s h=>agY h),bI];rfl
  |none=>
   simp only[Option.getD_none,Option.isSome_none,ac];rw[auE (by omega) (fun s h=>agY h),bI];simp only;by_cases hdl:abH w=[]
   .have a0:cO .i64 fr b=fr+b:=dB;obtain⟨l,p1,p2,p3⟩:=aGh (s:=s) (tk:=tk) (by omega) z j (b:=b) b0 (by assumption) (V:=fun x=>(V x).1) (fun w q=>⟨_,i w q⟩) fr (dp+(GK F:Int)) (iq tk).1 (iq tk).2.1 (iq tk).2.2.1 (iq tk).2.2.2.1 d
     (1,0,fr+b,stF F,(V w).1,(V w).2,[],0,dp+(GK F:Int),())
    have o:aiv (Y2 s tk b)=l:=by grind [aiv]
    rw[dG (by rw[hdl];rfl),aq (by simp[hdl]),aD6 G (by omega),bI];simp only[eU,lN,iL,iD,Bool.and_self,ay,aa,a0,i w (by omega),bI];rw[p3,bI,o];rfl
   .rw[bW (by simp[gp,hdl]),am hdl,acD (by omega) g (by omega) (by
     grind [auD]),bI]
    rfl
def af1 (V:bV->bV×Bool) (s:bV):Ctx:=VI V (s.length+1) s 0 0 (kJ s).1 (kJ s).2.2.2.1
theorem ZF {V:bV->bV×Bool}: ∀(n m:Nat) (s:bV) (fr dp:Int) (tk:List Tok) (d:Bool),s.length<n->s.length<m->(∀t∈tk,OkT s t)->s.length<=10000->VI V n s fr dp tk d=VI V m s fr dp tk d
 |0,_,_,_,_,_,_,h,_,_,_=>by omega
 |_+1,0,_,_,_,_,_,_,h,_,_=>by omega
 |n+1,m+1,s,fr,dp,tk,d,o,p,e,q=>by
  rw[VI,VI];obtain⟨b0,g⟩:=apT e;have u:((sub s (kU s (iq tk)) (bK s)).length:Int)=bK s-kU s (iq tk):=U5 b0 g (by rw[bM];omega);split
  .rfl
  split
  .rfl
  cases hd:VK (lo (gB (sub s (kU s (iq tk)) (bK s)) 0 dZ).1)with
  |none=>rfl
  |some f=>
   simp only;split
   .rename_i v
    have i:=axm (af4 hd).1;simp only[MW]at i;have x:=xG s (kU s (iq tk)+f.2.1+2) (bK s);have y:bK s=(s.length:Int):=rfl;have j:=anf (s:=sub s (kU s (iq tk)+f.2.1+2) (bK s)) (by omega);exact ZF n m _ _ _ _ _ (by omega) (by omega) (fun t l=>(j.1 t l).1) (by omega)
   .rfl
theorem aLc {V:bV->bV×Bool} (e: ∀w:bV,w.length<=10000->TA w=some ((V w).1,((V w).2,()))) {s:List UInt8} (f:s.length<=1000):aBF s=some (af1 V s,()):=by
 obtain⟨d,i,g⟩:=NZ (s:=s) (by omega);have h:=afM e (0,0,0,0,[],false,[],0,0,()) bT s 0 0 (kJ s).1 (kJ s).2.2.2.1 (dJ) f (by omega) (by omega) (by omega) (by omega) g d;rw[aBF,aK7 (by omega),bI];simp only;rw[auJ s 0 0 _ (by omega) _,bI];simp only;rw[show Qj bT s 0 0 (kJ s).1 (iq (kJ s).1).1 (iq (kJ s).1).2.1 (iq (kJ s).1).2.2.1 (iq (kJ s).1).2.2.2.1 (kJ s).2.2.2.1 0 0 0 0 [] false [] 0 0=_ from h,bI];rw[ZF bT (s.length+1) s 0 0 (kJ s).1 (kJ s).2.2.2.1 (dJ) (by omega) d (by omega)];rfl
theorem aA2 {V:bV->bV×Bool} (e: ∀w:bV,w.length<=10000->TA w=some ((V w).1,((V w).2,()))) {s:List UInt8} {c:Int} (f:s.length<=1000) (d:0<=c) (g:c<=s.length):ajx s c=some (af1 V (sub s 0 c),(0,())):=by
 have i:=xG s 0 c;rw[ajx,dG (lD d),dG (lD (by rw[bM];omega)),bW (fQ (by omega) d (by rw[bM];omega)),aLc e (by omega),bI]
end
section
open Option renaming some → a6, none → a7
open Tryz
open Go.RowKit
def GY (d:Int):Option vJ:=bJ (Ku d) fun e=>cond (bY e.1 5) (a6 (true,()))<|cond (bY e.1 6) (a6 (true,()))<|some ((leI 128 d),())
def awj (d:Int):Option vJ:=cond (bY d 37) (cond (bY d 37) (a6 (true,()))<|GY d)<|cond (bY d 43) (cond (bY d 43) (a6 (true,()))<|GY d)<|cond (bY d 44) (cond (bY d 44) (a6 (true,()))<|GY d)<|cond (bY d 45) (cond (bY d 45) (a6 (true,()))<|GY d)<|cond (bY d 46) (cond (bY d 46) (a6 (true,()))<|GY d)<|cond (bY d 47) (cond (bY d 47) (a6 (true,()))<|GY d)<|cond (bY d 58) (cond (bY d 58) (a6 (true,()))<|GY d)<|cond (bY d 64) (a6 (true,()))<|GY d
def aFL:Sum:=⟨[.int .u8],YI,fun x=>awj x.1⟩
theorem aAs:dU prog 79 aFL:=qA f79 [] (sE vF aN)
noncomputable def atx:Code:=(f126.body).getD .skip
noncomputable def Bd:Code:=cB (cA (cB (cA (cB (atx)))))
def BA:fJ:=⟨[4,900018],[],[],[],[2],[]⟩
def Hz:SP:=⟨us [.u,.u,.u,.u,cf] 16,[]⟩
def ul:SP:=⟨us [] 21,[]⟩
def uo:SP:=⟨us [.u,.u,cf] 18,[]⟩
def F5 {d:Type} (e:Option d) (f:Bool->Option d) (g:Bool):Option d:=cond g (f true) e
def iC (d:Bool):Option (ul.den⊕uo.den):=F5 (a6 (.inl ((),()))) (fun e=>a6 (.inr ((e,()),()))) d
noncomputable def Ox:dD:=gu BA Hz ul uo (.exit 999999) (fun v=>iC v.1.1) 6
def mg (d:ul.den⊕uo.den):Option vJ:=dR d (fun f=>a6 (false,())) (fun e=>a6 (e.1.1,()))
def amo (d:bV):Option vJ:=cond (gp d [33]) (bJ (iC (gp d [33])) fun e=>mg e)<|cond (gp d [123]) (bJ (iC (gp d [123])) fun e=>mg e)<|cond (gp d [125]) (bJ (iC (gp d [125])) fun e=>mg e)<|cond (gp d [99,97,115,101]) (bJ (iC (gp d [99,97,115,101])) fun e=>mg e)<|cond (gp d [100,111]) (bJ (iC (gp d [100,111])) fun e=>mg e)<|cond (gp d [100,111,110,101]) (bJ (iC (gp d [100,111,110,101])) fun e=>mg e)<|cond (gp d [101,108,105,102]) (bJ (iC (gp d [101,108,105,102])) fun e=>mg e)<|cond (gp d [101,108,115,101]) (bJ (iC (gp d [101,108,115,101])) fun e=>mg e)<|cond (gp d [101,115,97,99]) (bJ (iC (gp d [101,115,97,99])) fun e=>mg e)<|cond (gp d [102,105]) (bJ (iC (gp d [102,105])) fun e=>mg e)<|cond (gp d [102,111,114]) (bJ (iC (gp d [102,111,114])) fun e=>mg e)<|cond (gp d [105,102]) (bJ (iC (gp d [105,102])) fun e=>mg e)<|cond (gp d [105,110]) (bJ (iC (gp d [105,110])) fun e=>mg e)<|cond (gp d [116,104,101,110]) (bJ (iC (gp d [116,104,101,110])) fun e=>mg e)<|cond (gp d [117,110,116,105,108]) (bJ (iC (gp d [117,110,116,105,108])) fun e=>mg e)<|bJ (iC (gp d [119,104,105,108,101])) fun e=>mg e
def aJr:Sum:=⟨[.str],YI,fun x=>amo x.1⟩
noncomputable def PV:Env:=jm prog tt 126 [] [(800018,BA)] [(800018,Ox)]
theorem Yk {R:Type} (d:Nat) (K:Ex->St->Option R) (e:Bool):
  iter (a6 BA) (zH (xx PV (d+6) 126 Bd)) 1 (lg Hz ((e,()),())) K=
   F5 (K (.exit 999999) (lg ul ((),()))) (fun f=>K .ret (lg uo ((f,()),()))) e:=by kernel_rfl
theorem acp {R:Type} (d:Nat) (K:Ex->St->Option R) (e:Bool):
  iter (a6 BA) (zH (xx PV (d+6) 126 Bd)) 1 (lg Hz ((e,()),())) K=bJ (iC e) fun o=>dR o (fun a=>K (.exit 999999) (lg ul a)) fun b=>K .ret (lg uo b):=by
  rw[Yk];simp only[iC,F5,dm,dn,bI,di,dw]
  try simp only[dR]
theorem acM:tH PV 126 Bd Ox:=GL (by kernel_rfl) fun R d K v o h=>⟨1,(acp d K (v.1.1)).trans (congrArg (fun o=>bJ o _) h)⟩
theorem aHi:jF atx=[]:=by kernel_rfl
theorem aGD:D7 PV 126 atx=[Bd]:=by kernel_rfl
theorem aHx:dO PV 126 atx:=wY atx (fun x _ d=>absurd (show false=true from d) (by decide)) (by rw[aHi];exact aN) (yf (by rw[aGD];exact(aD (fC (by kernel_rfl) (acM)) aN)))
theorem aqn:fK PV:=eA f126 aN (aHx)
theorem asr:dU prog 126 aJr:=sA aqn
def aBW (d:bV):Option vJ:=bJ (amo d) fun e=>cond e.1 (a6 (true,()))<|cond (!(gp d [])) (bJ (DY d 0) fun f=>a6 ((bY f.1 (bK d)),()))<|some (false,())
def aFM:Sum:=⟨[.str],YI,fun x=>aBW x.1⟩
theorem aAt:dU prog 80 aFM:=qA f80 [] (sE asr (sE QY aN))
noncomputable def b41:Code:=(f41.body).getD .skip
noncomputable def aEq:Code:=cA (cA (cB (cA (cB (cB (cB (b41)))))))
def aEX:fJ:=⟨[0,3,8,9,100005],[],[3],[],[2],[]⟩
def aHa:fJ:=⟨[0,3,8,9],[],[],[],[],[]⟩
def am9:fJ:=⟨[0,3,4,8,9],[],[],[],[],[]⟩
def aod:SP:=⟨us [b9,.u,.u,ck,.u,.u,.u,.u,bX,bX] 27,[cg,cr]⟩
def akx:SP:=⟨us [.u,.u,.u,ck] 33,[cg,cr]⟩
def akX:SP:=⟨us fu 34,[]⟩
def Iu {g:Type} (f:iG) (d:bV) (e:Int) (i:bV->Int->Int->iG->Option g) (j:Int):Option g:=cond (eu (bU f [92]) 1) (cond (gy d e) (cond (eu (bU (bU f [92]) [(cu d e)]) 1) (i d j (cO .i64 e 1) (bU (bU f [92]) [(cu d e)])) a7) a7) a7
def Eu {f:Type} (d:bV) (e:Int) (g:iG) (i:bV->Int->Int->iG->Option f) (j:Int):Option f:=cond (gy d e) (cond (eu (bU g [(cu d e)]) 1) (i d j (cO .i64 e 1) (bU g [(cu d e)])) a7) a7
def Yb {j:Type} (i:bV->Int->Int->iG->Option j) (m:iG->Option j) (p:bV->Option j) (e:bV) (g d:Int) (f:iG):Option j:=cond (iF d g) (cond (gy e d) (cond (bY (cu e d) 10) (cond (eu (bU f (cZ [39,10,39])) 1) (i e g (cO .i64 d 1) (bU f (cZ [39,10,39]))) a7)<|cond (gy e d) (bJ (awj (cu e d)) fun l=>cond (!l.1) (cond (!l.1) (Iu f e d i g)<|Eu e d f i g)<|cond (bY d 0) (bJ (aBW e) fun o=>cond o.1 (Iu f e d i g)<|Eu e d f i g)<|Eu e d f i g) a7) a7)<|m f
def Fe:Nat->bV->Int->Int->iG->Option (akx.den⊕akX.den)
 |0,_,_,_,_=>a7
 |n+1,d,e,f,g=>Yb (Fe n) (fun i=>a6 (.inl ((),((),i,())))) (fun j=>a6 (.inr ((j,()),()))) d e f g
def aIa (n:Nat) (v:aod.den):=Fe n v.1.1 v.1.2.1 v.1.2.2.1 v.2.2.1
noncomputable def axG:dD:=gu aEX aod akx akX (.exit 0) (aIa bT) 6
def aBH (d:bV):Option taV:=cond (gp d []) (a6 ([39,39],()))<|bJ (Fe bT d (bK d) 0 []) fun f=>dR f (fun e=>cond (bY (bK e.2.2.1) (bK e.2.2.1)) (a6 ((ofBytes e.2.2.1),())) a7) (fun g=>a6 (g.1.1,()))
def aNg:Sum:=⟨[.str],tzG,fun x=>aBH x.1⟩
noncomputable def au2:Env:=gY prog tt [(79,aFL),(80,aFM)] [(41,5,aEX),(41,600008,aHa),(41,600011,am9),(41,600012,am9),(41,600014,TQ),(20,600001,zV),(19,600001,zV)] [(41,5,axG)] []
def ayM {d:Type} (a:aod.den->Option d) (b:akx.den->Option d) (c:akX.den->Option d) (v:aod.den):Option d:=Yb (fun e f g i=>a ((e,f,g,()),((),i,()))) (fun j=>b ((),((),j,()))) (aE c) v.1.1 v.1.2.1 v.1.2.2.1 v.2.2.1
theorem aIL:dX au2 41 aEq axG:=yu (ayM) (h2:=by intros;simp only[ayM,aE,Yb,dm,dn,bI,di,dw,Iu,Eu])
theorem aMq:dO au2 41 b41:=pI [aEq] (aD (fM (aIL)) aN)
theorem au3:fK au2:=eB (aD aAs (aD aAt aN)) [41] (aD ⟨f41,b41,by kernel_rfl,by kernel_rfl,aMq⟩ aN)
theorem az7:dU prog 41 aNg:=sA au3
def aBI (e:bV):Option taV:=bJ (aaz e [39] [39,92,39,39]) fun d=>cond (iQ [39] d.1) (a6 ((bU [39] d.1),())) a7
def aNh:Sum:=⟨[.str],tzG,fun x=>aBI x.1⟩
theorem az8:dU prog 42 aNh:=qA f42 [] (sE ais aN)
noncomputable def b43:Code:=(f43.body).getD .skip
noncomputable def aEr:Code:=cA (cA (cB (cA (cB (cB (cB (b43)))))))
def aEY:fJ:=⟨[0,3,7,8,100004],[],[3],[],[2],[]⟩
def ana:fJ:=⟨[0,3,4,7,8],[],[],[],[],[]⟩
def aoe:SP:=⟨us [b9,.u,.u,ck,.u,.u,.u,bX,bX] 17,[cg,cr]⟩
def aky:SP:=⟨us [.u,.u,.u,ck] 22,[cg,cr]⟩
def akY:SP:=⟨us fu 23,[]⟩
def Ew {g:Type} (f:iG) (d:bV) (e:Int) (i:bV->Int->Int->iG->Option g) (j:Int):Option g:=cond (eu (bU f [92]) 1) (cond (gy d e) (cond (eu (bU (bU f [92]) [(cu d e)]) 1) (i d j (cO .i64 e 1) (bU (bU f [92]) [(cu d e)])) a7) a7) a7
def Ey {f:Type} (d:bV) (e:Int) (g:iG) (i:bV->Int->Int->iG->Option f) (j:Int):Option f:=cond (gy d e) (cond (eu (bU g [(cu d e)]) 1) (i d j (cO .i64 e 1) (bU g [(cu d e)])) a7) a7
def ae8 {j:Type} (i:bV->Int->Int->iG->Option j) (l:iG->Option j) (m:bV->Option j) (e:bV) (f d:Int) (g:iG):Option j:=cond (iF d f) (cond (gy e d) (cond (bY (cu e d) 36) (cond (bY (cu e d) 36) (Ew g e d i f)<|Ey e d g i f)<|cond (bY (cu e d) 96) (cond (bY (cu e d) 96) (Ew g e d i f)<|Ey e d g i f)<|cond (bY (cu e d) 34) (cond (bY (cu e d) 34) (Ew g e d i f)<|Ey e d g i f)<|cond (bY (cu e d) 92) (Ew g e d i f)<|Ey e d g i f) a7)<|l g
def LM:Nat->bV->Int->Int->iG->Option (aky.den⊕akY.den)
 |0,_,_,_,_=>a7
 |n+1,d,e,f,g=>ae8 (LM n) (fun i=>a6 (.inl ((),((),i,())))) (fun j=>a6 (.inr ((j,()),()))) d e f g
def aIb (n:Nat) (v:aoe.den):=LM n v.1.1 v.1.2.1 v.1.2.2.1 v.2.2.1
noncomputable def axH:dD:=gu aEY aoe aky akY (.exit 0) (aIb bT) 6
def aBJ (e:bV):Option taV:=cond (eu (bU [] [34]) 1) (bJ (LM bT e (bK e) 0 (bU [] [34])) fun f=>dR f (fun d=>cond (bY (bK d.2.2.1) (bK d.2.2.1)) (a6 ((ofBytes d.2.2.1),())) a7) (fun g=>a6 (g.1.1,()))) a7
def aNi:Sum:=⟨[.str],tzG,fun x=>aBJ x.1⟩
noncomputable def au4:Env:=gY prog tt [] [(43,4,aEY),(43,600002,axe),(43,600011,ana),(43,600012,ana),(43,600014,TQ),(19,600001,zV)] [(43,4,axH)] []
def ayN {d:Type} (a:aoe.den->Option d) (b:aky.den->Option d) (c:akY.den->Option d) (v:aoe.den):Option d:=ae8 (fun e f g i=>a ((e,f,g,()),((),i,()))) (fun j=>b ((),((),j,()))) (aE c) v.1.1 v.1.2.1 v.1.2.2.1 v.2.2.1
theorem aIM:dX au4 43 aEr axH:=yu (ayN) (h2:=by intros;simp only[ayN,aE,ae8,dm,dn,bI,di,dw,Ew,Ey])
theorem aMr:dO au4 43 b43:=pI [aEr] (aD (fM (aIM)) aN)
theorem au5:fK au4:=eB aN [43] (aD ⟨f43,b43,by kernel_rfl,by kernel_rfl,aMr⟩ aN)
theorem az9:dU prog 43 aNi:=sA au5
def aBE (e:bV) (i:Int) (f:Bool):Option taV:=bJ (aBH e) fun g=>cond (bY i 4) (bJ (aBI e) fun d=>cond f (cond (iQ d.1 [39]) (a6 ((bU d.1 [39]),())) a7)<|some (d.1,()))<|cond (bY i 5) (bJ (aBJ e) fun d=>cond f (cond (iQ d.1 [34]) (a6 ((bU d.1 [34]),())) a7)<|some (d.1,()))<|cond f (cond (iQ g.1 []) (a6 ((bU g.1 []),())) a7)<|some (g.1,())
def aFp:Sum:=⟨[.str,dA,.bool],tzG,fun x=>aBE x.1 x.2.1 x.2.2.1⟩
theorem azS:dU prog 23 aFp:=qA f23 [] (sE az7 (sE az8 (sE az9 aN)))
noncomputable def b12:Code:=(f12.body).getD .skip
noncomputable def aEi:Code:=cA (cA (cB (cA (cB (cB (cA (cB (b12))))))))
def aEQ:fJ:=⟨[0,3,7,8,9,100003],[],[3],[],[2],[]⟩
def an5:SP:=⟨us [b9,.u,.u,b9,.u,.u,.u,.slc 1000007,bX,bX] 18,[.arr 1000007 dA]⟩
def akq:SP:=⟨us [.u,.u,.u,b9] 24,[]⟩
def akQ:SP:=⟨us fu 25,[]⟩
def Ya {j:Type} (l:bV->bV->Int->Int->iG->Option j) (o p:bV->Option j) (f g:bV) (i d:Int) (e:iG):Option j:=cond (iF d i) (cond (gy e d) (cond (pK (dI d) e) (bJ (aBE f (dN e 0 (dI d)) true) fun m=>cond (!(gp g [])) (cond (leI (bK g) (bK m.1)) (l f g i (cO .i64 d 1) e)<|l f m.1 i (cO .i64 d 1) e)<|l f m.1 i (cO .i64 d 1) e) a7) a7)<|o g
def xJ:Nat->bV->bV->Int->Int->iG->Option (akq.den⊕akQ.den)
 |0,_,_,_,_,_=>a7
 |n+1,d,e,f,g,i=>Ya (xJ n) (fun j=>a6 (.inl ((j,()),()))) (fun l=>a6 (.inr ((l,()),()))) d e f g i
def aH2 (n:Nat) (v:an5.den):=bc (xJ n) v
noncomputable def axy:dD:=gu aEQ an5 akq akQ (.exit 0) (aH2 bT) 6
def awc (d:bV):Option taV:=bJ (xJ bT d [] (bK [0,4,5]) 0 [0,4,5]) fun e=>dR e (fun f=>a6 (f.1.1,())) (fun g=>a6 (g.1.1,()))
def aFo:Sum:=⟨[.str],tzG,fun x=>awc x.1⟩
noncomputable def auO:Env:=jm prog tt 12 [(23,aFp)] [(3,aEQ)] [(3,axy)]
def ayE {d:Type} (a:an5.den->Option d) (b:akq.den->Option d) (c:akQ.den->Option d) (v:an5.den):Option d:=bc (Ya (fun e f g i j=>a ((e,f,g,i,()),(j,()))) (aE b) (aE c)) v
theorem aID:dX auO 12 aEi axy:=yu (ayE) (h2:=by intros;simp only[ayE,aE,bc,Ya,dm,dn,bI,di,dw])
theorem aMi:dO auO 12 b12:=pI [aEi] (aD (fM (aID)) aN)
theorem auP:fK auO:=eA f12 (aD azS aN) (aMi)
theorem azw:dU prog 12 aFo:=sA auP
end
section
open Bool renaming not_true → ax, not_false → aA, true_and → aQ
open List renaming append_assoc → ah, length_cons → aG, drop_of_length_le → aI, drop_zero → aY, takeWhile_cons → bi
open Nat renaming le_refl → ae
open Go.RowKit
def aaF (c:UInt8):Bool:=match awj (c.toNat:Int)with
 |some (b,_)=>b
 |none=>false
def aM2:Bool:=(List.range 256).all fun b=>match awj (b:Int)with
 |some _=>true
 |none=>false
theorem ay5:aM2=true:=by kernel_rfl
theorem aJk (c:UInt8):awj (c.toNat:Int)=some (aaF c,()):=by
 have h:=List.all_eq_true.1 ay5 c.toNat (List.mem_range.2 (by have:=c.toNat_lt;omega));split at h
 .rename_i x d
  unfold aaF;rw[d]
 .cases h
theorem aMf {c n:UInt8} (h:c=n):bY (c.toNat:Int) (n.toNat:Int)=true:=eG (by rw[h])
theorem aMe {c n:UInt8} (h:c≠n):bY (c.toNat:Int) (n.toNat:Int)=false:=dM fun e=>h (UInt8.toNat_inj.1 (by omega))
def aeQ (s:bV):Bool:=xu.contains s
theorem aGg {s:List UInt8} (d:s.length<=2000000):awg s=some (aeQ s,()):=by
 by_cases h:xu.contains s=true
 .unfold aeQ;rw[h];rcases acC h with rfl|rfl|rfl|rfl|rfl|rfl|rfl|rfl|rfl|rfl|rfl|rfl|rfl|rfl|rfl|rfl<;>kernel_rfl
 grind [aeQ,Ut]
theorem aiG (s:bV):amo s=some (aeQ s,()):=by
 by_cases h:xu.contains s=true
 .unfold aeQ;rw[h];rcases acC h with rfl|rfl|rfl|rfl|rfl|rfl|rfl|rfl|rfl|rfl|rfl|rfl|rfl|rfl|rfl|rfl<;>kernel_rfl
 .have f:xu.contains s=false:=by simpa using h
  have d: ∀w∈xu,gp s w=false:=fun w g=>Nq fun e=>by simp_all
  unfold aeQ;(rewrite [f,amo];delta mg);simp only[d [33] (by decide),d [123] (by decide),d [125] (by decide),d [99,97,115,101] (by decide),d [100,111] (by decide),d [100,111,110,101] (by decide),d [101,108,105,102] (by decide),d [101,108,115,101] (by decide),d [101,115,97,99] (by decide),d [102,105] (by decide),d [102,111,114] (by decide),d [105,102] (by decide),d [105,110] (by decide),d [116,104,101,110] (by decide),d [117,110,116,105,108] (by decide),d [119,104,105,108,101] (by decide),ac];rfl
theorem aoI: ∀s:bV,bY ((jT s:Nat):Int) (bK s)=s.all isD
 |[]=>rfl
 |c::s=>by
  have d:=aoI s;unfold jT at d ⊢;rw[bi,List.all_cons];cases isD c with
  |true=>
   rw[aQ,<-d];simp only[if_true,aG,bM]
   grind [eG,dM]
  |false=>rfl
def Ip (s:bV):Bool:=aeQ s||(!s.isEmpty&&s.all isD)
theorem aD0 {s:List UInt8} (d:s.length<4000000):aBW s=some (Ip s,()):=by
 rw[aBW,aiG,bI];unfold Ip;cases aeQ s with
 |true=>rfl
 |false=>
  cases s with
  |nil=>rfl
  |cons c r=>
   simp only[ac,Bool.false_or,List.isEmpty_cons,aA,aQ];rw[bW (by rfl),show DY (c::r) 0=_ from Vb d (Nat.zero_le _),bI,aY]
   grind [aoI]
def pl1 (d:Bool) (c:UInt8):bV:=if c=10 then [39,10,39]else if aaF c=false\/d=true then [92,c]else [c]
def Kr (s:bV):bV:=s.flatMap (pl1 false)
def qp (s:bV):bV:=match s with
 |[]=>[39,39]
 |c::r=>pl1 (Ip s) c++Kr r
theorem Uo (b:Bool) (c:UInt8):(pl1 b c).length<=3:=by grind [pl1]
theorem EG (c:UInt8) (r:bV):Kr (c::r)=pl1 false c++Kr r:=rfl
theorem Zx: ∀s:bV,(Kr s).length<=3*s.length
 |[]=>ae _
 |c::r=>by have:=Zx r;grind [Uo,EG]
theorem SK {s:List UInt8} (j:s.length<=2000000) (N k:Nat) (out:bV) (e:k<s.length) (l:out.length<=3*k):
  Fe (N+1) s (bK s) (k:Int) (cZ out)=Fe N s (bK s) ((k+1:Nat):Int) (cZ (out++pl1 (decide (k=0)&&Ip s) s[k])):=by
 (rewrite [Fe,Yb];delta Eu Iu)
 have f:gy s (k:Int)=true:=eF;have hk:cO .i64 (k:Int) 1=((k+1:Nat):Int):=by grind [dB]
 have g:[((s[k].toNat:Nat):Int)]=cZ [s[k]]:=rfl;have i:[(92:Int)]=cZ [92]:=rfl;have d: ∀x:bV,x.length<=3->eu (cZ (out++x)) 1=true:=fun x m=>tY (by grind);rw[bW (fG (by rw[bM];omega))];simp only[f,aa,byte_at e,hk,aJk s[k],bI,g,i,lq,ah,d _ (show([39,10,39]:bV).length<=3 by decide),d _ (show([92]:bV).length<=3 by decide),d _ (show([s[k]]:bV).length<=3 by simp),d _ (show(([92]:bV)++[s[k]]).length<=3 by simp)];unfold pl1;by_cases h:s[k]=10
 .rw[show(10:Int)=(((10:UInt8).toNat:Nat):Int) from rfl,aMf h,am h];rfl
 .rw[show(10:Int)=(((10:UInt8).toNat:Nat):Int) from rfl,aMe h,aq h,ac];cases hsf:aaF s[k]with
  |false=>rfl
  |true=>
   simp only[ax,ac];by_cases h0:k=0
   .subst h0;rw[bW (b:=bY ((0:Nat):Int) 0) (eG rfl),aD0 (by omega),bI,decide_eq_true rfl,aQ]
    grind
   simp_all [dM]
theorem SI {s:List UInt8} (d:s.length<=2000000): ∀(N k:Nat) (out:bV),s.length-k<N->1<=k->k<=s.length->out.length<=3*k->
  Fe N s (bK s) (k:Int) (cZ out)=some (.inl ((),((),cZ (out++Kr (s.drop k)),())))
 |0,k,out,h,_,_,_=>by omega
 |N+1,k,out,h,g,hk,f=>by
  by_cases e:k<s.length
  .have i:=Uo (decide (k=0)&&Ip s) s[k];rw[SK d N k out e f,SI d N (k+1) _ (by omega) (by omega) (by omega) (by grind),DJ e,EG,ah,decide_eq_false (by omega),Bool.false_and]
  ·(rewrite [Fe,Yb];delta Eu Iu;rw[dG (gU (by rw[bM];omega)),aI (by omega)])
   simp[Kr]
theorem ayp {s:List UInt8} (d:s.length<=2000000):aBH s=some (qp s,()):=by
 rw[aBH];cases s with
 |nil=>rfl
 |cons c r=>
  have e:=SK (s:=c::r) d (bT-1) 0 [] (by simp) (by simp);rw[show bT-1+1=bT by unfold bT;omega]at e;have g:=Uo (Ip (c::r)) c;rw[aG]at d;have f:=SI (s:=c::r) (by assumption) (bT-1) 1 (pl1 (Ip (c::r)) c) (by grind [bT]) (ae _) (by simp) (by omega);rw[dG (Nq (by simp)),show Fe bT (c::r) (bK (c::r)) 0 []=_ from e.trans f,bI];simp only[dR,eU,aa,uU];rfl
end
section
open Bool renaming false_eq_true → ag
open List renaming append_assoc → ah, nil_append → aB, length_cons → aG, drop_of_length_le → aI, length_singleton → aV, drop_zero → aY
open Nat renaming le_refl → ae
open Go.RowKit
def aD2 (c:UInt8):bV:=if c=39 then [39,92,39,39]else [c]
def Zi (s:bV):bV:=s.flatMap aD2
def db1 (c:UInt8):bV:=if(bY (c.toNat:Int) 36||(bY (c.toNat:Int) 96||(bY (c.toNat:Int) 34||bY (c.toNat:Int) 92)))=true then [92,c]else [c]
def iU (s:bV):bV:=s.flatMap db1
theorem ayz (new:bV) (b:UInt8) (hb:b≠39) (l:bV): ∀k,Lib.replaceK [39] new k (b::l)=b::Lib.replaceK [39] new k l
 |0=>rfl
 |k+1=>by
  have d:List.isPrefixOf [39] (b::l)=false:=by grind
  have e:Lib.index (b::l) [39]=if Lib.index l [39]== -1 then-1 else Lib.index l [39]+1:=by rw[Lib.index,d];rfl
  rw[Lib.replaceK,Lib.replaceK,e];have f:=Lib.index_ge l [39];by_cases h:Lib.index l [39]= -1
  .simp[h]
  .have g:(Lib.index l [39]== -1)=false:=by simpa using h
   have i:(Lib.index l [39]+1== -1)=false:=by simp;omega
   have j:(Lib.index l [39]+1).toNat=(Lib.index l [39]).toNat+1:=by omega
   simp_all
theorem auz (b:UInt8) (hb:b≠39) (l:bV): ∀f,Lib.countFrom [39] f (b::l)=Lib.countFrom [39] f l
 |0=>rfl
 |f+1=>by
  have d:List.isPrefixOf [39] (b::l)=false:=by grind
  have e:Lib.index (b::l) [39]=if Lib.index l [39]== -1 then-1 else Lib.index l [39]+1:=by rw[Lib.index,d];rfl
  rw[Lib.countFrom,Lib.countFrom,e];have g:=Lib.index_ge l [39];by_cases h:Lib.index l [39]= -1
  .simp[h]
  .have i:(Lib.index l [39]== -1)=false:=by simpa using h
   have j:(Lib.index l [39]+1== -1)=false:=by simp;omega
   have m:(Lib.index l [39]+1).toNat=(Lib.index l [39]).toNat+1:=by omega
   simp_all
theorem alo (new:bV): ∀(s:bV) (f:Nat),s.length<f->Lib.replaceK [39] new (Lib.countFrom [39] f s) s=s.flatMap fun c=>if c=39 then new else [c]
 |[],f,h=>by
  obtain⟨f,rfl⟩: ∃g,f=g+1:=⟨f-1,by simp at h;omega⟩;rfl
 |c::s,f,h=>by
  rw[aG]at h;by_cases hc:c=39
  .subst hc;obtain⟨f,rfl⟩: ∃g,f=g+1:=⟨f-1,by omega⟩;have d:Lib.index (39::s) [39]=0:=by rfl
   rw[Lib.countFrom,d];simp only[show((0:Int)== -1)=false from rfl,ag,if_false,Int.toNat_zero,Nat.zero_add,aV,List.drop_succ_cons,aY];rw[Nat.add_comm 1,Lib.replaceK,d];simp only[show((0:Int)== -1)=false from rfl,ag,if_false,Int.toNat_zero,Nat.zero_add,aV,List.drop_succ_cons,aY,List.take_zero,aB];rw[alo new s f (by omega),List.flatMap_cons,am rfl]
  .rw[auz c hc,ayz new c hc,alo new s f (by omega),List.flatMap_cons,aq hc];rfl
theorem O1: ∀s:bV,(Zi s).length<=4*s.length
 |[]=>ae _
 |c::r=>by have:=O1 r;grind [aD2,Zi]
theorem Nk: ∀s:bV,(iU s).length<=2*s.length
 |[]=>ae _
 |c::r=>by have:=Nk r;grind [db1,iU]
theorem azi {s:List UInt8} (e:s.length<=2000000):aBI s=some ([39]++Zi s,()):=by
 have f:=O1 s;have g:Lib.replaceAll s [39] [39,92,39,39]=Zi s:=alo [39,92,39,39] s (s.length+1) (by omega);have d:aaz s [39] [39,92,39,39]=some (Zi s,()):=by
  grind [aaz]
 rw[aBI,d,bI,bW (Ai (by simp;omega))];rfl
theorem Rx {s:List UInt8} (g:s.length<=2000000): ∀(N k:Nat) (out:bV),s.length-k<N->k<=s.length->out.length<=2*k+1->
  LM N s (bK s) (k:Int) (cZ out)=some (.inl ((),((),cZ (out++iU (s.drop k)),())))
 |0,k,out,h,_,_=>by omega
 |N+1,k,out,h,hk,p=>by
  (rewrite [LM,ae8];delta Ey Ew)
  by_cases e:k<s.length
  .have i:gy s (k:Int)=true:=eF;have j:cO .i64 (k:Int) 1=((k+1:Nat):Int):=by grind [dB]
   have l:[((s[k].toNat:Nat):Int)]=cZ [s[k]]:=rfl;have m:[(92:Int)]=cZ [92]:=rfl;have d: ∀x:bV,x.length<=2->eu (cZ (out++x)) 1=true:=fun x o=>tY (by grind);have f: ∀x:bV,x.length<=2->LM N s (bK s) ((k+1:Nat):Int) (cZ (out++x))=some (.inl ((),((),cZ (out++x++iU (s.drop (k+1))),()))):=fun x o=>Rx g N (k+1) _ (by omega) (by omega) (by grind);have hd:iU (s.drop k)=db1 s[k]++iU (s.drop (k+1)):=by rw[DJ e];rfl
   rw[bW (fG (by rw[bM];omega)),hd];simp only[i,aa,byte_at e,j,l,m,lq,ah out [92],d _ (show([92]:bV).length<=2 by decide),d _ (show([s[k]]:bV).length<=2 by simp),d _ (show(([92]:bV)++[s[k]]).length<=2 by simp),f _ (show([s[k]]:bV).length<=2 by simp),f _ (show(([92]:bV)++[s[k]]).length<=2 by simp)]
   grind [db1]
  simp_all [gU,bM,aI,iU]
theorem auF {s:List UInt8} (d:s.length<=2000000):aBJ s=some ([34]++iU s,()):=by
 rw[aBJ];refine(bW (show eu (bU ([]:List Int) [34]) 1=true by kernel_rfl)).trans ?_;rw[show LM bT s (bK s) 0 (bU [] [34])=_ from Rx d bT 0 [34] (dJ) (by omega) (by simp),bI];simp_all [dR,eU,uU]
def sS (s:bV) (k:Nat):bV:=if k=4 then [39]++Zi s++[39]else if k=5 then [34]++iU s++[34]else qp s
theorem ari {s:List UInt8} (d:s.length<=2000000) (k:Nat):(sS s k).length<=8000002:=by
 have e:=O1 s;have f:=Nk s;unfold sS;split
 .simp;omega
 .split
  .simp;omega
  .unfold qp;grind [Zx,Uo]
theorem MV {s:List UInt8} (d:s.length<=2000000) (k:Nat):aBE s (k:Int) true=some (sS s k,()):=by
 have f:=O1 s;have g:=Nk s;have e:=ari d k;rw[aBE,ayp d,bI];unfold sS at e ⊢;by_cases h4:k=4
 .rw[bW (eG),azi d,bI,aa,bW (Ai (by simp;omega)),am h4];rfl
 .rw[dG (dM),aq h4];rw[aq h4]at e;by_cases h5:k=5
  .rw[bW (eG),auF d,bI,aa,bW (Ai (by simp;omega)),am h5];rfl
  .rw[aq h5]at e;rw[dG (dM),aq h5,aa,bW (Ai (by simp;omega))];simp[bU]
def ja (s:bV):bV:=
 let a:=if(sS s 4).length<(qp s).length then sS s 4 else qp s
 if(sS s 5).length<a.length then sS s 5 else a
theorem QE (s:bV):qp s≠[]:=by
 cases s with
 |nil=>simp[qp]
 |cons c r=>grind [qp,pl1]
theorem NL (s:bV) (k:Nat):sS s k≠[]:=by
 grind [sS,QE]
theorem aiI {s:List UInt8} (d:s.length<=2000000):awc s=some (ja s,()):=by
 have e:=MV d 0;have p:=MV d 4;have q:=MV d 5;have u:sS s 0=qp s:=rfl;have st: ∀(N:Nat) (b:bV) (i k:Nat) (h:i<3),([0,4,5]:List Int)[i]'(by simpa using h)=(k:Int)->b≠[]->xJ (N+1) s b 3 (i:Int) [0,4,5]=xJ N s (if(sS s k).length<b.length then sS s k else b) 3 ((i+1:Nat):Int) [0,4,5]:=fun N b i k h hk f=>by
  rw[xJ,Ya,bW (fG),bW (eF (by omega) (by grind)),bW (qU (by simp[dI];omega))];have g:dN ([0,4,5]:List Int) 0 (dI (i:Int))=(k:Int):=by simp_all [dN,dI]
  rw[g,MV d k,bI,bW (by rw[Nq f];rfl),dB,show(i:Int)+1=((i+1:Nat):Int) by omega];simp only[bM];by_cases hl:(sS s k).length<b.length
  .simp_all [Sm]
  simp_all [oK,aq]
 have j:xJ (bT-4+1+1+1+1) s [] 3 0 [0,4,5]=xJ (bT-4+1+1+1) s (qp s) 3 ((1:Nat):Int) [0,4,5]:=by
  rw[xJ,Ya,bW (show iF 0 3=true from rfl),bW (show gy ([0,4,5]:List Int) 0=true from rfl),bW (show pK (dI 0) ([0,4,5]:List Int)=true from rfl),show dN ([0,4,5]:List Int) 0 (dI 0)=((0:Nat):Int) from rfl,e,bI,dG (by rw[aEK rfl];rfl)];rfl
 have l: ∀b:bV,xJ (bT-4+1) s b 3 ((3:Nat):Int) [0,4,5]=some (.inl ((b,()),())):=fun b=>by
  rfl
 have m:bT=bT-4+1+1+1+1:=by unfold bT;omega
 have o:xJ bT s [] 3 0 [0,4,5]=some (.inl ((ja s,()),())):=by
  rw[m,j,st _ _ 1 4 (by omega) rfl (QE s),st _ _ 2 5 (by omega) rfl (by grind [NL]),l];rfl
 rw[awc,show xJ bT s [] (bK [0,4,5]) 0 [0,4,5]=_ from o,bI];rfl
end
section
open Bool renaming and_eq_true → af, not_eq_true' → aW
open List renaming mem_cons_of_mem → aj, mem_cons_self → az, nil_append → aB, length_cons → aG, cons_append → aH
open Go.RowKit
inductive AY:bV->bV->Prop
 |nil:AY [] []
 |plain {c:UInt8} {w x:List UInt8} (h:uT c=true/\c≠61) (h2:AY w x):AY (c::w) (c::x)
 |esc {c:UInt8} {w x:List UInt8} (h:c≠10) (h2:AY w x):AY (92::c::w) (c::x)
 |sng {u w x:List UInt8} (h: ∀c∈u,c≠39) (h2:AY w x):AY (39::(u++39::w)) (u++x)
 |dbl {u w x:List UInt8} (h2:AY w x):AY (34::(iU u++34::w)) (u++x)
theorem ay6: ∀n:Fin 256,aaF (UInt8.ofNat n.val)=true->uT (UInt8.ofNat n.val)=true/\n.val≠61:=by decide+kernel
theorem aD1 {c:UInt8} (h:aaF c=true):uT c=true/\c≠61:=by
 have:=ay6 ⟨c.toNat,c.toNat_lt⟩;simp only[UInt8.ofNat_toNat]at this;exact⟨(this h).1,fun e=>(this h).2 (by rw[e];rfl)⟩
theorem aoE (b:Bool) (c:UInt8) {w x:List UInt8} (h:AY w x):AY (pl1 b c++w) (c::x):=by
 unfold pl1;split
 .rename_i e
  subst e;exact AY.sng (u:=[10]) (by simp) h
 .rename_i e
  split
  .exact AY.esc e h
  .rename_i d
   exact AY.plain (aD1 (by simpa using fun h=>d (.inl h))) h
theorem ahS: ∀s:bV,AY (Kr s) s
 |[]=>.nil
 |c::r=>by rw[EG];exact aoE false c (ahS r)
theorem aau (s:bV):AY (qp s) s:=by
 cases s with
 |nil=>exact AY.sng (u:=[]) (by simp) .nil
 |cons c r=>exact aoE _ c (ahS r)
theorem aeL: ∀(s u:bV),(∀c∈u,c≠39)->AY (39::(u++(Zi s++[39]))) (u++s)
 |[],u,h=>AY.sng h .nil
 |c::s,u,h=>by
  by_cases e:c=39
  .subst e;have f:AY (39::(u++39::(92::39::(39::([]++(Zi s++[39])))))) (u++(39::([]++s))):=AY.sng h (.esc (by decide) (aeL s [] (by simp)));simpa [Zi,aD2] using f
  .have g:=aeL s (u++[c]) (by
    intro d hd;rcases List.mem_append.1 hd with hd|hd
    .exact h d hd
    .rw[List.mem_singleton.1 hd];exact e)
   simpa [Zi,aD2,e] using g
theorem XJ (s:bV) (k:Nat):AY (sS s k) s:=by
 unfold sS;split
 .simpa using aeL s [] (by simp)
 .split
  .simpa using AY.dbl (u:=s) .nil
  .exact aau s
theorem QH (s:bV):AY (ja s) s:=by
 unfold ja;simp only;split
 .split
  .exact XJ s 5
  .exact XJ s 4
 .split
  .exact XJ s 5
  .exact aau s
theorem kY {c n:UInt8} (h:c≠n):eX c≠eX n:=fun e=>h (UInt8.toNat_inj.1 (by unfold eX at e;omega))
def ahd (f:lW):Prop:=f.1=0\/f.1=1
theorem apt {f:Int×Int} {r:fE} (hf:ahd f) (fr:Bool) {c:UInt8} (h:uT c=true) (a:Int):eQ (f::r) fr (eX c) a=(f::r,false):=by
 simp only[uT,af,aW,decide_eq_false_iff_not]at h;unfold eQ iJ xn;rcases hf with e|e<;>simp[e,h]
theorem Dv {f:Int×Int} {r:fE} (hf:ahd f\/f.1=5) (fr:Bool) (a:Int):eQ (f::r) fr (eX 92) a=((13,a)::f::r,fr):=by
 unfold eQ iJ xn uf;rcases hf with (e|e)|e<;>simp[e,eX]
theorem Pm (r:fE) (p:Int) (fr:Bool) (b a:Int) (hb:b≠10):eQ ((13,p)::r) fr b a=(r,false):=by
 unfold eQ iJ;simp[hb]
theorem azm (r:fE) (p:Int) (fr:Bool) (b a:Int):(eQ ((13,p)::r) fr b a).1=r:=by
 unfold eQ iJ;simp
theorem afm {f:Int×Int} {r:fE} (hf:ahd f) (fr:Bool) (a:Int):eQ (f::r) fr (eX 39) a=((4,a)::f::r,false):=by
 unfold eQ iJ xn;rcases hf with e|e<;>simp[e,eX]
theorem Ye {f:Int×Int} {r:fE} (hf:ahd f) (fr:Bool) (a:Int):eQ (f::r) fr (eX 34) a=((5,a)::f::r,false):=by
 unfold eQ iJ xn;rcases hf with e|e<;>simp[e,eX]
theorem afl (r:fE) (p:Int) (fr:Bool) {c:UInt8} (h:c≠39) (a:Int):eQ ((4,p)::r) fr (eX c) a=((4,p)::r,fr):=by
 have:=kY h;unfold eQ iJ;simp[show eX c≠39 from this]
theorem Pn (r:fE) (p:Int) (fr:Bool) (a:Int):eQ ((4,p)::r) fr (eX 39) a=(r,fr):=by
 unfold eQ iJ;simp[eX]
theorem Po (r:fE) (p:Int) (fr:Bool) (a:Int):eQ ((5,p)::r) fr (eX 34) a=(r,fr):=by
 unfold eQ iJ uf;simp[eX]
def YT (c:UInt8):Prop:=c=36\/c=96\/c=34\/c=92
theorem TL {c:UInt8} (h:YT c):db1 c=[92,c]:=by
 rcases h with e|e|e|e<;>subst e<;>rfl
theorem abE {c:UInt8} (h: ¬YT c):db1 c=[c]:=by
 unfold YT at h;have d:= @kY c 36 (by grind);have e:= @kY c 96 (by grind);have f:= @kY c 34 (by grind);have g:= @kY c 92 (by grind);unfold db1;rw[aq];rw[show bY (c.toNat:Int) 36=false from dM d,show bY (c.toNat:Int) 96=false from dM e,show bY (c.toNat:Int) 34=false from dM f,show bY (c.toNat:Int) 92=false from dM g];simp
theorem Yf (r:fE) (p:Int) (fr:Bool) {c:UInt8} (h: ¬YT c) (a:Int):eQ ((5,p)::r) fr (eX c) a=((5,p)::r,fr):=by
 unfold YT at h;have d:= @kY c 36 (by grind);have e:= @kY c 96 (by grind);have f:= @kY c 34 (by grind);have g:= @kY c 92 (by grind);unfold eQ iJ uf;simp[show eX c≠36 from d,show eX c≠96 from e,show eX c≠34 from f,show eX c≠92 from g]
theorem IP (c:UInt8) (s:bV):iU (c::s)=db1 c++iU s:=rfl
theorem aii (a:Int) (l:bV) (c:UInt8):a+1+(l.length:Int)=a+((c::l).length:Int):=by rw[aG];omega
theorem Ux (r:fE) (p:Int): ∀(u:bV) (a:Int) (fr:Bool),(∀c∈u,c≠39)->gB u a ((4,p)::r,fr)=((4,p)::r,fr)
 |[],_,_,_=>rfl
 |c::u,a,fr,h=>by
  rw[gB,afl r p fr (h c (az ..))];exact Ux r p u _ fr fun x d=>h x (aj _ d)
theorem OX (r:fE) (p:Int): ∀(u:bV) (a:Int) (fr:Bool),(gB (iU u) a ((5,p)::r,fr)).1=(5,p)::r/\((gB (iU u) a ((5,p)::r,fr)).2=fr\/(gB (iU u) a ((5,p)::r,fr)).2=false)
 |[],_,_=>⟨rfl,.inl rfl⟩
 |c::u,a,fr=>by
  rw[IP];by_cases h:YT c
  .have d:eX c≠10:=by rcases h with e|e|e|e<;>subst e<;>decide
   rw[TL h,aH,aH,aB,gB,Dv (.inr rfl),gB,Pm _ _ _ _ _ d];have:=OX r p u (a+1+1) false;exact⟨this.1,.inr (by rcases this.2 with h|h<;>exact h)⟩
  .rw[abE h,aH,aB,gB,Yf r p fr h];exact OX r p u (a+1) fr
theorem OT {w x:List UInt8} (h:AY w x) {f:Int×Int} {r:fE} (hf:ahd f): ∀(a:Int) (fr:Bool),gB w a (f::r,fr)=(f::r,if w=[]then fr else false):=by
 induction h with
 |nil=>intro a fr;rfl
 | @plain c w x h h2 d=>
  intro a fr;rw[gB,apt hf fr h.1,d,ite_self,aq (by simp)]
 | @esc c w x h h2 d=>
  intro a fr;rw[gB,Dv (.inl hf),gB,Pm _ _ _ _ _ (kY h),d,ite_self,aq (by simp)]
 | @sng u w x h h2 d=>
  intro a fr;rw[gB,afm hf,Aj,Ux _ _ _ _ _ h,gB,Pn,d,ite_self,aq (by simp)]
 | @dbl u w x h2 d=>
  intro a fr;obtain⟨e,g⟩:=OX (f::r) a u (a+1) false;rw[gB,Ye hf,Aj,show gB (iU u) (a+1) ((5,a)::f::r,false)=((5,a)::f::r,false) from Prod.ext e (by rcases g with h|h<;>exact h),gB,Po,d,ite_self,aq (by simp)]
theorem zI {f g:Int×Int} (h:f.1≠12) (r:fE) (b:Int):pz (f::g::r) b=false:=by
 unfold pz;cases r with
 |nil=>simp[h]
 |cons x r=>simp
theorem al9 (g:lW) (r:fE) (p:Int): ∀(u:bV) (a:Int) (fr:Bool),(∀c∈u,c≠39)->jL u a ((4,p)::g::r,fr)=u.length
 |[],_,_,_=>rfl
 |c::u,a,fr,h=>by
  rw[jL,zI (by simp),afl _ p fr (h c (az ..)),al9 g r p u _ fr fun x d=>h x (aj _ d)];simp
theorem abJ (g:lW) (r:fE) (p:Int): ∀(u:bV) (a:Int) (fr:Bool),jL (iU u) a ((5,p)::g::r,fr)=(iU u).length
 |[],_,_=>rfl
 |c::u,a,fr=>by
  rw[IP];by_cases h:YT c
  .have d:eX c≠10:=by rcases h with e|e|e|e<;>subst e<;>decide
   rw[TL h,aH,aH,aB,jL,zI (by simp),Dv (.inr rfl),jL,zI (by simp),Pm _ _ _ _ _ d,abJ g r p u];simp
  .rw[abE h,aH,aB,jL,zI (by simp),Yf _ p fr h,abJ g r p u];simp
theorem aDa {c:UInt8} (h:uT c=true):uD (eX c)=false:=by
 simp only[uT,af,aW]at h;exact h.1.1.1.1.1.1.1.1.1.1
theorem aeK {w x:List UInt8} (h:AY w x) {f:Int×Int} {r:fE} (hf:ahd f): ∀(a:Int) (fr:Bool),jL w a (f::r,fr)=w.length:=by
 induction h with
 |nil=>intro a fr;rfl
 | @plain c w x h h2 d=>
  intro a fr;rw[jL,Bg (aDa h.1),apt hf fr h.1,d];simp
 | @esc c w x h h2 d=>
  intro a fr;rw[jL,Bg (by decide),Dv (.inl hf),jL,zI (by simp),Pm _ _ _ _ _ (kY h),d];simp
 | @sng u w x h h2 d=>
  intro a fr;rw[jL,Bg (by decide),afm hf,DK _ _ _ _ (al9 f r a u _ _ h),Ux _ _ _ _ _ h,jL,zI (by simp),Pn,d];simp
 | @dbl u w x h2 d=>
  intro a fr;obtain⟨e,g⟩:=OX (f::r) a u (a+1) false;rw[jL,Bg (by decide),Ye hf,DK _ _ _ _ (abJ f r a u _ _),show gB (iU u) (a+1) ((5,a)::f::r,false)=((5,a)::f::r,false) from Prod.ext e (by rcases g with h|h<;>exact h),jL,zI (by simp),Po,d];simp
end
section
open Bool renaming not_true → ax, not_false → aA
open Int renaming toNat_natCast → aS
open List renaming append_assoc → ah, length_append → ai, nil_append → aB, drop_eq_getElem_cons → aF, drop_of_length_le → aI, drop_zero → aY, append_nil → bg
open Go.RowKit
def PG (s:bV):bV×Bool:=if aBz s=true then([],false)else(Gl s,true)
theorem XL (L:List jY) (hl:L.length<1000000) (a b c:bV) (e:List jY) (f:List Int) (g:Bool) (t:bV): ∀(N k:Nat) (M:List lW),L.length-k<N->k<=L.length->
  zh N L (bK L) (k:Int) a b c e M f g t=some (.inl ((),((a,b,()),(),()),((c,e,()),Ik M k (L.drop k),(),f,(g,()),(t,()),())))
 |0,k,M,h,_=>by omega
 |N+1,k,M,h,hk=>by
  rw[zh,JK];by_cases e1:k<L.length
  .have d:ed L (0,(0,(0,(0,(false,()))))) (k:Int)=L[k]:=by
    simp_all [ed]
   rw[bW (fG (by rw[bM];omega)),bW (eF),d,dB,show(k:Int)+1=((k+1:Nat):Int) by omega,
    XL L hl a b c e f g t N (k+1) _ (by omega) (by omega),aF e1,Ik]
  .rw[dG (gU (by rw[bM];omega)),aI (by omega)];rfl
theorem ZH (s:bV) (G:s.length<=10000) {to_:Int} (O:to_<=s.length) (B:Int) (S:B<=10000000000000) (g:Int) (i:jY) (j l m q:Int) (u:Bool) (v:List Int) (z:Bool) (A:bV) (D:Bool):
  ∀(N:Nat) (at_:Int) (h o:bV),0<N->to_-at_<N->0<=at_->at_<=s.length->(o.length:Int)+h.length<=B+10000*at_->
  ∃o',ql N to_ D at_ g i (cZ h) j l m q u v s (bP s) (Gx s) (cZ o) z A=
   some (if qY s (bP s) to_ N at_=true then .inr ((),((g,i,()),(),(),(),()),((j,l,m,q,u,()),v,(),(),(s,bP s,()),Gx s,(),(),cZ o',(),(),([],()),()))
    else .inl ((D,()),((g,i,()),(),(),(),()),(cZ (h++oI s (bP s) to_ N at_),(j,l,m,q,u,()),v,(),(),(s,bP s,()),Gx s,(),(),cZ o,(),(z,()),(A,()),())))/\
   (qY s (bP s) to_ N at_=false->(o.length:Int)+(h++oI s (bP s) to_ N at_).length<=B+10000*s.length)
 |0,at_,h,o,U,_,_,_,_=>by omega
 |N+1,at_,h,o,U,ag,E,h1,hh=>by
  (rewrite [ql,Gg];delta qP qO jo gq;rw[oI,qY])
  by_cases e:at_<to_
  .have aj:= @Iy s at_;have ak:=JO s (bP s) at_;have f: ∀(c:bV) (nx:Int),c=(gz s (bP s) at_).2.1->nx=(gz s (bP s) at_).1->nx<=s.length->(gz s (bP s) at_).2.2=false->
     ∃o',(bif eu (cZ (h++c)) 1 then ql N to_ D nx g i (cZ (h++c)) j l m q u v s (bP s) (Gx s) (cZ o) z A else none)=
      some (if((gz s (bP s) at_).2.2||qY s (bP s) to_ N (gz s (bP s) at_).1)=true then .inr ((),((g,i,()),(),(),(),()),((j,l,m,q,u,()),v,(),(),(s,bP s,()),Gx s,(),(),cZ o',(),(),([],()),()))
       else .inl ((D,()),((g,i,()),(),(),(),()),(cZ (h++((gz s (bP s) at_).2.1++oI s (bP s) to_ N (gz s (bP s) at_).1)),(j,l,m,q,u,()),v,(),(),(s,bP s,()),Gx s,(),(),cZ o,(),(z,()),(A,()),())))/\
      (((gz s (bP s) at_).2.2||qY s (bP s) to_ N (gz s (bP s) at_).1)=false->(o.length:Int)+(h++((gz s (bP s) at_).2.1++oI s (bP s) to_ N (gz s (bP s) at_).1)).length<=B+10000*s.length):=by
    intro c nx V W X Y;subst V W;rw[bW (tY (by grind)),Y,Bool.false_or];obtain⟨o',I,J⟩:=ZH s G O B S g i j l m q u v z A D N (gz s (bP s) at_).1 (h++(gz s (bP s) at_).2.1) o (by omega) (by omega) (by omega) X (by grind);rw[ah]at I J;exact⟨o',I,J⟩
   have K:cO .i64 at_ 1=at_+1:=dB;rw[bW (fG e),am e,am e];cases hf:jE (bP s) at_ with
   |none=>
    have d:gz s (bP s) at_=(at_+1,sub s at_ (at_+1),false):=by unfold gz;rw[hf]
    rw[OA hf,show bY 0 0=true from rfl,aa,bW (eF E (by omega)),IC E (by omega),lq,K];exact f _ _ (by rw[d]) (by rw[d]) (by omega) (by rw[d])
   |some p=>
    obtain⟨x,al⟩:=tX hf;have t0:=x.t0;have t1:=x.t1;obtain⟨Z,m2,m3⟩:=OB G hf;rw[Z,ac,m2,aa];simp only[m3];rw[acz x.f0 (by omega),bI];by_cases hlone:lone p=true
    .have d:gz s (bP s) at_=(at_+1,sub s at_ (at_+1),false):=by simp_all [gz]
     rw[hlone,aa,bW (eF E (by omega)),IC E (by omega),lq,K];exact f _ _ (by rw[d]) (by rw[d]) (by omega) (by rw[d])
    .rw[show lone p=false by simpa using hlone,ac];have ab:eP .i64 p.2.2.1 p.2.1=p.2.2.1-p.2.1:=ig;have ad:cO .i64 p.2.1 1=p.2.1+1:=dB;simp only[ab,ad,lq];by_cases h13:p.1=13
     .have an:=x.es h13;have d:gz s (bP s) at_=(p.2.2.1,Lt s p,false):=by simp_all [gz]
      rw[bW (eG h13)];by_cases hto2:p.2.2.1=p.2.1+2
      .rw[dG (lD),bW (eF)];have y:Lt s p=(if cu s (p.2.1+1)=36\/cu s (p.2.1+1)=96\/cu s (p.2.1+1)=34\/cu s (p.2.1+1)=92 then sub s (p.2.1+1) p.2.2.1
         else if cu s (p.2.1+1)=10 then []else nK s p):=by
        simp_all [Lt]
       have ae:ofBytes [cu s (p.2.1+1)]=sub s (p.2.1+1) p.2.2.1:=by
        grind [IC,uU]
       simp only[ae];by_cases b1:cu s (p.2.1+1)=36
       .rw[bW (eG b1),bW (eG b1)];exact f _ _ (by rw[d,y,am (by omega)]) (by rw[d]) (by omega) (by rw[d])
       .rw[dG (dM b1)];by_cases b2:cu s (p.2.1+1)=96
        .rw[bW (eG b2),bW (eG b2)];exact f _ _ (by rw[d,y,am (by omega)]) (by rw[d]) (by omega) (by rw[d])
        .rw[dG (dM b2)];by_cases b3:cu s (p.2.1+1)=34
         .rw[bW (eG b3),bW (eG b3)];exact f _ _ (by rw[d,y,am (by omega)]) (by rw[d]) (by omega) (by rw[d])
         .rw[dG (dM b3)];by_cases b4:cu s (p.2.1+1)=92
          .rw[bW (eG b4)];exact f _ _ (by rw[d,y,am (by omega)]) (by rw[d]) (by omega) (by rw[d])
          .rw[dG (dM b4)];have L: ¬(cu s (p.2.1+1)=36\/cu s (p.2.1+1)=96\/cu s (p.2.1+1)=34\/cu s (p.2.1+1)=92):=by omega
           by_cases b5:cu s (p.2.1+1)=10
           .rw[bW (eG b5)];exact f [] _ (by rw[d,y,aq L,am b5]) (by rw[d]) (by omega) (by rw[d])
           .rw[dG (dM b5),bW (fQ x.f0 (by omega) (by rw[bM];omega))];exact f _ _ (by rw[d,y,aq L,aq b5];rfl) (by rw[d]) (by omega) (by rw[d])
      .rw[bW (fG)];exact f _ _ (by simp_all [Lt]) (by rw[d]) (by omega) (by rw[d])
     .have d:gz s (bP s) at_=(p.2.2.1,nK s p,true):=by simp_all [gz]
      have af:eY (bK s) p.2.1 p.2.2.1=true:=fQ x.f0 (by omega) (by rw[bM];omega);rw[dG (dM h13)];simp only[uU,lq,af,aa,d,Bool.true_or,if_true];rcases Qu h with ⟨he,M⟩|⟨he,M⟩
      .rw[dG (lD)];exact⟨o,rfl,fun h=>by cases h⟩
      .rw[bW (fG M),bW (tY (by grind))];exact⟨o++h,rfl,fun h=>by cases h⟩
  .rw[dG (gU e),aq e,aq e];exact⟨o,by simp,fun _=>by grind⟩
def evR (s:bV) (d:Bool) (e:bV) (E:Bool) (f o':bV):Option (FH.den⊕FM.den):=some (if E=true then .inr ((),((),(),(),()),((s,bP s,()),Gx s,(),(),cZ o',(),(false,()),([],()),()))else .inl ((),((),(),(),()),(cZ f,(),(),(s,bP s,()),Gx s,(),(),cZ o',(),(d,()),(e,()),())))
theorem VM (s:bV) (z:s.length<=10000) (m:Bool) (u:bV): ∀(N:Nat) (at_:Int) (h o:bV),(s.length:Int)-at_<N->0<=at_->at_<=s.length->(o.length:Int)+h.length<=200000000*at_->
  ∃i o',kX N at_ (cZ h) s (bP s) (Gx s) (cZ o) m u=evR s m u (sJ s (bP s) N at_) i o'/\
   (sJ s (bP s) N at_=false->o'++i=o++h++jP s (bP s) N at_/\(o'.length:Int)+i.length<=200000000*s.length)
 |0,at_,h,o,hN,_,_,_=>by omega
 |N+1,at_,h,o,hN,O,h1,hh=>by
  (rewrite [kX,Gf];delta yV yU yT yS yR mO uy dH;rw[jP,sJ])
  by_cases e:at_<s.length
  .have aw:= @Ap s at_;have ab:=Yn (s:=s) e;have ay:(stepT s (bP s) at_).2.length<=100010000:=by
    have h1:=JP s (bP s) at_;have h2:s.length*s.length<=10000*10000:=Nat.mul_le_mul z z;omega
   have go: ∀(g l:bV) (nx:Int),l++g=o++h++(stepT s (bP s) at_).2->nx=(stepT s (bP s) at_).1->je s (bP s) at_=false->
     ∃i o',kX N nx (cZ g) s (bP s) (Gx s) (cZ l) m u=evR s m u (je s (bP s) at_||sJ s (bP s) N (stepT s (bP s) at_).1) i o'/\
      ((je s (bP s) at_||sJ s (bP s) N (stepT s (bP s) at_).1)=false->o'++i=o++h++((stepT s (bP s) at_).2++jP s (bP s) N (stepT s (bP s) at_).1)/\(o'.length:Int)+i.length<=200000000*s.length):=by
    intro g l nx hl G f;subst G;have ad:=congrArg List.length hl;simp only[ai]at ad;obtain⟨i,o',J,A⟩:=VM s z m u N (stepT s (bP s) at_).1 g l (by omega) (by omega) ab (by omega);rw[f,Bool.false_or];refine⟨i,o',J,fun B=> ?_⟩;have:=A B
    grind
   have S: ∀x:bV,x.length<=200000000->eu (cZ (h++x)) 1=true:=fun x B=>tY (by grind);have U: ∀x:bV,x.length<=200000000->eu (cZ (o++x)) 1=true:=fun x B=>tY (by grind);have ae:eu (cZ (o++h)) 1=true:=tY (by grind);have V: ∀x:bV,x.length<=200000000->eu (cZ (o++h++x)) 1=true:=fun x B=>tY (by grind);have af:cO .i64 at_ 1=at_+1:=dB;have y: ∀a b,(sub s a b).length<=200000000:=fun a b=>by grind [Gh]
   rw[bW (fG (b:=bK s) e),am e,am e];cases hf:jE (bP s) at_ with
   |none=>
    have j:stepT s (bP s) at_=(at_+1,sub s at_ (at_+1)):=by unfold stepT;rw[hf]
    have f:je s (bP s) at_=false:=by unfold je;rw[hf]
    rw[OA hf,show bY 0 0=true from rfl,aa];simp only[IC O e,lq,show gy s at_=true from eF O e,lN,eU,aa,S _ (y _ _),af];exact go (h++sub s at_ (at_+1)) o _ (by rw[j,ah]) (by rw[j]) f
   |some p=>
    obtain⟨v,az⟩:=tX hf;have t0:=v.t0;have t1:=v.t1;obtain⟨m1,m2,m3⟩:=OB z hf;have ag:eY (bK s) p.2.1 p.2.2.1=true:=fQ v.f0 (by omega) (by rw[bM];omega);have aj:eY (bK s) (p.2.1+1) p.2.2.1=true:=fQ (by omega) (by omega) (by rw[bM];omega);have ak:cO .i64 p.2.1 1=p.2.1+1:=dB;rw[m1,ac,m2,aa];simp only[m3];rw[acz v.f0 (by omega),bI];simp only[ak,ag,aj,uU,lq,aa,S _ (y _ _),U _ (y _ _),V _ (y _ _),ae];have W: ∀(x:bV),x.length<=200000000->x=(stepT s (bP s) at_).2->p.2.2.1=(stepT s (bP s) at_).1->je s (bP s) at_=false->
     ∃i o',(bif gp h []then kX N p.2.2.1 [] s (bP s) (Gx s) (cZ (o++x)) m u
      else kX N p.2.2.1 [] s (bP s) (Gx s) (cZ (o++h++x)) m u)=evR s m u (je s (bP s) at_||sJ s (bP s) N (stepT s (bP s) at_).1) i o'/\
      ((je s (bP s) at_||sJ s (bP s) N (stepT s (bP s) at_).1)=false->o'++i=o++h++((stepT s (bP s) at_).2++jP s (bP s) N (stepT s (bP s) at_).1)/\(o'.length:Int)+i.length<=200000000*s.length):=by
     intro x B X G f;by_cases he:h=[]
     .subst he;rw[bW (by rfl)];exact go [] _ _ (by rw[<-X];simp) G f
     .rw[dG (by simpa [gp] using he)];exact go [] _ _ (by rw[<-X];simp) G f
    by_cases hpl':lone p=true\/p.1=14
    .have j:stepT s (bP s) at_=(p.2.2.1,nK s p):=by simp_all [stepT]
     have f:je s (bP s) at_=false:=by unfold je;rw[hf];simp only;rw[am hpl']
     have:=go (h++sub s p.2.1 p.2.2.1) o p.2.2.1 (by rw[j,ah];rfl) (by rw[j]) f;by_cases D:lone p=true
     .simp only[D,aa];exact this
     .have K:p.1=14:=hpl'.resolve_left D;simp only[show lone p=false by simpa using D,K,show bY 14 14=true from rfl,aa,ac];exact this
    .have D:lone p=false:=by
      simp_all
     have K:p.1≠14:=fun h=>hpl' (.inr h);simp only[D,dM K,ac];have I:je s (bP s) at_=(if p.1=13 then false else if p.1=4 then false else if p.1=5 then qY s (bP s) (mQ p) s.length (p.2.1+1)else true):=by
      unfold je;rw[hf];simp only;rw[aq hpl']
     by_cases h13:p.1=13
     .have aG:=v.es h13;have j:stepT s (bP s) at_=(p.2.2.1,Lu s p):=by simp_all [stepT]
      have f:je s (bP s) at_=false:=by rw[I,am h13]
      simp only[eG h13,dM (show p.1≠4 by omega),aa,ac];by_cases hto2:p.2.2.1=p.2.1+2
      .have L:sub s (p.2.1+1) p.2.2.1=[s.getD (p.2.1+1).toNat 0]:=by
        obtain⟨n,hn⟩:=Int.eq_ofNat_of_zero_le (show 0<=p.2.1+1 by omega);have Y:n<s.length:=by omega
        rw[hn,show p.2.2.1=((n+1:Nat):Int) by omega,vC,aF Y,List.take_succ_cons,List.take_zero,aS,List.getD_eq_getElem?_getD,List.getElem?_eq_getElem Y];rfl
       have al:gp (sub s (p.2.1+1) p.2.2.1) []=false:=by rw[L];simp[gp]
       rw[al,aA,aa];by_cases b5:cu s (p.2.1+1)=10
       .have an:gp (sub s (p.2.1+1) p.2.2.1) [10]=true:=by
         rw[L];unfold cu at b5;have ao:s.getD (p.2.1+1).toNat 0=10:=UInt8.toNat_inj.1 (by show _=10;omega);rw[ao];rfl
        rw[an,ax,ac];exact go h o _ (by rw[j];simp_all [Lu]) (by rw[j]) f
       .have:gp (sub s (p.2.1+1) p.2.2.1) [10]=false:=by
         rw[L];have M:s.getD (p.2.1+1).toNat 0≠10:=fun h=>b5 (by unfold cu;rw[h];rfl);simpa [gp] using M
        rw[this,aA,aa];exact W _ (y _ _) (by simp_all [Lu]) (by rw[j]) f
      .have au:sub s (p.2.1+1) p.2.2.1=[]:=by
        grind [sub]
       rw[au,show(!gp ([]:bV) [])=false from rfl,ac];exact go h o _ (by rw[j];simp_all [Lu]) (by rw[j]) f
     .simp only[dM h13,ac];by_cases h4:p.1=4
      .have j:stepT s (bP s) at_=(p.2.2.1,sub s (p.2.1+1) (mQ p)):=by simp_all [stepT]
       have f:je s (bP s) at_=false:=by rw[I,aq h13,am h4]
       have Z:p.2.1+1<=mQ p/\mQ p<=p.2.2.1:=by
        unfold mQ;by_cases ho:p.2.2.2.2.1=true
        .grind
        .rw[aq ho];have:=v.sh (by simpa using ho) (by omega);omega
       simp only[eG h4,aa];rw[NQ z v (.inl h4),bI];simp only[fQ (n:=bK s) (lo:=p.2.1+1) (hi:=mQ p) (by omega) Z.1 (by rw[bM];omega),aa,U _ (y _ _),V _ (y _ _)];exact W _ (y _ _) (by rw[j]) (by rw[j]) f
      .simp only[dM h4,ac];by_cases h5:p.1=5
       .have j:stepT s (bP s) at_=(p.2.2.1,oI s (bP s) (mQ p) s.length (p.2.1+1)):=by simp_all [stepT]
        have f:je s (bP s) at_=qY s (bP s) (mQ p) s.length (p.2.1+1):=by rw[I,aq h13,aq h4,am h5]
        have Z:p.2.1+1<=mQ p/\mQ p<=p.2.2.1:=by
         unfold mQ;by_cases ho:p.2.2.2.2.1=true
         .grind
         .rw[aq ho];have:=v.sh (by simpa using ho) (by omega);omega
        simp only[eG h5,aa,NQ z v (.inr h5),bI];have dE:qY s (bP s) (mQ p) bT (p.2.1+1)=je s (bP s) at_:=by
         rw[f];exact PQ s _ _ _ _ (by have:=dJ (n:=s.length) (by omega);omega) (by omega)
        have dT:oI s (bP s) (mQ p) bT (p.2.1+1)=(stepT s (bP s) at_).2:=by
         rw[j];exact IQ s _ _ _ _ (by have:=dJ (n:=s.length) (by omega);omega) (by omega)
        have dbl: ∀(q:bV),q=o++h->
          ∃i o',(bJ (ql bT (mQ p) false (p.2.1+1) p.2.2.1 (p.1,(p.2.1,(p.2.2.1,(p.2.2.2.1,(p.2.2.2.2.1,()))))) [] p.1 p.2.1 p.2.2.1 p.2.2.2.1 p.2.2.2.2.1 (cZ h) s (bP s) (Gx s) (cZ q) m u) fun y2=>
           dR y2 (fun d=>
            bif(bY (bK d.2.2.1) 0)then
             bif d.1.1 then kX N d.2.1.1.1 [] d.2.2.2.2.2.2.2.1.1 d.2.2.2.2.2.2.2.1.2.1 d.2.2.2.2.2.2.2.2.1 d.2.2.2.2.2.2.2.2.2.2.2.1 d.2.2.2.2.2.2.2.2.2.2.2.2.2.1.1 d.2.2.2.2.2.2.2.2.2.2.2.2.2.2.1.1
             else bif(eu (bU d.2.2.2.2.2.2.2.2.2.2.2.1 (cZ (ofBytes d.2.2.1))) 1)then
              kX N d.2.1.1.1 [] d.2.2.2.2.2.2.2.1.1 d.2.2.2.2.2.2.2.1.2.1 d.2.2.2.2.2.2.2.2.1 (bU d.2.2.2.2.2.2.2.2.2.2.2.1 (cZ (ofBytes d.2.2.1))) d.2.2.2.2.2.2.2.2.2.2.2.2.2.1.1 d.2.2.2.2.2.2.2.2.2.2.2.2.2.2.1.1
             else none
            else bif(eu (bU d.2.2.2.2.2.2.2.2.2.2.2.1 (cZ (ofBytes d.2.2.1))) 1)then
             kX N d.2.1.1.1 [] d.2.2.2.2.2.2.2.1.1 d.2.2.2.2.2.2.2.1.2.1 d.2.2.2.2.2.2.2.2.1 (bU d.2.2.2.2.2.2.2.2.2.2.2.1 (cZ (ofBytes d.2.2.1))) d.2.2.2.2.2.2.2.2.2.2.2.2.2.1.1 d.2.2.2.2.2.2.2.2.2.2.2.2.2.2.1.1
            else none) (fun E=>some (.inr ((),((),(),(),()),((E.2.2.2.2.2.2.1.1,E.2.2.2.2.2.2.1.2.1,()),E.2.2.2.2.2.2.2.1,(),(),E.2.2.2.2.2.2.2.2.2.2.1,(),(false,()),(E.2.2.2.2.2.2.2.2.2.2.2.2.2.1.1,()),())))))=
           evR s m u (je s (bP s) at_||sJ s (bP s) N (stepT s (bP s) at_).1) i o'/\
          ((je s (bP s) at_||sJ s (bP s) N (stepT s (bP s) at_).1)=false->o'++i=o++h++((stepT s (bP s) at_).2++jP s (bP s) N (stepT s (bP s) at_).1)/\(o'.length:Int)+i.length<=200000000*s.length):=by
         intro q M;obtain⟨o',J,A⟩:=ZH s z (to_:=mQ p) (by omega) 10000000000000 (by omega) p.2.2.1 (p.1,(p.2.1,(p.2.2.1,(p.2.2.2.1,(p.2.2.2.2.1,()))))) p.1 p.2.1 p.2.2.1 p.2.2.2.1 p.2.2.2.2.1 (cZ h) m u false bT (p.2.1+1) [] q (by unfold bT;omega) (by have:=dJ (n:=s.length) (by omega);omega) (by omega) (by omega) (by grind);rw[show([]:List Int)=cZ [] from rfl,J,bI];rw[dE]at A ⊢;rw[dT]at A ⊢;cases hE1:je s (bP s) at_ with
         |true=>
          rw[am rfl,Bool.true_or];exact⟨[],o',rfl,fun h=>by cases h⟩
         |false=>
          have g1:=go [] (q++(stepT s (bP s) at_).2) p.2.2.1 (by rw[M];simp) (by rw[j]) hE1;have r3:=A hE1;have av:eu (cZ (q++(stepT s (bP s) at_).2)) 1=true:=tY (by grind);rw[hE1]at g1;rw[aq (by simp)];simp only[dR,uU,lq,aB,av,aa,ac,Bool.cond_self];exact g1
        by_cases he:h=[]
        .rw[bW (by rw[he];rfl)];exact dbl o (by rw[he];simp)
        .rw[dG (by simpa [gp] using he)];exact dbl (o++h) rfl
       .have f:je s (bP s) at_=true:=by rw[I,aq h13,aq h4,aq h5]
        simp only[dM h5,ac];rw[f,Bool.true_or];by_cases he:h=[]
        .rw[bW (by rw[he];rfl)];exact⟨[],o,rfl,fun h=>by cases h⟩
        .rw[dG (by simpa [gp] using he)];exact⟨[],o++h,rfl,fun h=>by cases h⟩
  .rw[dG (gU (by rw[bM];omega)),aq e,aq e];exact⟨h,o,rfl,fun _=>by grind⟩
theorem aA6 (s:bV) (f:s.length<=10000):TA s=some ((PG s).1,((PG s).2,())):=by
 have o:=uV s;rw[TA,aGf s (by omega),bI];simp only;have g:=XL (bP s) (by omega) s s s (bP s) [] false [] bT 0 [] (dJ) (by omega);rw[show zh bT (bP s) (bK (bP s)) 0 s s s (bP s) [] [] false []=_ from g,bI];simp only[dR,aY];obtain⟨i,p,j,e⟩:=VM s f false [] bT 0 [] [] (by have:=dJ (n:=s.length) (by omega);omega) (by omega) (by omega) (by simp);rw[show kX bT 0 [] s (bP s) (Ik [] 0 (bP s)) [] false []=_ from j,evR,bI];have l:jP s (bP s) bT 0=Gl s:=zC s _ _ _ (by have:=dJ (n:=s.length) (by omega);omega) (by omega);have m:sJ s (bP s) bT 0=aBz s:=PZ s _ _ _ (by have:=dJ (n:=s.length) (by omega);omega) (by omega);rw[m]at e ⊢;unfold PG;cases hE:aBz s with
 |true=>rfl
 |false=>
  obtain⟨d,q⟩:=e hE;rw[l,aB,aB]at d;rw[aq (by simp),aq (by simp)];simp only[dR,uU,lq,eU,aa];by_cases he:i=[]
  .rw[bW (by rw[he];rfl),<-d,he,bg]
  .rw[dG (by simpa [gp] using he),bW (tY (by grind)),d]
end
section
open Option renaming some → a6, none → a7
open List renaming append_assoc → ah, mem_cons_of_mem → aj, map_cons → au, mem_cons_self → az, nil_append → aB, length_cons → aG, cons_append → aH, drop_of_length_le → aI, length_drop → aU, length_take → aZ, mem_of_mem_take → bn
open Nat renaming lt_or_ge → aJ
open Go.RowKit
theorem zK (p:jY) (L:List jY) (v:Int):jE (p::L) v=if p.2.1=v then a6 p else jE L v:=by
 unfold jE;rw[List.find?_cons];by_cases h:p.2.1=v
 .rw[am h];simp[h]
 .rw[aq h,show(p.2.1==v)=false by simpa using h]
theorem ZL (s:bV): ∀(L:List jY) (v:Int),jE (L.map (qE s)) v=(jE L v).map (qE s)
 |[],_=>rfl
 |p::L,v=>by
  rw[au,zK,zK,P6,ZL s L v];split<;>rfl
theorem Qs (F:List xM) (a:Int) (l:List Int):(oW F a l).2.1=a:=rfl
theorem P7: ∀(l:bV) (a:Int) (x:fE×Bool) (fr:List Int) (v:Int),v<a->jE (pg l a x fr) v=a7
 |[],_,_,_,_,_=>rfl
 |b::l,a,x,fr,v,h=>by
  rw[pg];split
  .rw[zK,uJ,Qs,aq (by omega)];exact P7 l _ _ _ v (by omega)
  .exact P7 l _ _ _ v (by omega)
theorem find_born: ∀(l m:bV) (a:Int) (x:fE×Bool) (fr:List Int) (v:Int),a+l.length<=v-> ∃d,jE (pg (l++m) a x fr) v=jE (pg m (a+l.length) (gB l a x) d) v
 |[],m,a,x,fr,v,_=>⟨fr,by simp[gB]⟩
 |b::l,m,a,x,fr,v,h=>by
  rw[<-aii]at h ⊢;rw[aH,pg,gB];split
  .rw[zK,uJ,Qs,aq (by omega)];exact find_born l m (a+1) _ _ v h
  .exact find_born l m (a+1) _ _ v h
theorem oL {s l m:List UInt8} {a:Nat} (h:s.drop a=l++m):iE s (a+l.length)=gB l a (iE s a):=by
 unfold iE;have e:s.take (a+l.length)=s.take a++l:=by
  rw[List.take_add,h,List.take_left]
 have d:a<=s.length\/l=[]:=by
  rcases aJ s.length a with f|f
  .rw[aI (by omega)]at h;exact .inr (List.append_eq_nil_iff.1 h.symm).1
  .exact .inl f
 rcases d with d|d
 .rw[e,Aj,aZ,Nat.min_eq_left d,Int.zero_add]
 .subst d;simp[gB]
theorem ku {s l m:List UInt8} {a:Nat} (h:s.drop a=l++m):s.drop (a+l.length)=m:=by
 rw[<-List.drop_drop,h,List.drop_left]
theorem af7 {s l:List UInt8} {a:Nat} (h:s.drop a=l):l=[]\/a+l.length=s.length:=by
 have:=congrArg List.length h;rw[aU]at this;cases l with
 |nil=>exact .inl rfl
 |cons c l=>simp at this ⊢;omega
theorem yH {s:List UInt8} {a:Nat} {b:UInt8} {l:List UInt8} (h:s.drop a=b::l): ∃u,jE (bP s) (a:Int)=
  if xK (jS (eQ (iE s a).1 (iE s a).2 (eX b) a).1) a=true then
   a6 (qE s (oU l ((a:Int)+1) (eQ (iE s a).1 (iE s a).2 (eX b) a) (oW (jS (eQ (iE s a).1 (iE s a).2 (eX b) a).1) a u)))else a7:=by
 have i:a<s.length:=(nJ h).2;have d:(s.take a).length=a:=by rw[aZ];omega
 have e:s=s.take a++b::l:=by rw[<-h,List.take_append_drop]
 obtain⟨f,g⟩:=find_born (s.take a) (b::l) 0 dZ [] (a:Int) (by rw[d];omega);rw[<-e,d,Int.zero_add]at g;refine⟨f, ?_⟩;rw[xh,ZL,g];show(jE (pg (b::l) (a:Int) (iE s a) f) (a:Int)).map (qE s)=_;rw[pg];split
 .rw[zK,uJ,Qs,am rfl];rfl
 .rw[P7 _ _ _ _ _ (by omega)];rfl
theorem NE {s:List UInt8} {p:jY} (h:p.1≠12) (h2:p.2.2.2.2.1=false):qE s p=p:=by
 unfold qE;rw[aq h,aq (by rw[h2];simp)]
theorem arX {s:List UInt8} {a:Nat} {c:UInt8} {l:List UInt8} (h:s.drop a=92::c::l) {fr:Bool} (d:iE s a=([(0,0)],fr)):
  ∃u,jE (bP s) (a:Int)=a6 (13,(a:Int),(a:Int)+2,u,false,()):=by
 obtain⟨u,e⟩:=yH h;rw[d]at e;simp only at e;rw[Dv (.inl (.inl rfl)),am (by simp[xK,jS])]at e;simp only at e;refine⟨(oW (jS [(13,(a:Int)),(0,0)]) a u).2.2.2.1,e.trans ?_⟩;have f:=azm [(0,0)] (a:Int) fr (eX c) ((a:Int)+1);have g:jU (jS (eQ [(13,(a:Int)),(0,0)] fr (eX c) ((a:Int)+1)).1) ((a:Int)+1) (oW (jS [(13,(a:Int)),(0,0)]) a u)=(13,(a:Int),(a:Int)+2,(oW (jS [(13,(a:Int)),(0,0)]) a u).2.2.2.1,false,()):=by
  rw[f];simp[jU,jS,qc,oW,xy,counts];omega
 rw[oU,g,zf _ _ _ _ rfl,NE (by simp) rfl]
theorem arY {s:List UInt8} {a:Nat} {v:Int} (i:v<a) {c:UInt8} {l:List UInt8} (h:s.drop a=92::c::l) {fr:Bool} (d:iE s a=([(5,v),(0,0)],fr)):
  ∃u,jE (bP s) (a:Int)=a6 (13,(a:Int),(a:Int)+2,u,false,()):=by
 obtain⟨u,e⟩:=yH h;rw[d]at e;simp only at e;rw[Dv (.inr rfl),am (by simp[xK,jS])]at e;simp only at e;refine⟨(oW (jS [(13,(a:Int)),(5,v),(0,0)]) a u).2.2.2.1,e.trans ?_⟩;have f:=azm [(5,v),(0,0)] (a:Int) fr (eX c) ((a:Int)+1);have g:jU (jS (eQ [(13,(a:Int)),(5,v),(0,0)] fr (eX c) ((a:Int)+1)).1) ((a:Int)+1) (oW (jS [(13,(a:Int)),(5,v),(0,0)]) a u)=(13,(a:Int),(a:Int)+2,(oW (jS [(13,(a:Int)),(5,v),(0,0)]) a u).2.2.2.1,false,()):=by
  rw[f];have:(v==(a:Int))=false:=by simp;omega
  simp[jU,jS,qc,oW,xy,counts,this];omega
 rw[oU,g,zf _ _ _ _ rfl,NE (by simp) rfl]
theorem ayk {s:List UInt8} {a:Nat} {c:UInt8} {l:List UInt8} (h:s.drop a=c::l) {fr:Bool} (d:iE s a=([(0,0)],fr)) (f:uT c=true):jE (bP s) (a:Int)=a7:=by
 obtain⟨u,e⟩:=yH h;rw[d]at e;simp only at e;rw[apt (.inl rfl) fr f,aq (by simp[xK,jS])]at e;exact e
theorem ayl {s:List UInt8} {a:Nat} {v:Int} (f:v<a) {c:UInt8} {l:List UInt8} (h:s.drop a=c::l) {fr:Bool} (d:iE s a=([(4,v),(0,0)],fr)):jE (bP s) (a:Int)=a7:=by
 obtain⟨u,e⟩:=yH h;rw[d]at e;simp only at e;by_cases hc:c=39
 .subst hc;rw[Pn,aq (by simp[xK,jS])]at e;exact e
 .rw[afl _ _ _ hc,aq (by simp[xK,jS];omega)]at e;exact e
theorem ahN {s:List UInt8} {a:Nat} {v:Int} (g:v<a) {c:UInt8} {l:List UInt8} (h:s.drop a=c::l) {fr:Bool} (f:iE s a=([(5,v),(0,0)],fr)) (d:c=34\/ ¬YT c):jE (bP s) (a:Int)=a7:=by
 obtain⟨u,e⟩:=yH h;rw[f]at e;simp only at e;rcases d with d|d
 .subst d;rw[Po,aq (by simp[xK,jS])]at e;exact e
 .rw[Yf _ _ _ d,aq (by simp[xK,jS];omega)]at e;exact e
theorem agf (w:bV) (v t u:Int): ∀(q:bV) (a:Int) (fr:Bool),(∀c∈q,c≠39)->oU (q++39::w) a ([(4,v),(0,0)],fr) (4,v,t,u,true,())=(4,v,a+q.length+1,u,false,())
 |[],a,fr,_=>by
  rw[aB,oU];simp only;rw[Pn,zf _ _ _ _ (by simp[jU,jS,qc,xy])];simp[jU,jS,qc,xy]
 |c::q,a,fr,h=>by
  rw[aH,oU];simp only;rw[afl _ _ _ (h c (az ..)),<-aii];have:jU (jS [(4,v),(0,0)]) a (4,v,t,u,true,())=(4,v,t,u,true,()):=by simp[jU,jS,qc,counts]
  rw[this];exact agf w v t u q (a+1) fr fun x d=>h x (aj _ d)
theorem aym {s:List UInt8} {a:Nat} {q w:List UInt8} (h:s.drop a=39::(q++39::w)) {fr:Bool} (d:iE s a=([(0,0)],fr)) (f: ∀c∈q,c≠39):
  ∃u,jE (bP s) (a:Int)=a6 (4,(a:Int),(a:Int)+q.length+2,u,false,()):=by
 obtain⟨u,e⟩:=yH h;rw[d]at e;simp only at e;rw[afm (.inl rfl),am (by simp[xK,jS])]at e;have g:oW (jS [(4,(a:Int)),(0,0)]) a u=(4,(a:Int),0,(oW (jS [(4,(a:Int)),(0,0)]) a u).2.2.2.1,true,()):=by
  simp[oW,jS,counts]
 rw[g,agf _ _ _ _ _ _ _ f,NE (by simp) rfl]at e;exact⟨_,e.trans (by rw[show(a:Int)+1+q.length+1=a+q.length+2 by omega])⟩
theorem VS (w:bV) (v t u:Int): ∀(q:bV) (a:Int) (fr:Bool),v<a->oU (iU q++34::w) a ([(5,v),(0,0)],fr) (5,v,t,u,true,())=(5,v,a+(iU q).length+1,u,false,())
 |[],a,fr,_=>by
  show oU (34::w) a _ _=_;rw[oU];simp only;rw[Po,zf _ _ _ _ (by simp[jU,jS,qc,xy])];simp[jU,jS,qc,xy,iU]
 |c::q,a,fr,g=>by
  have d: ∀b,jU (jS [(5,v),(0,0)]) b (5,v,t,u,true,())=(5,v,t,u,true,()):=fun b=>by simp[jU,jS,qc,counts]
  rw[IP];by_cases h:YT c
  .have f:eX c≠10:=by rcases h with e|e|e|e<;>subst e<;>decide
   have k2:jU (jS [(13,a),(5,v),(0,0)]) a (5,v,t,u,true,())=(5,v,t,u,true,()):=by simp[jU,jS,qc,counts]
   rw[TL h];show oU (92::c::(iU q++34::w)) a _ _=_;rw[oU];simp only;rw[Dv (.inr rfl),k2,oU];simp only;rw[Pm _ _ _ _ _ f,d,VS w v t u q (a+1+1) false (by omega)];simp;omega
  .rw[abE h];show oU (c::(iU q++34::w)) a _ _=_;rw[oU];simp only;rw[Yf _ _ _ h,d,VS w v t u q (a+1) fr (by omega)];simp;omega
theorem ayj {s:List UInt8} {a:Nat} {q w:List UInt8} (h:s.drop a=34::(iU q++34::w)) {fr:Bool} (d:iE s a=([(0,0)],fr)):
  ∃u,jE (bP s) (a:Int)=a6 (5,(a:Int),(a:Int)+(iU q).length+2,u,false,()):=by
 obtain⟨u,e⟩:=yH h;rw[d]at e;simp only at e;rw[Ye (.inl rfl),am (by simp[xK,jS])]at e;have f:oW (jS [(5,(a:Int)),(0,0)]) a u=(5,(a:Int),0,(oW (jS [(5,(a:Int)),(0,0)]) a u).2.2.2.1,true,()):=by
  simp[oW,jS,counts]
 rw[f,VS _ _ _ _ _ _ _ (by omega),NE (by simp) rfl]at e;exact⟨_,e.trans (by rw[show(a:Int)+1+(iU q).length+1=a+(iU q).length+2 by omega])⟩
theorem uz {s l m:List UInt8} {a:Nat} (h:s.drop a=l++m):sub s (a:Int) ((a+l.length:Nat):Int)=l:=by
 rw[vC,h,List.take_left]
def PK (s:bV) (a b:Nat):Prop:= ∀v:Nat,a<=v->v<b-> ∀p,jE (bP s) (v:Int)=a6 p->p.1≠12
theorem PK.one {s:List UInt8} {a:Nat} (h: ∀p,jE (bP s) (a:Int)=a6 p->p.1≠12):PK s a (a+1):=fun v e f p d=>h p (by rw[show(a:Int)=(v:Int) by omega];exact d)
theorem PK.app {s:List UInt8} {a b c:Nat} (h:PK s a b) (h2:PK s b c):PK s a c:=fun v f g p e=>by
 rcases aJ v b with d|d
 .exact h v f d p e
 .exact h2 v d g p e
theorem abG {s w:List UInt8} {v:Int}: ∀(q:bV) (a:Nat) (fr:Bool) (n:Nat),v<a->s.drop a=iU q++34::w->iE s a=([(5,v),(0,0)],fr)->(iU q).length<=n->
  oI s (bP s) ((a:Int)+(iU q).length) n (a:Int)=q/\qY s (bP s) ((a:Int)+(iU q).length) n (a:Int)=false/\PK s a (a+(iU q).length+1)
 |[],a,fr,n,y,h,g,i=>by
  have J:(iU []).length=0:=rfl;refine⟨?_, ?_, ?_⟩
  .cases n with
   |zero=>rfl
   |succ n=>rw[oI,aq (by rw[J];omega)]
  .cases n with
   |zero=>rfl
   |succ n=>rw[qY,aq (by rw[J];omega)]
  .exact PK.one fun p d=>by rw[ahN y (show s.drop a=34::w from h) g (.inl rfl)]at d;cases d
 |c::q,a,fr,n,y,h,g,i=>by
  rw[IP]at h i ⊢;by_cases hc:YT c
  .have K:eX c≠10:=by rcases hc with e|e|e|e<;>subst e<;>decide
   rw[TL hc]at h i ⊢;have A:([92,c]++iU q).length=2+(iU q).length:=by simp;omega
   rw[A]at i ⊢;obtain⟨m,rfl⟩: ∃m,n=m+1:=⟨n-1,by omega⟩;have f:s.drop a=92::c::(iU q++34::w):=by rw[h];simp
   obtain⟨u,e⟩:=arY y f g;have B:s.drop (a+2)=iU q++34::w:=ku (l:=[92,c]) (by rw[f];rfl);have D:iE s (a+2)=([(5,v),(0,0)],false):=by
    rw[show a+2=a+[92,c].length from rfl,oL (l:=[92,c]) (m:=iU q++34::w) (by rw[f];rfl),g,gB,Dv (.inr rfl),gB,Pm _ _ _ _ _ K];rfl
   obtain⟨j,o,E⟩:=abG q (a+2) false m (by omega) B D (by omega);rw[show(((a+2:Nat):Int)+((iU q).length:Int))=(a:Int)+((2+(iU q).length:Nat):Int) by omega,show((a+2:Nat):Int)=(a:Int)+2 by omega]at j o;obtain⟨O,S⟩:=nJ f;have G:s.drop (a+1)=c::(iU q++34::w):=ku (l:=[92]) (by rw[f];rfl);obtain⟨L,U⟩:=nJ G;have I:sub s ((a:Int)+1) ((a:Int)+2)=[c]:=uz (a:=a+1) (l:=[c]) (m:=iU q++34::w) G;have x:gz s (bP s) (a:Int)=((a:Int)+2,[c],false):=by
    unfold gz Lt lone;rw[e];have:cu s ((a:Int)+1)=eX c:=L;have M:eX c=36\/eX c=96\/eX c=34\/eX c=92:=by rcases hc with e|e|e|e<;>subst e<;>decide
    simp[this,M,I]
   refine⟨?_, ?_, ?_⟩
   .rw[oI,am (by omega),x,j];rfl
   .rw[qY,am (by omega),x,o];rfl
   .refine PK.app (b:=a+1) (PK.one fun p d=> ?_) (PK.app (b:=a+2) (PK.one fun p d=> ?_) ?_)
    .rw[e]at d;cases d;simp
    .
     have N:iE s (a+1)=([(13,(a:Int)),(5,v),(0,0)],fr):=by
      rw[show a+1=a+[(92:UInt8)].length from rfl,oL (l:=[92]) (m:=c::(iU q++34::w)) (by rw[f];rfl),g,gB,Dv (.inr rfl)];rfl
     obtain⟨V,z⟩:=yH G;rw[N]at z;simp only at z;rw[Pm _ _ _ _ _ K,aq (by simp[xK,jS];omega)]at z;rw[z]at d;cases d
    .rw[show a+(2+(iU q).length)+1=a+2+(iU q).length+1 by omega];exact E
  .rw[abE hc]at h i ⊢;have A:([c]++iU q).length=1+(iU q).length:=by simp;omega
   rw[A]at i ⊢;obtain⟨m,rfl⟩: ∃m,n=m+1:=⟨n-1,by omega⟩;have f:s.drop a=c::(iU q++34::w):=by rw[h];simp
   have e:=ahN y f g (.inr hc);have B:s.drop (a+1)=iU q++34::w:=ku (l:=[c]) (by rw[f];rfl);have D:iE s (a+1)=([(5,v),(0,0)],fr):=by
    rw[show a+1=a+[c].length from rfl,oL (l:=[c]) (m:=iU q++34::w) (by rw[f];rfl),g,gB,Yf _ _ _ hc];rfl
   obtain⟨j,o,E⟩:=abG q (a+1) fr m (by omega) B D (by omega);rw[show(((a+1:Nat):Int)+((iU q).length:Int))=(a:Int)+((1+(iU q).length:Nat):Int) by omega,show((a+1:Nat):Int)=(a:Int)+1 by omega]at j o;have I:sub s (a:Int) ((a:Int)+1)=[c]:=uz (l:=[c]) (m:=iU q++34::w) f;have x:gz s (bP s) (a:Int)=((a:Int)+1,[c],false):=by
    unfold gz;rw[e];simp[I]
   refine⟨?_, ?_, ?_⟩
   .rw[oI,am (by omega),x,j];rfl
   .rw[qY,am (by omega),x,o];rfl
   .refine PK.app (b:=a+1) (PK.one fun p d=> ?_) ?_
    .rw[e]at d;cases d
    .rw[show a+(1+(iU q).length)+1=a+1+(iU q).length+1 by omega];exact E
abbrev afO (s:bV) (a:Int):bV:=jP s (bP s) s.length a
abbrev age (s:bV) (a:Int):Bool:=sJ s (bP s) s.length a
theorem ap0 {s:List UInt8} {a:Int} (e:0<=a) (h:a<s.length):afO s a=(stepT s (bP s) a).2++afO s (stepT s (bP s) a).1:=by
 obtain⟨n,d⟩: ∃n,s.length=n+1:=⟨s.length-1,by omega⟩;have f:= @Ap s a;unfold afO;rw[d,jP,am h,<-d,zC s n s.length _ (by omega) (by omega)]
theorem arc {s:List UInt8} {a:Int} (e:0<=a) (h:a<s.length):age s a=(je s (bP s) a||age s (stepT s (bP s) a).1):=by
 obtain⟨n,d⟩: ∃n,s.length=n+1:=⟨s.length-1,by omega⟩;have f:= @Ap s a;unfold age;rw[d,sJ,am h,<-d,PZ s n s.length _ (by omega) (by omega)]
theorem atA {s:List UInt8} {a:Int} (h:s.length<=a):afO s a=[]/\age s a=false:=by
 unfold afO age;cases s.length with
 |zero=>exact⟨rfl,rfl⟩
 |succ n=>rw[jP,sJ,aq (by omega),aq (by omega)];exact⟨rfl,rfl⟩
theorem abq {s x y:List UInt8} {a b:Nat} (f:a<s.length) (d:stepT s (bP s) (a:Int)=((b:Int),x)) (e:je s (bP s) (a:Int)=false) (hb:afO s (b:Int)=y/\age s (b:Int)=false):afO s (a:Int)=x++y/\age s (a:Int)=false:=by
 rw[ap0 (by omega) (by omega),arc (by omega) (by omega),d,e];simp only;rw[hb.1,hb.2];exact⟨rfl,rfl⟩
theorem aDV {s w x:List UInt8} (h:AY w x): ∀(a:Nat) (fr:Bool),s.drop a=w->iE s a=([(0,0)],fr)->(afO s (a:Int)=x/\age s (a:Int)=false)/\PK s a (a+w.length):=by
 induction h with
 |nil=>
  intro a fr hd f;exact⟨atA (by have:=List.drop_eq_nil_iff.1 hd;omega),fun v M D=>by simp at D;omega⟩
 | @plain c w x h D i=>
  intro a fr hd f;have e:=ayk hd f h.1;obtain⟨L,j⟩:=nJ hd;have o:s.drop (a+1)=w:=ku (l:=[c]) hd;have y:iE s (a+1)=([(0,0)],false):=by
   rw[show a+1=a+[c].length from rfl,oL (l:=[c]) (m:=w) hd,f,gB,apt (.inl rfl) fr h.1];rfl
  obtain⟨z,A⟩:=i (a+1) false o y;have E:sub s (a:Int) ((a:Int)+1)=[c]:=uz (l:=[c]) (m:=w) hd;refine⟨abq (x:=[c]) (b:=a+1) j ?_ ?_ z,PK.app (b:=a+1) (PK.one fun p d=>by rw[e]at d;cases d) ?_⟩
  .unfold stepT;rw[e];simp[E]
  .unfold je;rw[e]
  .rw[aG,show a+(w.length+1)=a+1+w.length by omega];exact A
 | @esc c w x h D i=>
  intro a fr hd f;obtain⟨u,e⟩:=arX hd f;obtain⟨L,j⟩:=nJ hd;have B:s.drop (a+1)=c::w:=ku (l:=[92]) hd;obtain⟨V,ab⟩:=nJ B;have o:s.drop (a+2)=w:=ku (l:=[92,c]) hd;have G:iE s (a+1)=([(13,(a:Int)),(0,0)],fr):=by
   rw[show a+1=a+[(92:UInt8)].length from rfl,oL (l:=[92]) (m:=c::w) hd,f,gB,Dv (.inl (.inl rfl))];rfl
  have y:iE s (a+2)=([(0,0)],false):=by
   rw[show a+2=a+1+[c].length from rfl,oL (l:=[c]) (m:=w) B,G,gB,Pm _ _ _ _ _ (kY h)];rfl
  obtain⟨z,A⟩:=i (a+2) false o y;have E:sub s ((a:Int)+1) ((a:Int)+2)=[c]:=uz (a:=a+1) (l:=[c]) (m:=w) B;have W:cu s ((a:Int)+1)=eX c:=V;have N:eX c≠10:=kY h;refine⟨abq (x:=[c]) (b:=a+2) j ?_ ?_ z,PK.app (b:=a+1) (PK.one fun p d=>by rw[e]at d;cases d;simp) (PK.app (b:=a+2) (PK.one fun p d=> ?_) ?_)⟩
  .unfold stepT lone Lu;rw[e];simp[E,W,N]
  .unfold je lone;rw[e];simp
  .obtain⟨u',I⟩:=yH B;rw[G]at I;simp only at I;rw[Pm _ _ _ _ _ N,aq (by simp[xK,jS])]at I;rw[I]at d;cases d
  .rw[aG,aG,show a+(w.length+1+1)=a+2+w.length by omega];exact A
 | @sng q w x h D i=>
  intro a fr hd f;obtain⟨u,e⟩:=aym hd f h;obtain⟨L,j⟩:=nJ hd;have g:s.drop (a+1)=q++39::w:=ku (l:=[39]) hd;have J:iE s (a+1)=([(4,(a:Int)),(0,0)],false):=by
   rw[show a+1=a+[(39:UInt8)].length from rfl,oL (l:=[39]) (m:=q++39::w) hd,f,gB,afm (.inl rfl)];rfl
  have O: ∀k,k<q.length+1-> ∃c l,s.drop (a+1+k)=c::l/\iE s (a+1+k)=([(4,(a:Int)),(0,0)],false):=by
   intro k hk;have ad:k<=q.length:=by omega
   have K:s.drop (a+1)=q.take k++(q.drop k++39::w):=by rw[<-ah,List.take_append_drop];exact g
   have X:(q.take k).length=k:=by rw[aZ];omega
   have g1:=ku K;have g2:=oL K;rw[X]at g1 g2;rw[J,Ux _ _ _ _ _ (fun c Y=>h c (bn Y))]at g2;cases hq:q.drop k with
   |nil=>rw[hq]at g1;exact⟨_,_,g1,g2⟩
   |cons c l=>rw[hq]at g1;exact⟨_,_,g1,g2⟩
  have K:s.drop a=(39::(q++[39]))++w:=by rw[hd];simp
  have Z:(39::(q++[39])).length=q.length+2:=by simp
  have o:s.drop (a+(q.length+2))=w:=by rw[<-Z];exact ku K
  have y:iE s (a+(q.length+2))=([(0,0)],false):=by
   obtain⟨c,l,g1,g2⟩:=O q.length (by omega);have g3:s.drop (a+1+q.length)=39::w:=ku g;rw[show a+(q.length+2)=a+1+q.length+[(39:UInt8)].length by simp;omega,oL (l:=[39]) (m:=w) g3,g2,gB,Pn];rfl
  obtain⟨z,A⟩:=i _ false o y;have E:sub s ((a:Int)+1) ((a:Int)+q.length+2-1)=q:=by
   have:=uz (a:=a+1) (l:=q) (m:=39::w) g;rw[show((a+1:Nat):Int)=(a:Int)+1 by omega,show((a+1+q.length:Nat):Int)=(a:Int)+q.length+2-1 by omega]at this;exact this
  refine⟨abq (b:=a+(q.length+2)) j ?_ ?_ z,PK.app (b:=a+1) (PK.one fun p d=>by rw[e]at d;cases d;simp) (PK.app (b:=a+(q.length+2)) (fun v v1 v2 p d=> ?_) ?_)⟩
  .unfold stepT lone mQ;rw[e];simp[E];omega
  .unfold je lone;rw[e];simp
  .obtain⟨c,l,g1,g2⟩:=O (v-(a+1)) (by omega);rw[show a+1+(v-(a+1))=v by omega]at g1 g2;rw[ayl (by omega) g1 g2]at d;cases d
  .rw[show(39::(q++39::w)).length=q.length+2+w.length by simp;omega,show a+(q.length+2+w.length)=a+(q.length+2)+w.length by omega];exact A
 | @dbl q w x D i=>
  intro a fr hd f;obtain⟨u,e⟩:=ayj hd f;obtain⟨L,j⟩:=nJ hd;have g:s.drop (a+1)=iU q++34::w:=ku (l:=[34]) hd;have J:iE s (a+1)=([(5,(a:Int)),(0,0)],false):=by
   rw[show a+1=a+[(34:UInt8)].length from rfl,oL (l:=[34]) (m:=iU q++34::w) hd,f,gB,Ye (.inl rfl)];rfl
  have ae:a+1+((iU q).length+1+w.length)=s.length:=by
   have:=(af7 g).resolve_left (by simp);simpa [Nat.add_assoc,Nat.add_comm,Nat.add_left_comm] using this
  obtain⟨S,U,d3⟩:=abG q (a+1) false s.length (by omega) g J (by omega);have B:s.drop (a+1+(iU q).length)=34::w:=ku g;have G:iE s (a+1+(iU q).length)=([(5,(a:Int)),(0,0)],false):=by
   rw[oL g,J];obtain⟨M,h3⟩:=OX [(0,0)] (a:Int) q ((a+1:Nat):Int) false;exact Prod.ext M (by rcases h3 with h|h<;>exact h)
  have o:s.drop (a+((iU q).length+2))=w:=by
   rw[show a+((iU q).length+2)=a+1+(iU q).length+[(34:UInt8)].length by simp;omega];exact ku (l:=[34]) B
  have y:iE s (a+((iU q).length+2))=([(0,0)],false):=by
   rw[show a+((iU q).length+2)=a+1+(iU q).length+[(34:UInt8)].length by simp;omega,oL (l:=[34]) (m:=w) B,G,gB,Po];rfl
  obtain⟨z,A⟩:=i _ false o y;rw[show((a+1:Nat):Int)+((iU q).length:Int)=(a:Int)+(iU q).length+2-1 by omega,show((a+1:Nat):Int)=(a:Int)+1 by omega]at S U;refine⟨abq (b:=a+((iU q).length+2)) j ?_ ?_ z,PK.app (b:=a+1) (PK.one fun p d=>by rw[e]at d;cases d;simp) (PK.app (b:=a+((iU q).length+2)) ?_ ?_)⟩
  .unfold stepT lone mQ;rw[e];simp[S];omega
  .unfold je lone mQ;rw[e];simp[U]
  .rw[show a+((iU q).length+2)=a+1+(iU q).length+1 by omega];exact d3
  .rw[show(34::(iU q++34::w)).length=(iU q).length+2+w.length by simp;omega,show a+((iU q).length+2+w.length)=a+((iU q).length+2)+w.length by omega];exact A
theorem aav {w x:List UInt8} (h:AY w x):PG w=(x,true)/\abH w=[]:=by
 obtain⟨⟨m,o⟩,q⟩:=aDV (s:=w) h 0 true rfl rfl;constructor
 .unfold PG;rw[aq (by rw[show aBz w=false from o];simp),show Gl w=x from m]
 .unfold abH;split
  .rfl
  .rename_i p i
   have d:p∈bP w:=List.mem_of_getLast? i;have g:=QA w p d;have j:=g.f0;have u:=g.f1;have l:jE (bP w) p.2.1=a6 p:=by
    have f:=QB w;unfold jE;clear i g j u;generalize bP w=L at d f
    induction L with
    |nil=>cases d
    |cons y L z=>
     rw[List.find?_cons];rw[List.pairwise_cons]at f;rcases List.mem_cons.1 d with e|e
     .rw[e];simp
     .have:=f.1 p e;rw[show(y.2.1==p.2.1)=false by simp;omega];exact z e f.2
   obtain⟨v,A⟩:=Int.eq_ofNat_of_zero_le j;rw[A]at l;have:=q v (by omega) (by simp;omega) p l;rw[aq (fun h=>this h.1)]
end
section
open Option renaming some → a6, none → a7
open Bool renaming not_true → ax, and_true → ay, not_false → aA
open List renaming append_assoc → ah, getElem_mem → aP
open Nat renaming le_refl → ae
open Go.RowKit
structure Ws (F:List Lf):Prop where
 ok:Zo F
 pos:0<F.length
 len:F.length<=100
 wd: ∀(a:Nat) (h:a<F.length),F[a].1=6/\QO F[a]=120
 asg: ∀h:0<F.length,asg F[0].2.1=false
def Gy (u:Int):Nat->Nat->List Nd
 |_,0=>[]
 |a,k+1=>(7,(a:Int),((a+1:Nat):Int),u,())::Gy u (a+1) k
section
variable {F:List Lf} (h:Ws F)
include h
theorem Ws.sg {a:Nat} (d:a<F.length):FT F a=120:=by rw[X3 d];exact(h.wd a d).2
theorem Ws.nx (a:Nat) {o:List UInt8} (d:o.contains 120=false):gm F a o=false:=by
 unfold gm;by_cases ha:a<F.length
 .rw[h.sg ha,d,Bool.and_false]
 .rw[decide_eq_false ha,Bool.false_and]
theorem Ws.x (a:Nat) (d:a<F.length):gm F a [120]=true:=by
 unfold gm;rw[decide_eq_true d,h.sg d];rfl
theorem Ws.red (a:Nat):Eh F a=false:=by
 unfold Eh;rw[h.nx a (by decide),h.nx a (by decide)];rfl
theorem Ws.cmp (a:Nat) (d:Int):GI F a d=false:=by
 unfold GI;rw[h.nx a (by decide),Bool.and_false]
theorem Ws.cmd (d:Int):J6 F 0 d=true:=by
 unfold J6;rw[h.x 0 h.pos,Bool.true_or]
theorem Ws.pip (d:Int):qZ F 0 d=true:=by
 unfold qZ;rw[h.cmd,Bool.or_true]
theorem Ws.fn (d:Int):fnB F 0 d=false:=by
 unfold fnB;have:FT F (0+1)≠40:=by
  by_cases ha:0+1<F.length
  .rw[h.sg ha];decide
  .rw[JC];decide
 rw[decide_eq_false this,Bool.false_and,Bool.and_false]
theorem Ws.isW (a:Nat):isW F a=decide (a<F.length):=by
 unfold Go.Proofs.YtkichehglnecnaaGreatDoor.isW;by_cases ha:a<F.length
 .rw[dif_pos ha,decide_eq_true (h.wd a ha).1,decide_eq_true ha]
 .rw[dif_neg ha,decide_eq_false ha]
theorem X8 (u d:Int): ∀(k N a:Nat) (L:List Nd) (e:Bool),a+k=F.length->k<N->(e=false->a=0)->L.length<=1000+a->
  vT N e F (a:Int) u d L=a6 (.inl ((),((),()),((F,((F.length:Nat):Int),u,d,()),L++Gy u a k,())))
 |_,0,_,_,_,_,i,_,_=>by omega
 |0,N+1,a,L,e,m,i,j,o=>by
  have p:=h.len;rw[vT,JJ,mG h.ok a L u d (by omega) (h.red a),bI];simp only[ac];rw[wW a L u d,bI];simp only;rw[h.isW,decide_eq_false (by omega)];simp[Gy,show a=F.length by omega]
 |k+1,N+1,a,L,e,m,i,j,o=>by
  have p:=h.len;have f:a<F.length:=by omega
  have q:gy F (a:Int)=true:=eF;have v:=h.ok.txt _ (aP f);have g:=X8 u d k N (a+1) (L++[(7,(a:Int),((a+1:Nat):Int),u,())]) true (by omega) (by omega) (by simp) (by simp;omega);rw[ah]at g;rw[vT,JJ,mG h.ok a L u d (by omega) (h.red a),bI];simp only[ac];rw[wW a L u d,bI];simp only;rw[h.isW,decide_eq_true f];simp only[ax,ac,q,aa,BD f];have l:=Ha (F:=F) a L u d 7 (by omega) (by omega);cases e with
  |true=>
   simp only[ax,ac];rw[l,bI];exact g
  |false=>
   have s:=j rfl;subst s;simp only[aA,aa];rw[Zt (by omega),bI,h.asg f];simp only[ac];rw[l,bI];exact g
theorem ap7 (l:List Nd) (hl:l.length<=100) (u:Int) (q:Nat):
  (eH (q+1)).q239 F 0 l u 0=a6 (PR F F.length (l++(5,0,(F.length:Int),u,())::Gy (bK l) 0 F.length) u 0,()):=by
 have d:(0:Nat)<10000000:=by omega
 have j:=h.len;have m:(bU l [((5,0,0,u,()):Nd)]).length=l.length+1:=by unfold bU;simp
 have s:=X8 h (bK l) 0 F.length bT 0 (bU l [((5,0,0,u,()):Nd)]) false (by omega) (dJ) (fun _=>rfl) (by omega);have e:Wh F 0 (bU l [((5,0,0,u,()):Nd)]) (bK l) 0=a6 (PR F F.length (bU l [((5,0,0,u,()):Nd)]++Gy (bK l) 0 F.length) (bK l) 0,()):=by
  rw[Wh,show vT bT false F 0 (bK l) 0 (bU l [((5,0,0,u,()):Nd)])=_ from s,bI];rfl
 obtain⟨f,_,_⟩:=kP l ((5,0,0,u,()):Nd) (by omega);obtain⟨g,i⟩:=oD l (Gy (bK l) 0 F.length) ((5,0,0,u,()):Nd);show agj (eH q) F ((0:Nat):Int) l u 0=_;rw[agj,Bf h.ok 0 l u 0 d,bI];simp only;rw[h.cmp];simp only[ac];rw[Wn h.ok 0 l u 0 (by omega),bI];simp only;rw[h.fn];simp only[ac];rw[Lj h.ok 0 l u 0 d,bI];simp only;rw[h.cmd];have o:eu (bU l [(5,(0:Int),0,u,())]) 32=true:=f;have p:gy (bU l [(5,(0:Int),0,u,())]++Gy (bK l) 0 F.length) (bK l)=true:=g;have v:pK (dI (bK l)) (bU l [(5,(0:Int),0,u,())]++Gy (bK l) 0 F.length)=true:=i;have x:Wh F 0 (bU l [(5,(0:Int),0,u,())]) (bK l) 0=a6 (PR F F.length (bU l [(5,(0:Int),0,u,())]++Gy (bK l) 0 F.length) (bK l) 0,()):=e;simp_all [eU,bI,kL]
theorem aI7 (l:List Nd) (hl:l.length<=99) (u:Int) (q:Nat):
  (eH (q+2)).q205 F 0 l u 0=a6 (PR F F.length (l++(4,0,(F.length:Int),u,())::(5,0,(F.length:Int),bK l,())::Gy (bK l+1) 0 F.length) u 0,()):=by
 have f:(0:Nat)<10000000:=by omega
 have s:=h.len;have g:(bU l [((4,0,0,u,()):Nd)]).length=l.length+1:=by unfold bU;simp
 have i:bK (bU l [((4,0,0,u,()):Nd)])=bK l+1:=by rw[bM,bM,g];omega
 obtain⟨d,_,_⟩:=kP l ((4,0,0,u,()):Nd) (by omega);have e:=ap7 h (bU l [((4,0,0,u,()):Nd)]) (by omega) (bK l) q;rw[i]at e;obtain⟨j,m⟩:=oD l ((5,0,(F.length:Int),bK l,())::Gy (bK l+1) 0 F.length) ((4,0,0,u,()):Nd);obtain⟨k,hk⟩:=agL;have o: ∀L:List Nd,qi (eH (q+1)) bT (bK l) u F ((F.length:Nat):Int) (bK l) 0 L=a6 (.inl ((),((bK l,u,()),(),(),()),((),(F,((F.length:Nat):Int),bK l,0,()),L,()))):=fun L=>by
  rw[hk,qi,xB,kF h.ok F.length L (bK l) 0 (by omega) [124] rfl,bI];simp only;rw[h.nx _ (by decide),tC (h.nx _ (by decide))];rfl
 show VT (eH (q+1)) F ((0:Nat):Int) l u 0=_;rw[VT,yM h.ok 0 l u 0 f,bI,h.pip];simp only[ax,ac,eU,ay,aa,d];rw[kF h.ok 0 _ _ 0 (by omega) [33] rfl,bI];simp only;rw[tC (h.nx _ (by decide)),show((0:Nat):Int)=0 from rfl,e,bI];simp only;rw[o,bI];have p:bU l [((4,0,0,u,()):Nd)]++(5,0,(F.length:Int),bK l,())::Gy (bK l+1) 0 F.length=bU l [(4,(0:Int),0,u,())]++((5,0,(F.length:Int),bK l,())::Gy (bK l+1) 0 F.length):=rfl;simp only[dR,j,m,aa];rw[p];simp only[kL];rw[d];rfl
theorem aA9 (l:List Nd) (hl:l.length<=90) (u:Int) (q:Nat):
  (eH (q+3)).q155 F 0 l u 0=a6 (PR F F.length (l++(4,0,(F.length:Int),u,())::(5,0,(F.length:Int),bK l,())::Gy (bK l+1) 0 F.length) u 0,()):=by
 have f:=h.len;have d:=aI7 h l (by omega) u q;obtain⟨k,hk⟩:=agL;have e: ∀L:List Nd,E5 (eH (q+2)) bT F ((F.length:Nat):Int) u 0 L=a6 (.inl ((),((),()),((F,((F.length:Nat):Int),u,0,()),L,()))):=fun L=>by
  rw[hk,E5,O4,kF h.ok F.length L u 0 (by omega) [97,111] rfl,bI];simp only;rw[h.nx _ (by decide),tC (h.nx _ (by decide))];rfl
 show agi (eH (q+2)) F 0 l u 0=_;rw[agi,d,bI];simp only;rw[e,bI];rfl
theorem aHm (l:List Nd) (hl:l.length<=80) (u:Int) (q:Nat):
  (eH (q+4)).q108 F 0 l u 0=a6 (PR F F.length (l++(3,0,(F.length:Int),u,())::(4,0,(F.length:Int),bK l,())::(5,0,(F.length:Int),bK l+1,())::Gy (bK l+2) 0 F.length) u 0,()):=by
 have x:=h.len;have e:(bU l [((3,0,0,u,()):Nd)]).length=l.length+1:=by unfold bU;simp
 have f:bK (bU l [((3,0,0,u,()):Nd)])=bK l+1:=by rw[bM,bM,e];omega
 have d:=aA9 h (bU l [((3,0,0,u,()):Nd)]) (by omega) (bK l) q;rw[f,show bK l+1+1=bK l+2 by omega]at d;obtain⟨g,_,_⟩:=kP l ((3,0,0,u,()):Nd) (by omega);obtain⟨i,j⟩:=oD l ((4,0,(F.length:Int),bK l,())::(5,0,(F.length:Int),bK l+1,())::Gy (bK l+2) 0 F.length) ((3,0,0,u,()):Nd);obtain⟨k,hk⟩:=agL;have m:ln F F.length=F.length:=by
  have:=xR (F:=F) F.length;have:=zY (F:=F) (a:=F.length) (ae _);omega
 have o:vP (eH (q+3)) bT F 0 u 0 l=a6 (.inl ((),((),()),((F,((F.length:Nat):Int),u,0,()),l++(3,0,(F.length:Int),u,())::(4,0,(F.length:Int),bK l,())::(5,0,(F.length:Int),bK l+1,())::Gy (bK l+2) 0 F.length,()))):=by
  rw[hk,vP,O3];simp only[eU,ay,aa];have p:eu (bU l [(3,(0:Int),0,u,())]) 32=true:=g;have s:(eH (q+3)).q155 F 0 (bU l [(3,(0:Int),0,u,())]) (bK l) 0=_:=d;rw[p,aa,s,bI];have v:bU l [((3,0,0,u,()):Nd)]++(4,0,(F.length:Int),bK l,())::(5,0,(F.length:Int),bK l+1,())::Gy (bK l+2) 0 F.length=bU l [(3,(0:Int),0,u,())]++((4,0,(F.length:Int),bK l,())::(5,0,(F.length:Int),bK l+1,())::Gy (bK l+2) 0 F.length):=rfl;simp only[i,j,aa];rw[v];simp only[kL];rw[kF h.ok F.length _ u 0 (by omega) [59,38] rfl,bI];simp only;rw[h.nx _ (by decide),tC (h.nx _ (by decide))];simp only[ac];rw[oq h.ok F.length _ u 0 (ae _),bI];simp only;rw[h.nx _ (by decide),m];rfl
 show agh (eH (q+3)) F 0 l u 0=_;rw[agh,o,bI];rfl
theorem arV:Wi F=a6 ((1,0,(F.length:Int),-1,())::(2,0,(F.length:Int),0,())::(3,0,(F.length:Int),1,())::(4,0,(F.length:Int),2,())::(5,0,(F.length:Int),3,())::Gy 4 0 F.length,()):=by
 have u:=h.len;have v:=h.pos;obtain⟨q,e⟩: ∃q,bT=q+4:=⟨bT-4,by have:4<bT:=dJ;omega⟩;obtain⟨k,hk⟩:=agL;have d:=aHm h (bU [(1,0,0,-1,())] [((2,0,0,0,()):Nd)]) (by decide) 1 q;rw[<-e]at d;have f:agn F 0 (bU [(1,0,0,-1,())] [((2,0,0,0,()):Nd)]) 1 0=_:=d;have x:kF h.ok 0 [(1,0,0,-1,())] 0 0 (by omega) [110] rfl=kF h.ok 0 [(1,0,0,-1,())] 0 0 (by omega) [110] rfl:=rfl;have g:Ff bT false F 0 0 0 [(1,0,0,-1,())]=a6 (.inl ((),((),()),((F,((F.length:Nat):Int),0,0,()),(1,0,0,-1,())::(2,0,(F.length:Int),0,())::(3,0,(F.length:Int),1,())::(4,0,(F.length:Int),2,())::(5,0,(F.length:Int),3,())::Gy 4 0 F.length,()))):=by
  rw[hk,Ff,QS,bW (b:=iF 0 (bK F)) (fG (by rw[bM];omega)),show mf F 0 [(1,0,0,-1,())] 0 0 [110]=_ from kF h.ok 0 _ 0 0 (by omega) [110] rfl,bI];simp only;rw[h.nx _ (by decide),tC (h.nx _ (by decide))];simp only[ac,aA,aa];rw[show Kt F ((0:Nat):Int) [(1,0,0,-1,())] 0 0=_ from yM h.ok 0 _ 0 0 (by omega),bI];simp only;rw[h.pip];have i:eu (bU [((1:Int),((0:Int),((0:Int),((-1:Int),()))))] [((2:Int),((0:Int),((0:Int),((0:Int),()))))]) 32=true:=by kernel_rfl
  obtain⟨j,l⟩:=oD [((1:Int),((0:Int),((0:Int),((-1:Int),()))))] ((3,0,(F.length:Int),1,())::(4,0,(F.length:Int),2,())::(5,0,(F.length:Int),3,())::Gy 4 0 F.length) ((2,0,0,0,()):Nd);have m:agn F 0 (bU [((1:Int),((0:Int),((0:Int),((-1:Int),()))))] [((2:Int),((0:Int),((0:Int),((0:Int),()))))]) (bK [((1:Int),((0:Int),((0:Int),((-1:Int),()))))]) 0=a6 (PR F F.length (bU [((1:Int),((0:Int),((0:Int),((-1:Int),()))))] [((2:Int),((0:Int),((0:Int),((0:Int),()))))]++((3,0,(F.length:Int),1,())::(4,0,(F.length:Int),2,())::(5,0,(F.length:Int),3,())::Gy 4 0 F.length)) 1 0,()):=f;have o:gy (bU [((1:Int),((0:Int),((0:Int),((-1:Int),()))))] [((2:Int),((0:Int),((0:Int),((0:Int),()))))]++((3,0,(F.length:Int),1,())::(4,0,(F.length:Int),2,())::(5,0,(F.length:Int),3,())::Gy 4 0 F.length)) (bK [((1:Int),((0:Int),((0:Int),((-1:Int),()))))])=true:=j;have p:pK (dI (bK [((1:Int),((0:Int),((0:Int),((-1:Int),()))))])) (bU [((1:Int),((0:Int),((0:Int),((-1:Int),()))))] [((2:Int),((0:Int),((0:Int),((0:Int),()))))]++((3,0,(F.length:Int),1,())::(4,0,(F.length:Int),2,())::(5,0,(F.length:Int),3,())::Gy 4 0 F.length))=true:=l;simp only[Int.ofNat_zero,eU,ay,aa,i];rw[m,bI];simp only[o,p,aa];rw[kL,Ff,QS,dG (b:=iF ((F.length:Nat):Int) (bK F)) (gU (by rw[bM];omega))];rfl
 rw[Wi];have s:eu [((1:Int),((0:Int),((0:Int),((-1:Int),()))))] 32=true:=by kernel_rfl
 simp only[eU,ay,aa,s];rw[aBU,g,bI];simp only[dR,bI];rw[bW (eF (by omega) (by simp;omega)),bW (qU (by simp[dI]))];rfl
end
end
section
open Bool renaming false_eq_true → ag, not_true → ax
open Int renaming toNat_natCast → aS
open List renaming append_assoc → ah, length_append → ai, mem_cons_of_mem → aj, mem_cons_self → az, nil_append → aB, length_cons → aG, cons_append → aH, append_nil → bg, takeWhile_cons → bi
open Go.RowKit
theorem ayw {w x:List UInt8} (h:AY w x): ∀{c:UInt8} {t:List UInt8},w=c::t->(uT c=true/\c≠61)\/c=92/\(∃d t',t=d::t'/\d≠10)\/c=39\/c=34:=by
 intro c t e;cases h with
 |nil=>cases e
 |plain h _=>injection e with e1 e2;rw[<-e1];exact .inl h
 | @esc d w x h _=>injection e with e1 e2;exact .inr (.inl ⟨e1.symm,d,w,e2.symm,h⟩)
 |sng h _=>injection e with e1 e2;exact .inr (.inr (.inl e1.symm))
 |dbl _=>injection e with e1 e2;exact .inr (.inr (.inr e1.symm))
theorem uw (p:UInt8->Bool) (c:UInt8) (s:bV):((c::s).takeWhile p).length=if p c=true then(s.takeWhile p).length+1 else 0:=by
 rw[bi];split<;>simp
theorem TU {c:UInt8} (h:uT c=true):c≠60/\c≠62/\c≠32/\c≠9/\c≠10/\c≠35/\BG (c.toNat:Int)=false/\nY (c.toNat:Int)=false:=by
 have: ∀n:Fin 256,uT (UInt8.ofNat n.val)=true->n.val≠60/\n.val≠62/\n.val≠32/\n.val≠9/\n.val≠10/\n.val≠35/\BG ((n.val:Nat):Int)=false/\nY ((n.val:Nat):Int)=false:=by decide+kernel
 have:=this ⟨c.toNat,c.toNat_lt⟩;simp only[UInt8.ofNat_toNat]at this;obtain⟨g,i,j,l,m,o,p,q⟩:=this h;have f: ∀d:UInt8,c.toNat≠d.toNat->c≠d:=fun d h e=>h (by rw[e]);exact⟨f 60 g,f 62 i,f 32 j,f 9 l,f 10 m,f 35 o,p,q⟩
def atj (t:bV):Prop:=t=[]\/ ∃d,t=32::d
theorem aDU {w x:List UInt8} (h:AY w x) {t:List UInt8} (j:atj t):Ae (w++t)=0:=by
 have i: ∀c,((w++t).drop (jT (w++t))).head?=some c->c≠60/\c≠62:=by
  induction h with
  |nil=>
   rcases j with e|⟨l,e⟩
   .subst e;intro c g;cases g
   .subst e;intro c g;have:jT ([]++32::l)=0:=by unfold jT;rw[aB,uw];rfl
    rw[this]at g;cases g;decide
  | @plain c w x h h2 f=>
   intro d hd;unfold jT at hd f;rw[aH,uw]at hd;split at hd
   .rw[List.drop_succ_cons]at hd;exact f d hd
   .cases hd;exact⟨(TU h.1).1,(TU h.1).2.1⟩
  | @esc c w x h h2 f=>
   intro d hd;unfold jT at hd;rw[aH,uw,aq (by decide)]at hd;cases hd;decide
  | @sng u w x h h2 f=>
   intro d hd;unfold jT at hd;rw[aH,uw,aq (by decide)]at hd;cases hd;decide
  | @dbl u w x h2 f=>
   intro d hd;unfold jT at hd;rw[aH,uw,aq (by decide)]at hd;cases hd;decide
 unfold Ae;rw[aq];rintro (⟨_,h⟩|⟨_,h⟩)
 .exact(i _ h).1 rfl
 .exact(i _ h).2 rfl
theorem aoD {w x:List UInt8} (h:AY w x):asg w=false:=by
 have e:w.getD (runN w) 0≠61:=by
  induction h with
  |nil=>decide
  | @plain c w x h h2 d=>
   unfold runN at d ⊢;rw[uw];split
   .rw[List.getD_cons_succ];exact d
   .exact h.2
  | @esc c w x h h2 d=>unfold runN;rw[uw,aq (by decide)];simp
  | @sng u w x h h2 d=>unfold runN;rw[uw,aq (by decide)];simp
  | @dbl u w x h2 d=>unfold runN;rw[uw,aq (by decide)];simp
 unfold asg nl;split
 .simp
 .rw[decide_eq_false (p:=w.getD (runN w) 0=61) e,Bool.and_false]
theorem QG {w x:List UInt8} (h:AY w x) {c:UInt8} {r:List UInt8} (e:w=c::r) (t:bV):uB (w++t)=0/\c≠10/\c≠35/\c≠40/\BG (c.toNat:Int)=false:=by
 subst e;have f:=ayw h rfl;have g:uT c=true->c≠40:=fun h e=>by subst e;revert h;decide
 have i:nY (c.toNat:Int)=false:=by
  rcases f with f|⟨e,_⟩|e|e
  .exact(TU f.1).2.2.2.2.2.2.2
  all_goals subst e;rfl
 refine⟨?_, ?_⟩
 .rw[aH,tN,aq (by simp[i]),aq];rcases f with f|⟨e,d,l,j,hd⟩|e|e
  .have:c≠92:=fun e=>by subst e;exact absurd f.1 (by decide)
   cases r++t with
   |nil=>simp[pq]
   |cons d t=>simp[pq,this]
  .subst j;simp[pq,hd]
  .subst e;cases r++t with
   |nil=>simp[pq]
   |cons d t=>simp[pq]
  .subst e;cases r++t with
   |nil=>simp[pq]
   |cons d t=>simp[pq]
 .rcases f with f|⟨e,_⟩|e|e
  .have:=TU f.1;exact⟨this.2.2.2.2.1,this.2.2.2.2.2.1,g f.1,this.2.2.2.2.2.2.1⟩
  all_goals subst e;decide
theorem ar4 {s:List UInt8} {a:Nat} {w x t:List UInt8} (d:AY w x) (h:s.drop a=w++t) (f:atj t):mP s a=a+w.length:=by
 unfold mP;rw[h,show dZ=([((0:Int),(0:Int))],true) from rfl,DK _ _ _ _ (aeK d (.inl rfl) _ _),OT d (.inl rfl)];rcases f with e|⟨g,e⟩
 .subst e;simp[jL]
 .subst e;rw[jL,am (by rfl)];omega
theorem ayx {w x:List UInt8} (d:AY w x):BP w=true:=by
 unfold BP;rw[show dZ=([((0:Int),(0:Int))],true) from rfl,OT d (.inl rfl)];rfl
theorem alP {s:List UInt8} {a:Nat} {w x t:List UInt8} (d:AY w x) (g:w≠[]) (h:s.drop a=w++t) (f:atj t) (P:List Dlm):
  jC s a (0,P,false,())=(((6,(a:Int),((a+w.length:Nat):Int),false,()):Tok),((0,P,false,()):YQ)):=by
 obtain⟨c,r,e⟩: ∃c r,w=c::r:=by
  cases w with
  |nil=>exact absurd rfl g
  |cons c r=>exact⟨c,r,rfl⟩
 obtain⟨i,j,l,_,m⟩:=QG d e t;have o:s.drop a=c::(r++t):=by rw[h,e];rfl
 obtain⟨p,B⟩:=nJ o;have q:eX c≠10:=kY j;have u:eX c≠35:=kY l;have v:(CS (w++t)).2=0:=by rw[e,aH];unfold CS;rw[TJ m]
 have y:=aDU d f;have z:=ar4 d h f;have A:AL s a (a+w.length)=w:=by
  unfold AL;rw[List.drop_take,h,show a+w.length-a=w.length by omega,List.take_left]
 unfold jC jI kK;simp only[h,i,v,y,p,q,u,ne_eq,not_true_eq_false,if_false,ag,if_true,z,A,ayx d,ax]
theorem aBh {s:List UInt8} {a:Nat} {w x t:List UInt8} (d:AY w x) (f:w≠[]) (h:s.drop a=32::(w++t)) (P:List Dlm):
  jC s a (0,P,false,())=(((1,(a:Int),((a+1:Nat):Int),false,()):Tok),((0,P,false,()):YQ)):=by
 obtain⟨c,r,e⟩: ∃c r,w=c::r:=by
  cases w with
  |nil=>exact absurd rfl f
  |cons c r=>exact⟨c,r,rfl⟩
 have g:=(QG d e t).1;have i:uB (32::(w++t))=1:=by rw[tN,am (by decide),g]
 unfold jC jI kK;simp[h,i]
def jk (us:List bV):bV:=us.flatMap fun u=>u++[32]
def OQ:Nat->List bV->List Tok
 |_,[]=>[]
 |a,u::us=>(6,(a:Int),((a+u.length:Nat):Int),false,())::(1,((a+u.length:Nat):Int),((a+u.length+1:Nat):Int),false,())::OQ (a+u.length+1) us
def Wd (w:bV):Prop:=w≠[]/\ ∃x,AY w x
theorem uY (u:bV) (us:List bV):jk (u::us)=u++32::jk us:=by simp[jk]
theorem ah2 {us:List bV} (h: ∀u∈us,Wd u) {w:List UInt8} (e:Wd w): ∃v x t,AY v x/\v≠[]/\jk us++w=v++t:=by
 cases us with
 |nil=>obtain⟨x,d⟩:=e.2;exact⟨w,x,[],d,e.1,by simp[jk]⟩
 |cons u us=>obtain⟨x,d⟩:=(h u (az ..)).2;exact⟨u,x,32::jk us++w,d,(h u (az ..)).1,by rw[uY];simp⟩
theorem acy {s w:List UInt8} (d:Wd w): ∀(us:List bV) (n a:Nat) (l:List Tok),s.drop a=jk us++w->(∀u∈us,Wd u)->s.length-a<n->
  nC s n a l (0,[],false,())=(l++OQ a us++[(6,((a+(jk us).length:Nat):Int),((a+(jk us).length+w.length:Nat):Int),false,())],(0,[],false,()))/\
  AP s n a l=l++OQ a us++[(6,((a+(jk us).length:Nat):Int),((a+(jk us).length+w.length:Nat):Int),false,())]
 |[],n,a,l,h,_,A=>by
  obtain⟨e,x,f⟩:=d;have K:a+w.length=s.length:=(af7 (l:=w) h).resolve_left e;have B:0<w.length:=List.length_pos_iff.2 e;obtain⟨n,rfl⟩: ∃m,n=m+2:=⟨n-2,by omega⟩;have g:=fun P=>alP f e (s:=s) (a:=a) (t:=[]) (by rw[bg];exact h) (.inl rfl) P;rw[nC,am (by omega),AP,am (by omega),g []];simp only[aS];rw[nC,aq (by omega),AP,aq (by omega)];simp[OQ,jk]
 |u::us,n,a,l,h,o,A=>by
  obtain⟨p,x,f⟩:=o u (az ..);have q: ∀v∈us,Wd v:=fun v i=>o v (aj _ i);have B:0<u.length:=List.length_pos_iff.2 p;rw[uY,ah]at h;have j:s.drop (a+u.length)=32::(jk us++w):=ku h;have D:s.drop (a+u.length+1)=jk us++w:=ku (l:=[32]) j;obtain⟨v,y,t,i,E,G⟩:=ah2 q d;have g:=fun P=>alP f p h (.inr ⟨_,rfl⟩) P;have I:=fun P=>aBh i E (s:=s) (a:=a+u.length) (t:=t) (by rw[j,G]) P;have L:a+u.length<s.length:=(nJ j).2;obtain⟨n,rfl⟩: ∃m,n=m+2:=⟨n-2,by omega⟩;have z:=acy d us n (a+u.length+1) (l++[(6,(a:Int),((a+u.length:Nat):Int),false,())]++[(1,((a+u.length:Nat):Int),((a+u.length+1:Nat):Int),false,())]) D q (by omega);rw[nC,am (by omega),AP,am (by omega),g []];simp only[aS];rw[nC,am (by omega),AP,am (by omega),I []];simp only[aS];have J:a+(jk (u::us)).length=a+u.length+1+(jk us).length:=by rw[uY];simp;omega
  rw[J];refine⟨z.1.trans ?_,z.2.trans ?_⟩<;>simp[OQ]
theorem Lp (f g h:lW) (r:fE) (b:Int):pz (f::g::h::r) b=false:=by
 unfold pz;simp
theorem ap3 {f:Int×Int} {r:fE} (hf:ahd f) (fr:Bool) (a:Int):eQ (f::r) fr (eX 32) a=(f::r,true):=by
 unfold eQ iJ xn;rcases hf with e|e<;>simp[e,eX,uD]
theorem aoH {w:List UInt8} (i:Wd w) {f g h:Int×Int} {r:fE} (hf:ahd f): ∀(us:List bV) (a:Int) (fr:Bool),(∀u∈us,Wd u)->
  gB (jk us++w) a (f::g::h::r,fr)=(f::g::h::r,false)/\jL (jk us++w) a (f::g::h::r,fr)=(jk us++w).length
 |[],a,fr,_=>by
  obtain⟨m,x,d⟩:=i;refine⟨?_,aeK d hf _ _⟩;have:=OT d (r:=g::h::r) hf a fr;rw[aq m]at this;exact this
 |u::us,a,fr,j=>by
  obtain⟨o,x,d⟩:=j u (az ..);have e:=OT d (r:=g::h::r) hf a fr;rw[aq o]at e;have l:=fun b=>aoH i (g:=g) (h:=h) (r:=r) hf us b true fun v p=>j v (aj _ p);rw[uY,ah];rw[Aj,e,DK _ _ _ _ (aeK d hf _ _),e,aH,gB,jL,ap3 hf,Lp];refine⟨(l _).1, ?_⟩;simp only[ag,if_false,(l _).2,ai,aG]
end
section
open Option renaming some → a6, none → a7
open Bool renaming and_eq_true → af, not_true → ax, not_false → aA
open Go.RowKit
theorem aih (x:bV) (a b:Int):nS (6,(x,(a,(b,()))))=nS (6,(x,(0,(0,())))):=by
 unfold nS;simp only[show bY 6 2=false from rfl,show bY 6 5=false from rfl,show bY 6 4=false from rfl,ac]
def azg (w:bV):Bool:=match nS (6,(w,(0,(0,()))))with
 |some ([c],_)=>c !=60&&c !=35
 |_=>false
theorem ar9:xu.all azg=true:=by kernel_rfl
theorem aze {x:List UInt8} (hx:x.length<=10000) (a b:Int):QO (6,(x,(a,(b,()))))≠60/\QO (6,(x,(a,(b,()))))≠35:=by
 unfold QO;rw[aih];cases hw:xu.contains x with
 |true=>
  have:=List.all_eq_true.1 ar9 x (by simpa using hw);unfold azg at this;split at this
  .rename_i c u d
   rw[d];simp only[af,bne_iff_ne]at this;exact this
  .cases this
 |false=>
  have:nS (6,(x,(0,(0,()))))=a6 ([120],()):=by
   unfold nS;simp only[show bY 6 2=false from rfl,show bY 6 5=false from rfl,show bY 6 4=false from rfl,show bY 6 6=true from rfl,ac,ax];rw[Ut x (by omega) hw,bI];rfl
  rw[this];exact⟨by decide,by decide⟩
theorem azd {x:List UInt8} (hx:x.length<=10000) (a b:Int):QO (4,(x,(a,(b,()))))≠35:=by
 unfold QO;cases hw:LW.contains x with
 |true=>
  rcases axY hw with h|h|h|h|h|h|h|h|h|h|h|h|h|h|h|h|h
  .subst h;rw[show nS (4,([38,38],(a,(b,()))))=a6 ([97],()) by kernel_rfl];decide
  .subst h;rw[show nS (4,([124,124],(a,(b,()))))=a6 ([111],()) by kernel_rfl];decide
  .subst h;rw[show nS (4,([59,59],(a,(b,()))))=a6 ([121],()) by kernel_rfl];decide
  .subst h;rw[show nS (4,([60,60],(a,(b,()))))=a6 ([60],()) by kernel_rfl];decide
  .subst h;rw[show nS (4,([60,60,45],(a,(b,()))))=a6 ([60],()) by kernel_rfl];decide
  .subst h;rw[show nS (4,([62,62],(a,(b,()))))=a6 ([60],()) by kernel_rfl];decide
  .subst h;rw[show nS (4,([60,38],(a,(b,()))))=a6 ([60],()) by kernel_rfl];decide
  .subst h;rw[show nS (4,([62,38],(a,(b,()))))=a6 ([60],()) by kernel_rfl];decide
  .subst h;rw[show nS (4,([60,62],(a,(b,()))))=a6 ([60],()) by kernel_rfl];decide
  .subst h;rw[show nS (4,([62,124],(a,(b,()))))=a6 ([60],()) by kernel_rfl];decide
  .subst h;rw[show nS (4,([60],(a,(b,()))))=a6 ([60],()) by kernel_rfl];decide
  .subst h;rw[show nS (4,([62],(a,(b,()))))=a6 ([60],()) by kernel_rfl];decide
  .subst h;rw[show nS (4,([38],(a,(b,()))))=a6 ([38],()) by kernel_rfl];decide
  .subst h;rw[show nS (4,([59],(a,(b,()))))=a6 ([59],()) by kernel_rfl];decide
  .subst h;rw[show nS (4,([124],(a,(b,()))))=a6 ([124],()) by kernel_rfl];decide
  .subst h;rw[show nS (4,([40],(a,(b,()))))=a6 ([40],()) by kernel_rfl];decide
  .subst h;rw[show nS (4,([41],(a,(b,()))))=a6 ([41],()) by kernel_rfl];decide
 |false=>
  have:nS (4,(x,(a,(b,()))))=a6 ([63],()):=by
   unfold nS;simp only[show bY 4 2=false from rfl,show bY 4 5=false from rfl,show bY 4 4=true from rfl,ac,aa];rw[show(1:Int)=((0:Nat):Int)+1 from rfl,aeX x hw 4 a b bT 0 (by omega) (dJ)];rfl
  rw[this];decide
theorem aM7 {f:Lf} (hf:f.2.1.length<=10000) (h:QO f=60):f.1=4:=by
 obtain⟨k,x,a,b,u⟩:=f;by_cases h4:k=4
 .exact h4
 exfalso;by_cases h2:k=2
 .subst h2;rw[show QO (2,(x,(a,(b,u))))=110 from rfl]at h;exact absurd h (by decide)
 by_cases h5:k=5
 .subst h5;rw[show QO (5,(x,(a,(b,u))))=35 from rfl]at h;exact absurd h (by decide)
 by_cases h6:k=6
 .subst h6;exact(aze hf a b).1 h
 have:nS (k,(x,(a,(b,()))))=a6 ([63],()):=by
  unfold nS;simp only[dM h2,dM h4,dM h5,dM h6,ac,aA,aa]
 unfold QO at h;rw[this]at h;exact absurd h (by decide)
theorem aN4 {f:Lf} (hf:f.2.1.length<=10000) (h:QO f=35):f.1≠4:=by
 obtain⟨k,x,a,b,u⟩:=f;rintro rfl;exact azd hf a b h
end
section
open Go.RowKit
theorem aOx:(LW.zipIdx.all fun p=>(decide (p.2+1=4)==decide (p.1=[60,60]))&&(decide (p.2+1=5)==decide (p.1=[60,60,45])))=true:=by decide
theorem aMN (t:bV):(ofF t=4↔t=[60,60])/\(ofF t=5↔t=[60,60,45]):=by
 constructor
 .constructor
  .intro h;unfold ofF at h
   grind [List.findIdx?_eq_some_iff_getElem,LW]
  .rintro rfl;rfl
 .constructor
  .intro h;unfold ofF at h;split at h
   .simp_all [List.findIdx?_eq_some_iff_getElem,LW]
   .omega
  .rintro rfl;rfl
theorem Tr.upI {F:List Lf} {a b:Nat} {u:Int} {k:Nat} {m:List Nd} (h:Tr F a b u k m):u<k-> ∀(j:Nat) (d:j<m.length),m[j].2.2.2.1<((k+j:Nat):Int)/\(m[j].2.2.2.1=u\/(k:Int)<=m[j].2.2.2.1):=by
 induction h with
 |nil h=>simp
 | @leaf a b f t u k kd m h1 hk hf h2 g=>
  grind
 | @node a b f t u k kd m n h1 hk h8 h h2 ih1 e=>
  intro i j d;cases j with
  |zero=>simp_all
  |succ j=>
   simp only[List.getElem_cons_succ];by_cases hjm:j<m.length
   .grind
   .have:=e (by omega) (j-m.length) (by grind)
    grind
def Beh (x y:Nd):Prop:=x.1=6\/x.1=7->x.2.2.1<=y.2.1
theorem Tr.pw {F:List Lf} {a b:Nat} {u:Int} {k:Nat} {m:List Nd} (h:Tr F a b u k m):0<=u->u<k->m.Pairwise Beh:=by
 induction h with
 |nil h=>intros;exact .nil
 | @leaf a b f t u k kd m h1 hk hf h2 i=>
  intro d j;refine List.pairwise_cons.2 ⟨fun y e _=> ?_,i d (by omega)⟩;have:=(h2.all d (by omega) y e).f0;exact this
 | @node a b f t u k kd m n h1 hk h8 h h2 ih1 l=>
  intro d j;refine List.pairwise_cons.2 ⟨fun y e g=>by omega,List.pairwise_append.2 ⟨ih1 (by omega) (by omega),l d (by omega),fun x g y e _=> ?_⟩⟩;have o:=(h.all (by omega) (by omega) x g).t1;have p:=(h2.all d (by omega) y e).f0;omega
theorem Tr.kid {F:List Lf} {a b:Nat} {u:Int} {k:Nat} {m:List Nd} (h:Tr F a b u k m):u<k-> ∀(j q:Nat) (l:j<m.length) (o:q<m.length),m[j].1=8->m[q].2.2.2.1=((k+j:Nat):Int)->
  ∃(f t:Nat) (i:List Nd),m[j].2.1=(f:Int)/\m[j].2.2.1=(t:Int)/\RdG F f t i/\m[q]∈i:=by
 induction h with
 |nil h=>simp
 | @leaf a b f t u k kd m h1 hk hf h2 p=>
  grind
 | @node a b f t u k kd m n h1 hk h8n h h2 ih1 s=>
  intro v j q l o g e;cases q with
  |zero=>grind
  |succ q=>
   cases j with
   |zero=>
    simp only[List.getElem_cons_zero,List.getElem_cons_succ]at g e ⊢;have d:q<m.length:=by
     by_cases d:q<m.length
     .exact d
     .exfalso;rw[List.getElem_append_right (by omega)]at e;have:=h2.upI (by omega) (q-m.length) (by grind);omega
    grind
   |succ j=>
    simp only[List.getElem_cons_succ]at g e ⊢;by_cases hjm:j<m.length
    .rw[List.getElem_append_left hjm]at g ⊢;have d:q<m.length:=by
      by_cases d:q<m.length
      .exact d
      .exfalso;rw[List.getElem_append_right (by omega)]at e;have:=h2.upI (by omega) (q-m.length) (by grind);omega
     grind
    .rw[List.getElem_append_right (by omega)]at g ⊢;have d: ¬q<m.length:=fun d=>by
      rw[List.getElem_append_left d]at e;have:=h.upI (by omega) q d;omega
     rw[List.getElem_append_right (by omega)]at e ⊢
     grind
end
section
open Bool renaming and_eq_true → af, not_true → ax
open Int renaming toNat_natCast → aS
open List renaming append_assoc → ah, length_append → ai, mem_cons_of_mem → aj, map_cons → au, mem_cons_self → az, nil_append → aB, length_cons → aG, getElem_mem → aP, append_nil → bg, mem_append_right → bC, mem_append_left → bD
open Go.RowKit
theorem ahX:xu.all (fun w=>w.all (fun c=>c !=39&&c !=92&&c !=34))=true:=by decide
theorem Zy: ∀r:bV,(∀b∈Kr r,b≠39/\b≠92)->Kr r=r
 |[],_=>rfl
 |c::r,h=>by
  rw[EG]at h ⊢;have g:=Zy r fun b f=>h b (bC _ f);have d: ∀b∈pl1 false c,b≠39/\b≠92:=fun b f=>h b (bD _ f);unfold pl1 at d ⊢;split
  .rename_i e
   rw[am e]at d;exact absurd rfl (d 39 (by simp)).1
  .rename_i e
   rw[aq e]at d;split
   .rename_i i
    rw[am i]at d;exact absurd rfl (d 92 (by simp)).2
   .rw[g];rfl
theorem aaB (s:bV):xu.contains (qp s)=false:=by
 cases hr:xu.contains (qp s)with
 |false=>rfl
 |true=>
  exfalso;have g:qp s∈xu:=by simpa using hr
  have d: ∀b∈qp s,b≠39/\b≠92:=fun b d=>by
   have:=List.all_eq_true.1 (List.all_eq_true.1 ahX _ g) b d;simp only[af,bne_iff_ne]at this;exact⟨this.1.1,this.1.2⟩
  cases s with
  |nil=>exact absurd rfl (d 39 (by simp[qp])).1
  |cons c r=>
   have e:qp (c::r)=pl1 (Ip (c::r)) c++Kr r:=rfl;rw[e]at d;have l:=Zy r fun b h=>d b (bC _ h);have f: ∀b∈pl1 (Ip (c::r)) c,b≠39/\b≠92:=fun b h=>d b (bD _ h);unfold pl1 at f e;split at f
   .exact absurd rfl (f 39 (by simp)).1
   .rename_i m
    rw[aq m]at e;split at f
    .exact absurd rfl (f 92 (by simp)).2
    .rename_i j
     rw[aq j,l]at e;rw[e]at g;have i:Ip (c::r)=false:=by simpa using fun h=>j (.inr h)
     unfold Ip aeQ at i;rw[Bool.or_eq_false_iff]at i;have:xu.contains (c::r)=true:=by simpa using g
     rw[i.1]at this;cases this
theorem aaC {w:List UInt8} {c:UInt8} (d:c=39\/c=34):xu.contains (c::w)=false:=by
 cases hr:xu.contains (c::w)with
 |false=>rfl
 |true=>
  exfalso;have f:c::w∈xu:=by simpa using hr
  have:=List.all_eq_true.1 (List.all_eq_true.1 ahX _ f) c (az ..);simp only[af,bne_iff_ne]at this;rcases d with e|e
  .exact this.1.1 e
  .exact this.2 e
theorem XP (s:bV) (k:Nat):xu.contains (sS s k)=false:=by
 unfold sS;split
 .exact aaC (.inl rfl)
 .split
  .exact aaC (.inr rfl)
  .exact aaB s
theorem ar5 (s:bV):xu.contains (ja s)=false:=by
 unfold ja;simp only;split
 .split
  .exact XP s 5
  .exact XP s 4
 .split
  .exact XP s 5
  .exact aaB s
theorem QP (s:bV):(ja s).length<=2*s.length+2:=by
 have d:(sS s 5).length<=2*s.length+2:=by
  have:=Nk s;unfold sS;simp;omega
 unfold ja;simp only;split
 .split
  .exact d
  .omega
 .split
  .exact d
  .omega
theorem aig (s:bV):ja s≠[]:=by
 unfold ja;simp only;split
 .split
  .exact NL s 5
  .exact NL s 4
 .split
  .exact NL s 5
  .exact QE s
theorem aaI {x:List UInt8} (hx:x.length<=10000) (d:xu.contains x=false) (a b:Int):QO (6,(x,(a,(b,()))))=120:=by
 have:nS (6,(x,(0,(0,()))))=some ([120],()):=by
  unfold nS;simp only[show bY 6 2=false from rfl,show bY 6 5=false from rfl,show bY 6 4=false from rfl,show bY 6 6=true from rfl,ac,ax];rw[Ut x (by omega) d,bI];rfl
 unfold QO;rw[aih,this]
def lvW:Nat->List bV->List Lf
 |_,[]=>[]
 |a,u::us=>(6,u,(a:Int),((a+u.length:Nat):Int),())::lvW (a+u.length+1) us
theorem WH {s w:List UInt8}: ∀(us:List bV) (a:Nat),s.drop a=jk us++w->iy s (OQ a us)=lvW a us
 |[],a,_=>rfl
 |u::us,a,h=>by
  rw[uY,ah]at h;have e:s.drop (a+u.length+1)=jk us++w:=ku (l:=[32]) (ku h);have d:=WH us (a+u.length+1) e;unfold iy at d ⊢;rw[OQ,List.filter_cons,am (by rfl),List.filter_cons,aq (by simp[ach]),au,d,lvW];have:ag7 s ((6,(a:Int),((a+u.length:Nat):Int),false,()):Tok)=(6,u,(a:Int),((a+u.length:Nat):Int),()):=by
   unfold ag7;simp only;rw[uz h]
  rw[this]
theorem aoy (b:Nat): ∀(us:List bV) (a:Nat),a+(jk us).length<=b-> ∀t∈OQ a us,t.2.2.1<=(b:Int)
 |[],_,_,t,h=>by cases h
 |u::us,a,h,t,d=>by
  have f:(jk (u::us)).length=u.length+1+(jk us).length:=by rw[uY];simp;omega
  rw[OQ]at d;rcases List.mem_cons.1 d with e|d
  .rw[e];simp only;omega
  .rcases List.mem_cons.1 d with e|d
   .rw[e];simp only;omega
   .exact aoy b us _ (by omega) t d
theorem ajw (us:List bV) {w:List UInt8} (d:w≠[]):((OQ 0 us++[((6,((0+(jk us).length:Nat):Int),((0+(jk us).length+w.length:Nat):Int),false,()):Tok)]).filter fun t=>decide (t.2.2.1<=(((jk us).length:Nat):Int)))=OQ 0 us:=by
 have f:0<w.length:=List.length_pos_iff.2 d;rw[List.filter_append,List.filter_cons,aq (by simp;omega),List.filter_nil,bg];exact List.filter_eq_self.2 fun t e=>decide_eq_true (aoy _ us 0 (by omega) t e)
theorem U9 (u:Int): ∀(k a:Nat),(Gy u a k).length=k
 |0,_=>rfl
 |k+1,a=>by rw[Gy,aG,U9 u k]
theorem aAR (u:Int): ∀(k a j:Nat) (h:j<(Gy u a k).length),(Gy u a k)[j]=(7,((a+j:Nat):Int),((a+j+1:Nat):Int),u,())
 |0,_,_,h=>by simp[Gy]at h
 |k+1,a,0,h=>rfl
 |k+1,a,j+1,h=>by
  simp only[Gy,List.getElem_cons_succ];rw[aAR u k (a+1) j];rw[show a+1+j=a+(j+1) by omega]
def Rk (n:Nat):List Nd:=(1,0,(n:Int),-1,())::(2,0,(n:Int),0,())::(3,0,(n:Int),1,())::(4,0,(n:Int),2,())::(5,0,(n:Int),3,())::Gy 4 0 n
theorem YE (n:Nat):(Rk n).length=n+5:=by simp[Rk,U9]
theorem U6 {n j:Nat} (h:j<n):ed (Rk n) Ci ((5+j:Nat):Int)=(7,(j:Int),((j+1:Nat):Int),4,()):=by
 rw[rF (by rw[YE];omega)];have:=aAR 4 n 0 j (by rw[U9];omega);have e:(Rk n)[5+j]? =(Gy 4 0 n)[j]? :=by rw[show 5+j=j+1+1+1+1+1 by omega];rfl
 rw[List.getElem?_eq_getElem (by rw[YE];omega),List.getElem?_eq_getElem (by rw[U9];omega)]at e;rw[Option.some.inj e,this,Nat.zero_add]
theorem aBn (m:Nat):zG (Rk (m+1)) (m:Int) (Rk (m+1)).length=((5+m:Nat):Int):=by
 rw[YE,show m+1+5=5+m+1 by omega,zG,U6 (by omega),am ⟨by simp,by simp;omega⟩]
theorem alS {n m:Nat} (i:n=m+1): ∀(k a:Nat) (d:Int),a+k=n->0<k->(a≠0->d=5)->(a=0->m=0->d=5)->Dz (Rk n) ((5+m:Nat):Int) (AO 4 (Gy 4 a k) (5+a)) (a:Int) d=((m:Int),5)
 |0,_,_,_,h,_,_=>by omega
 |k+1,a,d,o,_,f,j=>by
  rw[Gy,AO,am rfl,Dz,U6 (by omega)];by_cases e:a<m
  .rw[am ⟨by omega,rfl⟩];have g:=alS i k (a+1) (if(a:Int)=0 then((5+a:Nat):Int)else d) (by omega) (by omega) (fun _=>by
    split
    .omega
    .exact f (by omega)) (fun h=>by omega)
   rw[show 5+(a+1)=5+a+1 by omega,show((a+1:Nat):Int)=(a:Int)+1 by omega]at g;exact g
  .have hk:k=0:=by omega
   have l:a=m:=by omega
   subst hk;rw[aq (fun h=>by omega)];show((a:Int),d)=_;rw[l];by_cases h0:m=0
   .rw[j (by omega) h0]
   .rw[f (by omega)]
theorem aA8 (m:Nat):Dz (Rk (m+1)) ((5+m:Nat):Int) (AO 4 (Rk (m+1)) 0) 0 ((5+m:Nat):Int)=((m:Int),5):=by
 have:AO 4 (Rk (m+1)) 0=AO 4 (Gy 4 0 (m+1)) (5+0):=rfl;rw[this];exact alS rfl (m+1) 0 _ (by omega) (by omega) (fun h=>absurd rfl h) (fun _ h=>by omega)
def Wr (w:bV):Prop:=Wd w/\xu.contains w=false/\w.length<=1000
theorem anZ: ∀(us:List bV) (a:Nat),(∀u∈us,Wr u)-> ∀f∈lvW a us,f.1=6/\QO f=120
 |[],_,_,f,d=>by cases d
 |u::us,a,h,f,d=>by
  rw[lvW]at d;rcases List.mem_cons.1 d with e|d
  .rw[e];have:=h u (az ..);exact⟨rfl,aaI (by have:=this.2.2;omega) this.2.1 _ _⟩
  .exact anZ us _ (fun v g=>h v (aj _ g)) f d
theorem an0: ∀(us:List bV) (a:Nat),(lvW a us).length=us.length
 |[],_=>rfl
 |u::us,a=>by rw[lvW,aG,aG,an0 us]
theorem aDW {w x:List UInt8} (h:AY w x):wTx w=[95]:=by
 unfold wTx;rw[aoD h];rfl
theorem al7 {s w x:List UInt8} {us:List bV} (i:s=jk us++w) (hl:s.length<=1000) (Y:us.length<=50) (o: ∀u∈us,Wr u) (z:w≠[]) (p:AY w x) (n:Nat) (fr dp:Int):
  VI PG (n+1) s fr dp (OQ 0 us++[(6,((0+(jk us).length:Nat):Int),((0+(jk us).length+w.length:Nat):Int),false,())]) false=
   (1,(if us=[]then 1 else 2),fr+((jk us).length:Int),0,x,true,(if us=[]then []else(PG (us.headD [])).1),(us.length:Int),dp,()):=by
 have A:iq (OQ 0 us++[((6,((0+(jk us).length:Nat):Int),((0+(jk us).length+w.length:Nat):Int),false,()):Tok)])=(6,((0+(jk us).length:Nat):Int),((0+(jk us).length+w.length:Nat):Int),false,()):=NW _ _;have B:kU s ((6,((0+(jk us).length:Nat):Int),((0+(jk us).length+w.length:Nat):Int),false,()):Tok)=((jk us).length:Int):=by
  unfold kU;rw[am rfl];simp
 have D:s.length=(jk us).length+w.length:=by rw[i,ai]
 have q:sub s ((jk us).length:Int) (bK s)=w:=by
  have:=uz (s:=s) (l:=w) (m:=[]) (a:=(jk us).length) (by rw[i,List.drop_left,bg]);rw[bM,D];exact this
 have E:(gB w 0 dZ).1=[(0,0)]:=by
  rw[show dZ=([((0:Int),(0:Int))],true) from rfl,OT p (.inl rfl)]
 obtain⟨G,I⟩:=aav p;have hF:Y2 s (OQ 0 us++[((6,((0+(jk us).length:Nat):Int),((0+(jk us).length+w.length:Nat):Int),false,()):Tok)]) ((jk us).length:Int)=lvW 0 us++[(6,([95],(0,(0,()))))]:=by
  unfold Y2;rw[ajw us z,WH us 0 (w:=w) (by rw[i];rfl),q,aDW p]
 have J:QO (6,(([95]:bV),((0:Int),((0:Int),()))))=120:=aaI (by decide) (by decide) _ _;have g:(lvW 0 us++[((6:Int),(([95]:bV),((0:Int),((0:Int),()))))]).length=us.length+1:=by rw[ai,an0];rfl
 have K: ∀f∈lvW 0 us++[((6:Int),(([95]:bV),((0:Int),((0:Int),()))))],f.1=6/\QO f=120:=fun f d=>by
  rcases List.mem_append.1 d with d|d
  .exact anZ us 0 o f d
  .rw[List.mem_singleton.1 d];exact⟨rfl,J⟩
 have L: ∀f∈lvW 0 us++[((6:Int),(([95]:bV),((0:Int),((0:Int),()))))],f.2.1.length<=10000:=by
  have M: ∀(us:List bV) (a:Nat),(∀u∈us,Wr u)-> ∀f∈lvW a us,f.2.1.length<=10000:=by
   intro us
   induction us with
   |nil=>intro a _ f d;cases d
   |cons u us N=>
    intro a h f d;rw[lvW]at d;rcases List.mem_cons.1 d with e|d
    .rw[e];have:=(h u (az ..)).2.2;simp only;omega
    .exact N _ (fun v O=>h v (aj _ O)) f d
  intro f d;rcases List.mem_append.1 d with d|d
  .exact M us 0 o f d
  .rw[List.mem_singleton.1 d];decide
 have S:Ws (lvW 0 us++[((6:Int),(([95]:bV),((0:Int),((0:Int),()))))]):={
  ok:=⟨by rw[g];omega,L⟩
  pos:=by rw[g];omega
  len:=by rw[g];omega
  wd:=fun a h=>K _ (aP h)
  asg:=fun h=>by
   cases us with
   |nil=>show asg [95]=false;decide
   |cons u us=>
    obtain⟨y,U⟩:=(o u (az ..)).1.2;show asg u=false;exact aoD U}
 have hT:aiv (lvW 0 us++[((6:Int),(([95]:bV),((0:Int),((0:Int),()))))])=Rk (us.length+1):=by
  unfold aiv;rw[arV S,g];rfl
 rw[VI,A];rw[aq (by simp[Wu]),aq (by simp),B,q,E];rw[show VK (lo [((0:Int),(0:Int))])=none from rfl];simp only[G,I];rw[aq (by simp),hF,hT,show((GK (lo [((0:Int),(0:Int))]):Nat):Int)=0 from rfl,show stF (lo [((0:Int),(0:Int))])=0 from rfl];unfold ah1;have V:bK (lvW 0 us++[((6:Int),(([95]:bV),((0:Int),((0:Int),()))))])-1=(us.length:Int):=by rw[bM,g];omega
 rw[V,aBn];simp only[U6 (show us.length<us.length+1 by omega)];rw[aq (by decide),aq (by decide),aA8];simp only[show ed (Rk (us.length+1)) Ci 4=(5,0,((us.length+1:Nat):Int),3,()) from rfl,if_true];cases us with
 |nil=>
  rw[aq (by simp)];simp[X0,jk]
 |cons u us=>
  rw[am (by simp)];have W:ed (Rk ((u::us).length+1)) Ci 5=(7,0,1,4,()):=U6 (n:=(u::us).length+1) (j:=0) (by omega);rw[W];have X:ed (lvW 0 (u::us)++[((6:Int),(([95]:bV),((0:Int),((0:Int),()))))]) dLf 0=(6,u,0,((0+u.length:Nat):Int),()):=rfl;simp only[X];simp[aM4]
theorem aqb {w x:List UInt8} {us:List bV} (hl:(jk us++w).length<=1000) (g:us.length<=50) (d: ∀u∈us,Wr u) (e:w≠[]) (f:AY w x):
  af1 PG (jk us++w)=(1,(if us=[]then 1 else 2),((jk us).length:Int),0,x,true,(if us=[]then []else(PG (us.headD [])).1),(us.length:Int),0,()):=by
 have i:=(acy (s:=jk us++w) ⟨e,x,f⟩ us ((jk us++w).length+1) 0 [] rfl (fun u j=>(d u j).1) (by omega)).1;unfold af1 kJ;rw[i,aB];simp only;rw[al7 rfl hl g d e f,Int.zero_add]
theorem aqa {w x:List UInt8} {us:List bV} (hl:(jk us++w).length<=900) (O:us.length<=50) (A: ∀u∈us,Wr u) (B:w≠[]) (D:AY w x):
  af1 PG ([120,32,34,36,40]++(jk us++w))=(1,(if us=[]then 1 else 2),5+((jk us).length:Int),0,x,true,(if us=[]then []else(PG (us.headD [])).1),(us.length:Int),1,()):=by
 have j:Wd w:=⟨B,x,D⟩;have o: ∀u∈us,Wd u:=fun u S=>(A u S).1;obtain⟨v,y,t,U,V,W⟩:=ah2 o j;obtain⟨c,r,e⟩: ∃c r,v=c::r:=by
  cases v with
  |nil=>exact absurd rfl V
  |cons c r=>exact⟨c,r,rfl⟩
 have X:eX c≠40:=kY (QG U e t).2.2.2.1;have Y:jk us++w=c::(r++t):=by rw[W,e];rfl
 have Z:=fun a d (p q:Int)=>aoH j (f:=(1,p)) (g:=(5,q)) (h:=(0,0)) (r:=[]) (.inr rfl) us a d o;have al:=hl;generalize E:jk us++w=J at*;have ab: ∀(p q a:Int) (d:Bool),gB J a ([(3,p),(5,q),(0,0)],d)=([(1,p),(5,q),(0,0)],false)/\jL J a ([(3,p),(5,q),(0,0)],d)=J.length:=fun p q a d=>by
  have ad:eQ [(3,p),(5,q),(0,0)] d (eX c) a=eQ [(1,p),(5,q),(0,0)] d (eX c) a:=by
   unfold eQ;simp[X]
  have z:=Z a d p q;rw[Y]at z ⊢;rw[gB,jL,Lp]at z ⊢;simp only[ad];exact z
 have G: ∀a:Int,gB (34::36::40::J) a dZ=([(1,a+1),(5,a),(0,0)],false)/\jL (34::36::40::J) a dZ=(34::36::40::J).length:=fun a=>by
  have I:eQ [((0:Int),(0:Int))] true (eX 34) a=([(5,a),(0,0)],false):=Ye (.inl rfl) true a;have K:eQ [(5,a),((0:Int),(0:Int))] false (eX 36) (a+1)=([(12,a+1),(5,a),(0,0)],false):=rfl;have L:eQ [(12,a+1),(5,a),((0:Int),(0:Int))] false (eX 40) (a+1+1)=([(3,a+1),(5,a),(0,0)],true):=rfl;have M:=ab (a+1) a (a+1+1+1) true;rw[show dZ=([((0:Int),(0:Int))],true) from rfl];constructor
  .rw[gB,I,gB,K,gB,L];exact M.1
  .rw[jL,Bg (by decide),I,jL,Bg (by decide),K,jL,Lp,L,M.2];simp
 have i:([120,32,34,36,40]++J).length=J.length+5:=by simp
 have ae:AY [120] [120]:=.plain (by decide) .nil;have t0:=alP (s:=[120,32,34,36,40]++J) (a:=0) ae (by simp) (t:=32::34::36::40::J) rfl (.inr ⟨_,rfl⟩) [];have t1:=Vu (s:=[120,32,34,36,40]++J) (a:=1) (c:=34) (t:=36::40::J) rfl (by decide) [];have N:=Va (s:=[120,32,34,36,40]++J) (a:=2) (c:=34) (t:=36::40::J) rfl (by decide) [];have hE:mP ([120,32,34,36,40]++J) 2=J.length+5:=by
  unfold mP;rw[show List.drop 2 ([120,32,34,36,40]++J)=34::36::40::J from rfl,(G _).2];simp;omega
 have hT:kJ ([120,32,34,36,40]++J)=([(6,0,1,false,()),(1,1,2,false,()),(6,2,((J.length+5:Nat):Int), !BP (AL ([120,32,34,36,40]++J) 2 (J.length+5)),())],(0,[],false,())):=by
  rw[hE]at N;unfold kJ;rw[i,show J.length+5+1=J.length+2+1+1+1+1 by omega];rw[nC,am (by omega),t0];simp only[show((0+[(120:UInt8)].length:Nat):Int).toNat=1 from rfl];rw[nC,am (by omega),t1];simp only[show((1+1:Nat):Int).toNat=2 from rfl];rw[nC,am (by omega),N];simp only[aS];rw[nC,aq (by omega)];rfl
 unfold af1;rw[hT,i];simp only;rw[VI,show iq [((6:Int),((0:Int),((1:Int),(false,())))),(1,1,2,false,()),(6,2,((J.length+5:Nat):Int), !BP (AL ([120,32,34,36,40]++J) 2 (J.length+5)),())]=(6,2,((J.length+5:Nat):Int), !BP (AL ([120,32,34,36,40]++J) 2 (J.length+5)),()) from rfl];have hb:kU ([120,32,34,36,40]++J) ((6,2,((J.length+5:Nat):Int), !BP (AL ([120,32,34,36,40]++J) 2 (J.length+5)),()):Tok)=2:=rfl;have ag:sub ([120,32,34,36,40]++J) 2 (bK ([120,32,34,36,40]++J))=34::36::40::J:=by
  have:=uz (s:=[120,32,34,36,40]++J) (l:=34::36::40::J) (m:=[]) (a:=2) (by rw[bg];rfl);rw[bM,i];rw[show 2+(34::36::40::J).length=J.length+5 by simp;omega]at this;exact this
 have ak:sub ([120,32,34,36,40]++J) (2+1+2) (bK ([120,32,34,36,40]++J))=J:=by
  have:=uz (s:=[120,32,34,36,40]++J) (l:=J) (m:=[]) (a:=5) (by rw[bg];rfl);rw[bM,i];rw[show 5+J.length=J.length+5 by omega]at this;exact this
 rw[aq (by simp[Wu]),aq (by simp),hb,ag,(G 0).1];rw[show VK (lo [((1:Int),(0:Int)+1),(5,0),(0,0)])=some (1,1,()) from rfl];simp only;rw[am (by simp),ak,show((GK (lo [((1:Int),(0:Int)+1),(5,0),(0,0)]):Nat):Int)=1 from rfl];have hx:=(acy (s:=J) j us (J.length+1) 0 [] E.symm o (by omega)).2;unfold ag8;rw[hx,aB,show J.length+5=J.length+4+1 by omega,al7 E.symm (by omega) O A B D];simp
end
section
open Go.RowKit
theorem aLx {s:List UInt8} {c:Int} (d:s.length<=1000) (e:0<=c) (f:c<=s.length):ajx s c=some (af1 PG (sub s 0 c),(0,())):=
 aA2 (fun w g=>aA6 w g) d e f
theorem aNa (s a:bV):sub (s++a) 0 (bK s)=s:=by
 rw[bM];simp[sub]
end
section
open Nat renaming eq_of_beq_eq_true → ak
open Tryz
open Go.RowKit
noncomputable def aLB (sg:FuncId->Option Sum):Env:={P:=prog,T:=tt,cl:=true,kp:=fun _ _=>none,sg:=sg,lp:=fun _ _=>none,bf:=NR}
theorem aBt {sg:FuncId->Option Sum} (h: ∀g s,sg g=some s->dU prog g s):fK (aLB sg):=⟨tok,mixed,Xk,h,fun f fn c _ _=>jW (fun _=>rfl) (fun _=>rfl) c,ah0 _ fun f fn c _ _=>jW (fun _=>rfl) (fun _=>rfl) c,VG,fun _ _ h=>by cases h⟩
theorem aM6 {sg:FuncId->Option Sum} (h: ∀g s,sg g=some s->dU prog g s) {f:FuncId} {d:Sum} (i:dU prog f d): ∀g s,(bif Nat.beq g f then some d else sg g)=some s->dU prog g s:=fun g s e=>by
 rw[cond_eq_ite]at e;split at e
 .rename_i j
  obtain rfl:g=f:=ak j;cases e;exact i
 .exact h g s e
noncomputable def aFh (g:FuncId):Option Sum:=cond (Nat.beq g 13) (some azx)<|sg1 g
theorem azb: ∀g s,aFh g=some s->dU prog g s:=aM6 alq aij
theorem apZ:XQ (aLB aFh) 11 [] YI ()=some (true,()):=by kernel_rfl
def Yw:Sum:=⟨[],YI,fun _=>some (true,())⟩
theorem Zl:dU prog 11 Yw:=Yx (aBt azb) (by decide) fun x y h=>by
 cases h;exact apZ
end
section
open Option renaming some → a6, none → a7
open Tryz
open Go.RowKit
noncomputable def b4:Code:=(Tryz.f4.body).getD .skip
noncomputable def aEu:Code:=cA (cA (cB (cA (cB (cB (cB (cB (cB (cB (b4))))))))))
def aE1:fJ:=⟨[0,5,6,7,100011],[],[],[],[4],[]⟩
def aoh:SP:=⟨us [.v (.list .str),.u,.u,.u,.u,b9,bX,bX] 70,[]⟩
def akB:SP:=⟨us [] 78,[]⟩
def ak1:SP:=⟨us [.u,.u,.u,.u,cf] 73,[]⟩
def afb {m:Type} (o:(List bV)->bV->Int->Int->Option m) (p:Option m) (j:Bool->Option m) (f:List bV) (g:bV) (l e:Int):Option m:=cond (iF e (bK f)) (cond (gy f e) (cond (iF 20 (bK (ed f [] e))) (j true)<|cond (iF 0 e) (cond (iQ g [32]) (cond (gy f e) (bJ (awc (ed f [] e)) fun i=>cond (iQ (bU g [32]) i.1) (bJ (ajx (bU (bU g [32]) i.1) (bK (bU (bU g [32]) i.1))) fun d=>cond (gy f e) (cond (iF 0 e) (cond (gy f 0) (cond (!(bY d.2.1 0)) (j false)<|cond (!((bY d.1.1 1)&&((bY d.1.2.1 2)&&((bY d.1.2.2.1 (bK (bU g [32])))&&((bY d.1.2.2.2.1 0)&&((gp d.1.2.2.2.2.1 (ed f [] e))&&((jM d.1.2.2.2.2.2.1 true)&&((gp d.1.2.2.2.2.2.2.1 (ed f [] 0))&&((bY d.1.2.2.2.2.2.2.2.1 e)&&((bY d.1.2.2.2.2.2.2.2.2.1 l)&&true)))))))))) (j false)<|o f (bU (bU g [32]) i.1) l (cO .i64 e 1)) a7)<|cond (!(bY d.2.1 0)) (j false)<|cond (!((bY d.1.1 1)&&((bY d.1.2.1 1)&&((bY d.1.2.2.1 (bK (bU g [32])))&&((bY d.1.2.2.2.1 0)&&((gp d.1.2.2.2.2.1 (ed f [] e))&&((jM d.1.2.2.2.2.2.1 true)&&((gp d.1.2.2.2.2.2.2.1 [])&&((bY d.1.2.2.2.2.2.2.2.1 0)&&((bY d.1.2.2.2.2.2.2.2.2.1 l)&&true)))))))))) (j false)<|o f (bU (bU g [32]) i.1) l (cO .i64 e 1)) a7) a7) a7) a7)<|cond (gy f e) (bJ (awc (ed f [] e)) fun i=>cond (iQ g i.1) (bJ (ajx (bU g i.1) (bK (bU g i.1))) fun d=>cond (gy f e) (cond (iF 0 e) (cond (gy f 0) (cond (!(bY d.2.1 0)) (j false)<|cond (!((bY d.1.1 1)&&((bY d.1.2.1 2)&&((bY d.1.2.2.1 (bK g))&&((bY d.1.2.2.2.1 0)&&((gp d.1.2.2.2.2.1 (ed f [] e))&&((jM d.1.2.2.2.2.2.1 true)&&((gp d.1.2.2.2.2.2.2.1 (ed f [] 0))&&((bY d.1.2.2.2.2.2.2.2.1 e)&&((bY d.1.2.2.2.2.2.2.2.2.1 l)&&true)))))))))) (j false)<|o f (bU g i.1) l (cO .i64 e 1)) a7)<|cond (!(bY d.2.1 0)) (j false)<|cond (!((bY d.1.1 1)&&((bY d.1.2.1 1)&&((bY d.1.2.2.1 (bK g))&&((bY d.1.2.2.2.1 0)&&((gp d.1.2.2.2.2.1 (ed f [] e))&&((jM d.1.2.2.2.2.2.1 true)&&((gp d.1.2.2.2.2.2.2.1 [])&&((bY d.1.2.2.2.2.2.2.2.1 0)&&((bY d.1.2.2.2.2.2.2.2.2.1 l)&&true)))))))))) (j false)<|o f (bU g i.1) l (cO .i64 e 1)) a7) a7) a7) a7) p
def Aa:Nat->(List bV)->bV->Int->Int->Option (akB.den⊕ak1.den)
 |0,_,_,_,_=>a7
 |n+1,d,e,f,g=>afb (Aa n) (a6 (.inl ((),()))) (fun i=>a6 (.inr ((i,()),()))) d e f g
def aIe (n:Nat) (v:aoh.den):=aR (Aa n) v
noncomputable def axK:dD:=gu aE1 aoh akB ak1 (.exit 0) (aIe bT) 6
def fn4 (d:List bV) (g:Bool):Option vJ:=cond (bY (bK d) 0) (a6 (true,()))<|cond (iF 10 (bK d)) (a6 (true,()))<|cond g (bJ (Aa bT d [120,32,34,36,40] 1 0) fun e=>dR e (fun i=>a6 (true,())) (fun f=>a6 (f.1.1,())))<|bJ (Aa bT d [] 0 0) fun e=>dR e (fun i=>a6 (true,())) (fun f=>a6 (f.1.1,()))
def aKl:Sum:=⟨[.list .str,.bool],YI,fun x=>fn4 x.1 x.2.1⟩
noncomputable def aBs:Env:=jm prog tt 4 [(11,Yw),(12,aFo),(13,azx)] [(11,aE1)] [(11,axK)]
def ayQ {d:Type} (a:aoh.den->Option d) (b:akB.den->Option d) (c:ak1.den->Option d) (v:aoh.den):Option d:=aR (afb (aM a) (b ((),())) (aE c)) v
theorem aIP:dX aBs 4 aEu axK:=yu (ayQ) (h2:=by intros;simp only[ayQ,aM,aE,aR,afb,dm,dn,bI,di,dw])
theorem aOt:dO aBs 4 b4:=pI [aEu] (aD (fM (aIP)) aN)
theorem amd:fK aBs:=eA Tryz.f4 (aD Zl (aD azw (aD aij aN))) (aOt)
theorem aN5:dU prog 4 aKl:=sA amd
end
section
open Bool renaming not_true → ax, and_true → ay
open List renaming append_assoc → ah, length_append → ai, mem_cons_of_mem → aj, map_cons → au, mem_cons_self → az, nil_append → aB, length_cons → aG, length_map → aO, length_take → aZ, mem_of_mem_take → bn, mem_append_left → bD
open Go.RowKit
theorem aAT {x:List UInt8} (h:x.length<=20):Wr (ja x):=⟨⟨aig x,x,QH x⟩,ar5 x,by have:=QP x;omega⟩
def J (l:List bV) (i:Nat):bV:=jk ((l.take i).map ja)
theorem aGb {l:List bV} {i:Nat} (h:i<l.length):J l (i+1)=J l i++(ja l[i]++[32]):=by
 unfold J;rw[List.take_succ_eq_append_getElem h,List.map_append,jk,List.flatMap_append];simp[jk]
theorem aK4 {l:List bV} (h: ∀x∈l,x.length<=20): ∀i,(J l i).length<=43*i:=by
 intro i;unfold J;have: ∀m:List bV,(∀x∈m,x.length<=20)->(jk (m.map ja)).length<=43*m.length:=by
  intro m
  induction m with
  |nil=>intro _;simp[jk]
  |cons x m e=>
   intro d;have f:=e fun y g=>d y (aj _ g);have o:=QP x;have p:=d x (az ..);rw[au,uY];simp only[ai,aG];omega
 have f:=this (l.take i) fun x j=>h x (bn j);have:(l.take i).length<=i:=by rw[aZ];omega
 omega
theorem asc (s:bV):sub s 0 (bK s)=s:=by simp[sub,bM]
def aA5 (base:bV) (dp:Int):Prop:= ∀(us:List bV) (w x:bV),(jk us++w).length<=900->us.length<=50->(∀u∈us,Wr u)->w≠[]->AY w x->af1 PG (base++(jk us++w))=(1,(if us=[]then 1 else 2),(base.length:Int)+((jk us).length:Int),0,x,true,(if us=[]then []else(PG (us.headD [])).1),(us.length:Int),dp,())
theorem aiU {base:List UInt8} (hb:base.length<=5) {dp:Int} (H:aA5 base dp) {l:List bV} (hl:l.length<=10) {i:Nat} (hi:i<l.length) (d: ∀x∈l.take (i+1),x.length<=20):
  ajx (base++J l i++ja l[i]) (bK (base++J l i++ja l[i]))=
   some (((1,(if i=0 then 1 else 2),bK (base++J l i),0,l[i],true,(if i=0 then []else l[0]),(i:Int),dp,()):Ctx),((0:Int),()))/\(base++J l i++ja l[i]).length<=600:=by
 have y:l[i].length<=20:=d l[i] (List.mem_take_iff_getElem.2 ⟨i,by omega,rfl⟩);have z:(J l i).length<=43*10:=by
  have e:J l i=J (l.take (i+1)) i:=by unfold J;rw[List.take_take,Nat.min_eq_left (by omega)]
  have:=aK4 (l:=l.take (i+1)) d i;rw[e];omega
 have A:=QP l[i];have m:(base++J l i++ja l[i]).length<=600:=by simp only[ai];omega
 refine⟨?_,m⟩;have o: ∀u∈(l.take i).map ja,Wr u:=fun u p=>by
  obtain⟨x,q,rfl⟩:=List.mem_map.1 p;refine aAT (d x ?_);rw[List.take_succ_eq_append_getElem hi];exact bD _ q
 have f:((l.take i).map ja).length=i:=by rw[aO,aZ];omega
 have h:=H ((l.take i).map ja) (ja l[i]) l[i] (by show(J l i++_).length<=_;simp only[ai];omega) (by omega) o (aig _) (QH _);have g:=aLx (s:=base++J l i++ja l[i]) (c:=bK (base++J l i++ja l[i])) (by omega) (by rw[bM];omega) (by rw[bM];omega);rw[asc]at g;rw[g];have e:base++J l i++ja l[i]=base++(jk ((l.take i).map ja)++ja l[i]):=by rw[ah];rfl
 rw[e,h,f];have j:(l.take i).map ja=[]↔i=0:=by
  rw[<-List.length_eq_zero_iff,f]
 have v:(base.length:Int)+((jk ((l.take i).map ja)).length:Int)=bK (base++J l i):=by
  rw[bM,ai];unfold J;omega
 rw[v];by_cases h0:i=0
 .subst h0;rfl
 .rw[aq (fun e=>h0 (j.1 e)),aq (fun e=>h0 (j.1 e)),aq h0,aq h0];have hd:((l.take i).map ja).headD []=ja l[0]:=by
   cases l with
   |nil=>simp at hi
   |cons a l=>
    cases i with
    |zero=>exact absurd rfl h0
    |succ i=>rfl
  rw[hd,(aav (QH l[0])).1]
theorem Lm {base:List UInt8} (hb:base.length<=5) {dp:Int} (H:aA5 base dp) {l:List bV} (hl:l.length<=10): ∀(N i:Nat) (s:bV),l.length-i<N->i<=l.length->(∀x∈l.take i,x.length<=20)->
  (i=0->s=base)->(0<i->s++[32]=base++J l i)->Aa N l s dp (i:Int)=some (.inl ((),()))\/Aa N l s dp (i:Int)=some (.inr ((true,()),()))
 |0,i,s,h,_,_,_,_=>by omega
 |N+1,i,s,h,K,u,v,y=>by
  rw[Aa,afb];by_cases e:i<l.length
  .have o:gy l (i:Int)=true:=eF;have z:gy l 0=true:=eF;have A:ed l [] (i:Int)=l[i]:=rF e;have B:ed l [] 0=l[0]:=rF (k:=0) (by omega);rw[bW (fG (by rw[bM];omega)),bW o,A,B];by_cases e20:l[i].length<=20
   .rw[dG (lD (by rw[bM];omega))];have p: ∀x∈l.take (i+1),x.length<=20:=fun x d=>by
     rw[List.take_succ_eq_append_getElem e]at d;rcases List.mem_append.1 d with d|d
     .exact u x d
     .rw[List.mem_singleton.1 d];exact e20
    obtain⟨f,g⟩:=aiU hb H hl e p;have D:=aiI (s:=l[i]) (by omega);have q:cO .i64 (i:Int) 1=((i+1:Nat):Int):=by rw[dB];omega
    have j:=Lm hb H hl N (i+1) (base++J l i++ja l[i]) (by omega) (by omega) p (fun h=>by omega) (fun _=>by rw[aGb e];simp);simp only[o,z,aa,D,bI];by_cases hi0:i=0
    .have E:base++J l i=s:=by rw[hi0,v hi0];simp[J,jk]
     rw[E]at f g j;rw[dG (gU),bW (Ai (by rw[ai]at g;omega))];have m:bU s (ja l[i])=s++ja l[i]:=rfl;rw[am hi0,am hi0]at f;rw[m,f,bI,dG (gU)];simp only[eU,lN,iL,Bool.and_self,ay,ax,ac,q];rw[show bY (i:Int) 0=true from eG];simp only[Bool.and_self,ay,ax,ac];exact j
    .have G:=y (by omega);rw[<-G]at f g j;rw[bW (fG),bW (Ai (by simp only[ai]at g;simp;omega))];have m:bU s [32]=s++[32]:=rfl;have I:bU (s++[32]) (ja l[i])=s++[32]++ja l[i]:=rfl;rw[aq hi0,aq hi0]at f;rw[m,bW (Ai (by simp only[ai]at g ⊢;omega)),I,f,bI,bW (fG)];simp only[eU,lN,iL,Bool.and_self,ay,ax,ac,q];exact j
   .rw[bW (fG (by rw[bM];omega))];exact .inr rfl
  .rw[dG (gU (by rw[bM];omega))];exact .inl rfl
theorem ary (l:List bV) (f:Bool):fn4 l f=some (true,()):=by
 rw[fn4];by_cases h0:l.length=0
 .rw[bW (eG (by rw[bM];omega))]
 rw[dG (dM (by rw[bM];omega))];by_cases h10:l.length<=10
 .rw[dG (lD (by rw[bM];omega))];have g:aA5 [120,32,34,36,40] 1:=fun us w x a b c d e=>aqa a b c d e;have i:aA5 [] 0:=fun us w x a b c d e=>by
   rw[aB,aqb (by omega) b c d e];simp
  have k1:=Lm (by decide) g h10 bT 0 [120,32,34,36,40] (dJ) (by omega) (by simp) (fun _=>rfl) (fun h=>by omega);have k2:=Lm (by decide) i h10 bT 0 [] (dJ) (by omega) (by simp) (fun _=>rfl) (fun h=>by omega);cases f with
  |true=>
   rw[aa];rcases k1 with h|h
   .rw[show Aa bT l [120,32,34,36,40] 1 0=_ from h];rfl
   .rw[show Aa bT l [120,32,34,36,40] 1 0=_ from h];rfl
  |false=>
   rw[ac];rcases k2 with h|h
   .rw[show Aa bT l [] 0 0=_ from h];rfl
   .rw[show Aa bT l [] 0 0=_ from h];rfl
 .rw[bW (fG (by rw[bM];omega))]
end
end Go.Proofs.YtkichehglnecnaaGreatDoor
