/- Parts of the proof, joined and shortened by a program: the plain machine, the functions as it prints them, and the mathematics over them. -/
import Derived.Test.YtkichehglnecnaaGreatDoorZ3
import Derived.Test.YtkichehglnecnaaGreatDoorZ4
set_option linter.unusedVariables false
set_option linter.unusedSimpArgs false
set_option maxRecDepth 100000
set_option maxHeartbeats 4000000
namespace Go.Proofs.YtkichehglnecnaaGreatDoor
section
open Option renaming some → a6, none → a7
open Bool renaming not_true → ax, not_false → aA
open List renaming mem_cons_of_mem → aj, map_cons → au, mem_cons_self → az, drop_eq_getElem_cons → aF, drop_of_length_le → aI
open Nat renaming le_refl → ae, lt_or_ge → aJ
open Go.RowKit
def TD (n:Nat):bV:=if n=0 then []else LW.getD (n-1) []
def aeJ (u t:bV):Bool:=decide (t.take u.length=u)
def uC (t:bV):Nat->Nat
 |0=>0
 |n+1=>if aeJ (TD (n+1)) t=true/\(TD (uC t n)).length<(TD (n+1)).length then n+1 else uC t n
theorem QL: ∀n:Fin 18,aca ((n.val:Nat):Int)=a6 (TD n.val,()):=by decide+kernel
theorem an3: ∀n:Fin 18,(TD n.val).length<=3:=by decide+kernel
theorem afP (t:bV): ∀n,uC t n<=n
 |0=>ae _
 |n+1=>by rw[uC];split<;>have:=afP t n<;>omega
theorem ahU (s:bV) (l:s.length<1000000) {a:Nat} (m:a<=s.length): ∀(d N k:Nat),k+d=17->d<N->
  Je N s (a:Int) ((uC (s.drop a) k:Nat):Int) ((k+1:Nat):Int)=a6 (.inl ((((uC (s.drop a) 17:Nat):Int),()),()))
 |d,0,k,_,h=>by omega
 |0,N+1,k,h,_=>by
  have hk:k=17:=by omega
  subst hk;rfl
 |d+1,N+1,k,h,q=>by
  have f:=QL ⟨k+1,by omega⟩;have u:=afP (s.drop a) k;have g:=QL ⟨uC (s.drop a) k,by omega⟩;have o:=an3 ⟨k+1,by omega⟩;simp only at f g o;rw[Je,UA,bW (oK),f,bI];simp only;rw[dB (a:=((k+1:Nat):Int)) (by omega) (by omega),show((k+1:Nat):Int)+1=((k+1+1:Nat):Int) by omega,bM,bM,ig];have i:=ahU s l m d N (k+1) (by omega) (by omega);rw[uC]at i;by_cases e:a+(TD (k+1)).length<=s.length
  .rw[bW (oK),dB,show(a:Int)+(((TD (k+1)).length:Nat):Int)=((a+(TD (k+1)).length:Nat):Int) by omega,bW (fQ),vC];have p:gp ((s.drop a).take (TD (k+1)).length) (TD (k+1))=aeJ (TD (k+1)) (s.drop a):=by
    grind [gp,aeJ]
   rw[p];cases j:aeJ (TD (k+1)) (s.drop a)with
   |false=>simp_all
   |true=>
    rw[j]at i;rw[aa,g,bI];simp only[bM];by_cases e2:(TD (uC (s.drop a) k)).length<(TD (k+1)).length
    .rw[bW (fG)];simp_all
    simp_all [lD]
  .rw[dG (Sm)];have j:aeJ (TD (k+1)) (s.drop a)=false:=by
    unfold aeJ
    grind
   simp_all
theorem aMU (s:bV) (d:s.length<1000000) {a:Nat} (e:a<=s.length):agp s a=a6 (((uC (s.drop a) 17:Nat):Int),()):=by
 rw[agp];have h:=ahU s d e 17 bT 0 rfl (dJ);rw[show Je bT s (a:Int) 0 1=_ from h,bI];rfl
def opB:bV:=[38,124,59,60,62,45,40,41]
def BI (c:UInt8):UInt8:=if opB.contains c=true then c else 0
theorem acG: ∀(x u:bV),(∀c∈u,opB.contains c=true)->(x.map BI=u↔x=u)
 |[],[],_=>Iff.rfl
 |[],_::_,_=>by simp
 |_::_,[],_=>by simp
 |c::x,d::u,h=>by
  have f:=h d (az ..);have i:=acG x u fun c g=>h c (aj _ g);rw[au,List.cons.injEq,List.cons.injEq,i];have:BI c=d↔c=d:=by
   unfold BI;split
   .exact Iff.rfl
   .rename_i g
    constructor
    .intro e;rw[<-e]at f;exact absurd f (by decide)
    grind
  rw[this]
theorem aan: ∀u∈LW,∀c∈u,opB.contains c=true:=by decide
theorem ax6 (x:bV):ofF (x.map BI)=ofF x:=by
 unfold ofF;have:LW.findIdx? (· ==x.map BI)=LW.findIdx? (· ==x):=by
  have h: ∀l:List bV,(∀u∈l,∀c∈u,opB.contains c=true)->l.findIdx? (· ==x.map BI)=l.findIdx? (· ==x):=by
   intro l
   induction l with
   |nil=>intro _;rfl
   |cons u l d=>
    intro h;have e:(u==x.map BI)=(u==x):=by
     have:=acG x u (h u (az ..))
     grind
    grind
  exact h LW aan
 rw[this]
theorem ayg (t:bV):CS t=CS ((t.take 3).map BI):=by
 have h: ∀n,n<=3->TG t n=TG ((t.take 3).map BI) n:=by
  intro n d
  induction n with
  |zero=>rfl
  |succ n e=>
   rw[TG,TG,<-List.map_take,List.take_take,Nat.min_eq_left d,ax6,e (by omega)]
 grind [CS]
theorem Vt (t:bV): ∀n,n<=17->uC t n=uC ((t.take 3).map BI) n
 |0,_=>rfl
 |n+1,j=>by
  have f:=Vt t n (by omega);have d:=an3 ⟨n+1,by omega⟩;simp only at d;have e:aeJ (TD (n+1)) t=aeJ (TD (n+1)) ((t.take 3).map BI):=by
   unfold aeJ;rw[<-List.map_take,List.take_take,Nat.min_eq_left d];have g: ∀c∈TD (n+1),opB.contains c=true:=by
    have:TD (n+1)∈LW:=by
     have i: ∀n:Fin 17,TD (n.val+1)∈LW:=by decide+kernel
     exact i ⟨n,by omega⟩
    exact aan _ this
   rw[decide_eq_decide,acG _ _ g]
  rw[uC,uC,e,f]
def nB (n:Fin 9):UInt8:=([0,38,124,59,60,62,45,40,41]:bV).getD n.val 0
def okB (t:bV):Bool:=CS t==(uC t 17,(TD (uC t 17)).length)
theorem ok0:okB []=true:=by decide+kernel
theorem ok1: ∀a,okB [nB a]=true:=by decide+kernel
theorem ok2: ∀a b,okB [nB a,nB b]=true:=by decide+kernel
theorem ok3: ∀a b c,okB [nB a,nB b,nB c]=true:=by decide+kernel
theorem Js (c:UInt8): ∃n,BI c=nB n:=by
 unfold BI;split
 .rename_i h
  have: ∀d∈opB,∃n,d=nB n:=by decide
  simp_all
 .exact⟨0,rfl⟩
theorem an4 (t:bV):CS t=(uC t 17,(TD (uC t 17)).length):=by
 rw[ayg,Vt t 17 (ae _)];have h:okB ((t.take 3).map BI)=true:=by
  have g:(t.take 3).length<=3:=by grind
  rcases h:t.take 3 with _|⟨a,_|⟨b,_|⟨c,_|⟨d,l⟩⟩⟩⟩
  .exact ok0
  .obtain⟨x,e⟩:=Js a;simp_all [ok1]
  .obtain⟨x,e⟩:=Js a;obtain⟨y,f⟩:=Js b;simp_all [ok2]
  .obtain⟨x,e⟩:=Js a;obtain⟨y,f⟩:=Js b;obtain⟨z,i⟩:=Js c;simp_all [ok3]
  simp_all
 exact eq_of_beq h
theorem aMV (s:bV) (d:s.length<1000000) {a:Nat} (e:a<=s.length):agp s a=a6 ((((CS (s.drop a)).1:Nat):Int),()):=by
 rw[aMU s d e,an4]
theorem aDX (t:bV):aca (((CS t).1:Nat):Int)=a6 (TD (CS t).1,())/\(TD (CS t).1).length=(CS t).2:=by
 have h:=(TV t).2.2;refine⟨QL ⟨(CS t).1,by omega⟩, ?_⟩;rw[an4]
theorem SV {s:List UInt8} (p:s.length<1000000): ∀(N a:Nat),s.length-a<N->a<=s.length->
  ∃o,Jd N s (a:Int)=a6 o/\dR o (fun f=>a6 (f.1.1,())) (fun g=>a6 (g.1.1,()))=a6 ((((a+uB (s.drop a):Nat):Int)),())
 |0,a,h,_=>by omega
 |N+1,a,h,z=>by
  rw[Jd,Uz];by_cases e:a<s.length
  .have hd:=aF e;have q:gy s (a:Int)=true:=eF;rw[bW (fG (by rw[bM];omega)),q,byte_at e,hd,tN];simp only[aa];have j: ∀m:Nat,a+m<=s.length->1<=m-> ∃o,Jd N s (cO .i64 (a:Int) (m:Int))=a6 o/\dR o (fun f=>a6 (f.1.1,())) (fun g=>a6 (g.1.1,()))=a6 ((((a+(uB (s.drop (a+m))+m):Nat):Int)),()):=fun m u A=>by
    obtain⟨o,B,D⟩:=SV p N (a+m) (by omega) u
    grind [dB]
   by_cases h32:s[a]=32
   .have:nY (s[a].toNat:Int)=true:=by rw[h32];rfl
    rw[this,am rfl,h32];exact j 1 (by omega) (by omega)
   .have l:bY (s[a].toNat:Int) 32=false:=dM fun h=>h32 (UInt8.toNat_inj.1 (by grind));by_cases h9:s[a]=9
    .have:nY (s[a].toNat:Int)=true:=by rw[h9];rfl
     rw[this,am rfl,l,h9];exact j 1 (by omega) (by omega)
    .have v:bY (s[a].toNat:Int) 9=false:=dM fun h=>h9 (UInt8.toNat_inj.1 (by grind));have x:nY (s[a].toNat:Int)=false:=by
      simp_all [nY,iO]
     rw[x,aq (by simp),l,v];simp only[ac];have i:pq (s[a]::s.drop (a+1))=false-> ∃o:Ug.den⊕Uk.den,a6 (.inl (((a:Int),()),()))=a6 o/\dR o (fun f=>a6 (f.1.1,())) (fun g=>a6 (g.1.1,()))=a6 ((((a+(if pq (s[a]::s.drop (a+1))=true then uB ((s.drop (a+1)).drop 1)+2 else 0):Nat):Int)),()):=fun h=>by
      rw[h,aq (by simp)];exact⟨_,rfl,rfl⟩
     by_cases h92:s[a]=92
     .rw[h92,show bY (((92:UInt8).toNat:Nat):Int) 92=true from rfl,aa,dB,show(a:Int)+1=((a+1:Nat):Int) by omega];rw[h92]at i;by_cases e1:a+1<s.length
      .have y:=aF e1;rw[bW (fG (by rw[bM];omega)),bW (eF),byte_at e1];by_cases h10:s[a+1]=10
       .rw[h10,show bY (((10:UInt8).toNat:Nat):Int) 10=true from rfl,aa];have E:pq (92::s.drop (a+1))=true:=by rw[y,h10];rfl
        grind
       .rw[dG (dM fun h=>h10 (UInt8.toNat_inj.1 (by grind)))]
        grind [pq]
      .rw[dG (lD (by rw[bM];omega))];refine i ?_;rw[aI (by omega)];rfl
     .rw[dG (dM fun h=>h92 (UInt8.toNat_inj.1 (by grind)))];refine i ?_;cases s.drop (a+1)with
      |nil=>rfl
      |cons d t=>simp[pq,h92]
  .rw[dG (gU (by rw[bM];omega)),aI (by omega)];exact⟨_,rfl,rfl⟩
theorem aBi {s:List UInt8} (d:s.length<1000000) {a:Nat} (e:a<=s.length):amm s a=a6 ((((a+uB (s.drop a):Nat):Int)),()):=by
 rw[amm];obtain⟨o,f,g⟩:=SV d bT a (dJ) e
 grind [bI]
theorem aa6 {s w:List UInt8} (g:s.length<1000000) {i:Nat} (hi:i<=s.length) (f:Bool): ∀(N k:Nat),i-k<N->k<=i->
  ∃d:Nat,N9 N s (i:Int) (k:Int) w f=a6 (.inl ((s,(i:Int),(d:Int),()),((w,f,()),())))/\d<=i/\k<=d/\(s.take i).drop d=if f=true then((s.take i).drop k).dropWhile (· ==9)else(s.take i).drop k
 |0,k,h,_=>by omega
 |N+1,k,h,hk=>by
  rw[N9,Uy];cases f with
  |false=>grind
  |true=>
   simp only[aa];by_cases e:k<i
   .have j:k<(s.take i).length:=by simp_all
    have hd:=aF j;rw[List.getElem_take]at hd;rw[bW (fG),bW (eF),byte_at (by omega)];by_cases h9:s[k]=9
    .rw[h9,show bY (((9:UInt8).toNat:Nat):Int) 9=true from rfl,aa,dB,show(k:Int)+1=((k+1:Nat):Int) by omega];obtain⟨d,l,m,o,p⟩:=aa6 g hi true N (k+1) (by omega) (by omega);exact⟨d,l,m,by omega,by simp_all⟩
    .rw[dG (dM fun h=>h9 (UInt8.toNat_inj.1 (by grind)))];exact⟨k,rfl,hk,ae _,by simp_all⟩
   .rw[dG (gU)];refine⟨k,rfl,hk,ae _, ?_⟩;simp_all [aI]
theorem aac {s:List UInt8} {f i:Nat} (d:f<=i) (h2:i<jq s f) (e:i<s.length):s[i]≠10:=by
 have:=IE (· !=10) (s.drop f) (i-f) (by grind) (by grind [jq]);simp_all
theorem WI {s:List UInt8} {f:Nat} (d:jq s f<s.length):s[jq s f]=10:=by
 have:=Dw (· !=10) (s.drop f) (by grind [jq]);simp_all [jq]
def aMZ (s:bV) (h:Nat×Bool):Uf.den⊕Uj.den:=if h.2=true then .inr ((((h.1:Nat):Int),1,()),())else .inl ((s,()),())
theorem MH {s w:List UInt8} (j:s.length<1000000) (d:Bool): ∀(N f i M:Nat),s.length+1-i<N->f<=i->i<=jq s f->f<=s.length->s.length-f<M->
  yg N s (f:Int) (i:Int) w d=a6 (aMZ s (rG s w d M f))
 |0,f,i,M,h,_,_,_,_=>by omega
 |N+1,f,i,0,h,l,z,o,q=>by omega
 |N+1,f,i,M+1,h,l,z,o,q=>by
  have D:=D8 o;have u:gp (zX s d f) w=decide (zX s d f=w):=by
   grind [gp]
  have stop: ∀N,0<N->yg N s ((s.length+1:Nat):Int) ((s.length+1:Nat):Int) w d=a6 (.inl ((s,()),()))/\yg N s (f:Int) ((s.length+1:Nat):Int) w d=a6 (.inl ((s,()),())):=fun N E=>by
   obtain⟨n,rfl⟩: ∃n,N=n+1:=⟨N-1,by omega⟩;constructor
   ·(rewrite [yg,JF];delta sZ;rw[dG (Sm (by rw[bM];omega))])
   ·(rewrite [yg,JF];delta sZ;rw[dG (Sm (by rw[bM];omega))])
  have v: ∀m,rG s w d m s.length=(s.length,false):=fun m=>by
   cases m with
   |zero=>rfl
   |succ m=>simp_all [rG]
  (rewrite [yg,JF];delta sZ;rw[bW (oK (by rw[bM];omega))])
  by_cases e:i<jq s f
  .have g:i<s.length:=by omega
   rw[bW (fG (by rw[bM];omega)),bW (eF),byte_at g,dM fun h=>aac l e g (UInt8.toNat_inj.1 (by grind))];simp only[aA,aa];rw[dB,show(i:Int)+1=((i+1:Nat):Int) by omega];exact MH j d N f (i+1) (M+1) (by omega) (by omega) (by omega) o q
  .have g:i=jq s f:=by omega
   obtain⟨A,x,G,I,J⟩:=aa6 (w:=w) j (i:=i) (by omega) d bT f (dJ) l;have hT:sub s (A:Int) (i:Int)=zX s d f:=by
    simp_all [zX,sub]
   by_cases hl:i<s.length
   .have B:s[i]=10:=by subst g;exact WI hl
    have p:qo s f=i+1:=by unfold qo;grind
    rw[bW (fG (by rw[bM];omega)),bW (eF),byte_at hl,B,show bY (((10:UInt8).toNat:Nat):Int) 10=true from rfl];simp only[ax,ac];rw[dG (dM (by rw[bM];omega)),x,bI];simp only[dR];rw[bW (fQ (by omega) (by omega) (by rw[bM];omega)),hT,u,rG,am (by omega),p];rw[bW (fG (by rw[bM];omega)),dB,show(i:Int)+1=((i+1:Nat):Int) by omega];by_cases hw:zX s d f=w
    .rw[decide_eq_true hw,aa,am hw];rfl
    .rw[decide_eq_false hw,ac,aq hw];exact MH j d N (i+1) (i+1) M (by omega) (ae _) (zW s _) (by omega) (by omega)
   .have y:i=s.length:=by omega
    rw[dG (lD (by rw[bM];omega)),bW (eG (by rw[bM];omega))];by_cases hfi2:f=i
    .rw[bW (eG),dB,show(i:Int)+1=((s.length+1:Nat):Int) by omega,(stop N (by omega)).2,hfi2,y,v];rfl
    .have p:qo s f=s.length:=by simp_all [qo]
     rw[dG (dM),x,bI];simp only[dR];rw[bW (fQ (by omega) (by omega) (by rw[bM];omega)),hT,u,rG,am (by omega),p];rw[dG (lD (by rw[bM];omega))];by_cases hw:zX s d f=w
     .rw[decide_eq_true hw,aa,am hw,y];rfl
     .rw[decide_eq_false hw,ac,aq hw,v,dB,show(i:Int)+1=((s.length+1:Nat):Int) by omega,(stop N (by omega)).1];rfl
theorem Qd (s w:bV) (d:Bool): ∀(N a:Nat),s.length-a<N->a<=s.length->(rG s w d N a).1<=s.length/\((rG s w d N a).2=false->(rG s w d N a).1=s.length)/\(a<s.length->a<(rG s w d N a).1)
 |0,a,h,_=>by omega
 |N+1,a,h,j=>by
  rw[rG];by_cases e:a<s.length
  .have g:=ahu e;rw[am e];split
   .simp_all
   .have f:=Qd s w d N (qo s a) (by omega) g.2;refine⟨f.1,f.2.1,fun _=> ?_⟩;rcases aJ (qo s a) s.length with i|i
    .omega
    .cases N with
     |zero=>omega
     |succ N=>simp_all [rG,aq]
  grind
theorem aG7 {s:List UInt8} (e:s.length<1000000) (d:bV×Bool×Unit) {a:Nat} (f:a<=s.length):aml s a d=a6 ((((Gn s d.1 d.2.1 a).1:Nat):Int),((if(Gn s d.1 d.2.1 a).2=true then 1 else 0),())):=by
 rw[aml,MH e d.2.1 bT a a bT (dJ) (ae _) (zW s a) f (dJ),bI]
 grind [Qd,dJ,aMZ,Gn,dR,bM]
theorem azf {s:fE} (d:iV s):O0 s=(gp (so s) [84]||gp (so s) [84,76]):=by
 rw[azl d,aps d]
 match s,d with
 |[],d=>cases d
 |[f],d=>have h:f.1=0:=d;simp[O0,h]
 |[f,g],d=>
  have e:=d.1;have i:g.1=0:=d.2.2.2
  grind [O0]
 |f::g::h::r,d=>
  have e:=d.2.2.2.1;have j:=d.2.2.1
  grind [WL,O0]
end
section
open Option renaming some → a6, none → a7
open Tryz
open Go.RowKit
noncomputable def aLl:Code:=(f211.body).getD .skip
noncomputable def aub:Code:=cA (cA (cB (cA (cB (aLl)))))
def awU:fJ:=⟨[0,1,4,6,100002],[],[4],[],[4,5],[]⟩
def adb:SP:=⟨us [.v MS,bX,.u,.u,cH,.u,bX] 18,[fm]⟩
def adN:SP:=⟨us [.u,.u,.u,.u,cH] 20,[fm]⟩
def aen:SP:=⟨us [.u,.u,.u,.u,cH,bX] 19,[fm]⟩
def UO {f:Type} (p:(List iM)->Int->Int->Int->Int->Int->Int->Bool->Option f) (q:Int->Int->Int->Int->Bool->Option f) (s:Int->Int->Int->Int->Int->Bool->Option f) (d:List iM) (g e i j l m:Int) (o:Bool):Option f:=cond (iF e (bK d)) (cond (gy d e) (cond (bY (ed d (0,(0,(0,(0,(false,()))))) e).2.1 g) (cond (gy d e) (s 1 (ed d (0,(0,(0,(0,(false,()))))) e).1 (ed d (0,(0,(0,(0,(false,()))))) e).2.1 (ed d (0,(0,(0,(0,(false,()))))) e).2.2.1 (ed d (0,(0,(0,(0,(false,()))))) e).2.2.2.1 (ed d (0,(0,(0,(0,(false,()))))) e).2.2.2.2.1) a7)<|p d g (cO .i64 e 1) i j l m o) a7)<|q i j l m o
def Ji:Nat->(List iM)->Int->Int->Int->Int->Int->Int->Bool->Option (adN.den⊕aen.den)
 |0,_,_,_,_,_,_,_,_=>a7
 |n+1,d,e,f,g,i,j,l,m=>UO (Ji n) (fun o p q s u=>a6 (.inl ((),((o,p,q,s,u,()),())))) (fun v x y z A B=>a6 (.inr ((v,()),((x,y,z,A,B,()),())))) d e f g i j l m
def aCL (n:Nat) (v:adb.den):=Ji n v.1.1 v.1.2.1 v.1.2.2.1 v.2.1.1 v.2.1.2.1 v.2.1.2.2.1 v.2.1.2.2.2.1 v.2.1.2.2.2.2.1
noncomputable def anE:dD:=gu awU adb adN aen (.exit 0) (aCL bT) 6
def agE (e:List iM) (f:Int):Option (iM×Int×Unit):=bJ (Ji bT e f 0 0 0 0 0 false) fun g=>dR g (fun i=>a6 ((0,(0,(0,(0,(false,()))))),(0,()))) (fun d=>a6 ((d.2.1.1,(d.2.1.2.1,(d.2.1.2.2.1,(d.2.1.2.2.2.1,(d.2.1.2.2.2.2.1,()))))),(d.1.1,())))
def alH:Sum:=⟨[MS,dA],[(.pair dA MR,false),(.int .i64,false)],fun x=>agE x.1 x.2.1⟩
noncomputable def ajb:Env:=jm prog tt 211 [] [(2,awU)] [(2,anE)]
def ao6 {d:Type} (a:adb.den->Option d) (b:adN.den->Option d) (c:aen.den->Option d) (v:adb.den):Option d:=UO (fun e f g i j l m o=>a ((e,f,g,()),((i,j,l,m,o,()),()))) (fun p q s u x=>b ((),((p,q,s,u,x,()),()))) (fun y z A B D E=>c ((y,()),((z,A,B,D,E,()),()))) v.1.1 v.1.2.1 v.1.2.2.1 v.2.1.1 v.2.1.2.1 v.2.1.2.2.1 v.2.1.2.2.2.1 v.2.1.2.2.2.2.1
theorem aDv:dX ajb 211 aub anE:=yu (ao6) (h2:=by intros;simp only[ao6,UO,dm,dn,bI,di,dw])
theorem aHL:dO ajb 211 aLl:=pI [aub] (aD (fM (aDv)) aN)
theorem aqF:fK ajb:=eA f211 aN (aHL)
theorem aaY:dU prog 211 alH:=sA aqF
def gI (d:List JY):=ed d (false,(false,([],()))) (eP .i64 (bK d) 1)
def jv (d:List JY) (e:bV):=gp (bU (gI d).2.2.1 e) (bU (gI d).2.2.1 e)
def tZ (d:List JY):=pO Zm (sub d 0 (eP .i64 (bK d) 1)) (sub d 0 (eP .i64 (bK d) 1))
def kM (d:List JY):=pO Zm d d
def xZ (d:List JY) (e:bV):=bU (bU [] (sub d 0 (eP .i64 (bK d) 1))) [(false,(false,((bU (gI d).2.2.1 e),())))]
def nG (d:List JY):=bY (eP .i64 (bK d) 1) (eP .i64 (bK d) 1)
def kN (d:List JY):=gp (gI d).2.2.1 (gI d).2.2.1
def vN (d:List JY):=eY (bK d) 0 (eP .i64 (bK d) 1)
def ab4 (d:List JY) (e:bV):Option ((List JY)×Unit):=cond (eu (bU [] d) 24) (cond (eu (bU (bU [] d) [(false,(false,(e,())))]) 24) (a6 ((bU (bU [] d) [(false,(false,(e,())))]),())) a7) a7
def ZV (d:List JY) (e:bV) (f:Bool):Option ((List JY)×Unit):=cond (iF 0 (bK d)) (cond (!f) (cond (gy d (eP .i64 (bK d) 1)) (cond (vN d) (cond (iQ (gI d).2.2.1 e) (cond (kM d) (cond (bY (bK d) (bK d)) (cond (nG d) (cond (vN d) (cond (tZ d) (cond (kN d) (cond (gp e e) (cond (iQ (gI d).2.2.1 e) (cond (jv d e) (cond ((jM false false)&&((jM false false)&&((jv d e)&&true))) (cond (eu (bU [] (sub d 0 (eP .i64 (bK d) 1))) 24) (cond (kM d) (cond (bY (bK d) (bK d)) (cond (nG d) (cond (kN d) (cond (gp e e) (cond (iQ (gI d).2.2.1 e) (cond (jv d e) (cond ((jM false false)&&((jM false false)&&((jv d e)&&true))) (cond (kM d) (cond (bY (bK d) (bK d)) (cond (nG d) (cond (vN d) (cond (tZ d) (cond (kN d) (cond (gp e e) (cond (iQ (gI d).2.2.1 e) (cond (jv d e) (cond (eu (xZ d e) 24) (cond (kM d) (cond (bY (bK d) (bK d)) (cond (nG d) (cond (vN d) (cond (tZ d) (cond (kN d) (cond (gp e e) (cond (iQ (gI d).2.2.1 e) (cond (jv d e) (cond ((jM false false)&&((jM false false)&&((jv d e)&&true))) (bJ (cond (kM d) (cond (bY (bK d) (bK d)) (cond (nG d) (cond (vN d) (cond (tZ d) (cond (kN d) (cond (gp e e) (cond (iQ (gI d).2.2.1 e) (cond (jv d e) (cond (eu (bU [] (sub d 0 (eP .i64 (bK d) 1))) 24) (cond (kM d) (cond (bY (bK d) (bK d)) (cond (nG d) (cond (kN d) (cond (gp e e) (cond (iQ (gI d).2.2.1 e) (cond (jv d e) (cond ((jM false false)&&((jM false false)&&((jv d e)&&true))) (cond (eu (xZ d e) 24) (cond (kM d) (cond (bY (bK d) (bK d)) (cond (nG d) (cond (vN d) (cond (tZ d) (cond (kN d) (cond (gp e e) (cond (iQ (gI d).2.2.1 e) (cond (jv d e) (cond ((jM false false)&&((jM false false)&&((jv d e)&&true))) (cond ((((kM d)&&((gp e e)&&((jM f f)&&((bY (bK d) (bK d))&&((kM d)&&((bY (bK d) (bK d))&&((bY (bK d) (bK d))&&((jM (iF 0 (bK d)) (iF 0 (bK d)))&&((jM true true)&&((jM f f)&&((jM (!f) (!f))&&((jM (!f) (!f))&&((kM d)&&((bY (bK d) (bK d))&&((nG d)&&(((jM (gI d).1 (gI d).1)&&((jM (gI d).2.1 (gI d).2.1)&&((kN d)&&true)))&&(((jM (gI d).1 (gI d).1)&&((jM (gI d).2.1 (gI d).2.1)&&((kN d)&&true)))&&((kM d)&&((bY (bK d) (bK d))&&((nG d)&&((tZ d)&&((kN d)&&((gp e e)&&((jv d e)&&(((jM false false)&&((jM false false)&&((jv d e)&&true)))&&true)))))))))))))))))))))))))&&(((pO Zm [(false,(false,((bU (gI d).2.2.1 e),())))] [(false,(false,((bU (gI d).2.2.1 e),())))])&&((pO Zm (xZ d e) (xZ d e))&&(((jM (gI d).1 (gI d).1)&&((jM (gI d).2.1 (gI d).2.1)&&((kN d)&&true)))&&true)))&&true))&&true) (a6 ()) (a7)) (a7)) (a7)) (a7)) (a7)) (a7)) (a7)) (a7)) (a7)) (a7)) (a7)) (a7)) (a7)) (a7)) (a7)) (a7)) (a7)) (a7)) (a7)) (a7)) (a7)) (a7)) (a7)) (a7)) (a7)) (a7)) (a7)) (a7)) (a7)) (a7)) fun g=>bJ (cond (kM d) (cond (bY (bK d) (bK d)) (cond (nG d) (cond (vN d) (cond (tZ d) (cond (kN d) (cond (gp e e) (cond (iQ (gI d).2.2.1 e) (cond (jv d e) (cond (kM d) (cond (bY (bK d) (bK d)) (cond (nG d) (cond (vN d) (cond (tZ d) (cond (kN d) (cond (gp e e) (cond (iQ (gI d).2.2.1 e) (cond (jv d e) (cond ((jM false false)&&((jM false false)&&((jv d e)&&true))) (cond (eu (bU [] (sub d 0 (eP .i64 (bK d) 1))) 24) (cond (kM d) (cond (bY (bK d) (bK d)) (cond (nG d) (cond (kN d) (cond (gp e e) (cond (iQ (gI d).2.2.1 e) (cond (jv d e) (cond ((jM false false)&&((jM false false)&&((jv d e)&&true))) (cond (eu (xZ d e) 24) (cond (kM d) (cond (bY (bK d) (bK d)) (cond (nG d) (cond (vN d) (cond (tZ d) (cond (kN d) (cond (gp e e) (cond (iQ (gI d).2.2.1 e) (cond (jv d e) (cond ((jM false false)&&((jM false false)&&((jv d e)&&true))) (cond ((((kM d)&&((gp e e)&&((jM f f)&&((bY (bK d) (bK d))&&((kM d)&&((bY (bK d) (bK d))&&((bY (bK d) (bK d))&&((jM (iF 0 (bK d)) (iF 0 (bK d)))&&((jM true true)&&((jM f f)&&((jM (!f) (!f))&&((jM (!f) (!f))&&((kM d)&&((bY (bK d) (bK d))&&((nG d)&&(((jM (gI d).1 (gI d).1)&&((jM (gI d).2.1 (gI d).2.1)&&((kN d)&&true)))&&(((jM (gI d).1 (gI d).1)&&((jM (gI d).2.1 (gI d).2.1)&&((kN d)&&true)))&&((kM d)&&((bY (bK d) (bK d))&&((nG d)&&((tZ d)&&((kN d)&&((gp e e)&&((jv d e)&&(((jM false false)&&((jM false false)&&((jv d e)&&true)))&&true)))))))))))))))))))))))))&&(((pO Zm [(false,(false,((bU (gI d).2.2.1 e),())))] [(false,(false,((bU (gI d).2.2.1 e),())))])&&((pO Zm (xZ d e) (xZ d e))&&(((jM (gI d).1 (gI d).1)&&((jM (gI d).2.1 (gI d).2.1)&&((kN d)&&true)))&&true)))&&true))&&true) (a6 ()) (a7)) (a7)) (a7)) (a7)) (a7)) (a7)) (a7)) (a7)) (a7)) (a7)) (a7)) (a7)) (a7)) (a7)) (a7)) (a7)) (a7)) (a7)) (a7)) (a7)) (a7)) (a7)) (a7)) (a7)) (a7)) (a7)) (a7)) (a7)) (a7)) (a7)) (a7)) (a7)) (a7)) (a7)) (a7)) (a7)) (a7)) (a7)) (a7)) (a7)) fun i=>a6 ((xZ d e),())) a7) a7) a7) a7) a7) a7) a7) a7) a7) a7) a7) a7) a7) a7) a7) a7) a7) a7) a7) a7) a7) a7) a7) a7) a7) a7) a7) a7) a7) a7) a7) a7) a7) a7) a7) a7) a7) a7) a7) a7) a7) a7)<|ab4 d e)<|ab4 d e
def azN:Sum:=⟨[.list Zm,.str,.bool],[(.list Zm,true)],fun x=>ZV x.1 x.2.1 x.2.2.1⟩
theorem asU:dU prog 212 azN:=qA f212 [] aN
noncomputable def aLm:Code:=(f213.body).getD .skip
noncomputable def auc:Code:=cA (cA (cA (cB (cB (cB (cB (aLm)))))))
def awV:fJ:=⟨[0,1,3,9,10,11,100004],[(9,Zm)],[9,10],[],[8],[(8,Zm)]⟩
def adc:SP:=⟨us [b9,.v MS,.u,bX,.u,.u,.u,.u,.u,.slc 1800009,b9,bX] 112,[.arr 1800009 Zm]⟩
def adO:SP:=⟨us [.u,.u,.u,.u,.u,.u,.u,.u,.u,.slc 1800009,b9] 113,[.arr 1800009 Zm]⟩
def aeo:SP:=⟨us [.u,.u,.u,.u,.u,.u,.u,.u,.v (.list Zm)] 115,[]⟩
def zo {f:Type} (e:bV) (d:Int) (g:bV) (i:bV->(List iM)->Int->bV->Int->(List JY)->Option f) (j:List iM) (l:Int) (m:(iM×Int×Unit)) (o:List JY):Option f:=cond (eY (bK e) (cO .i64 d 1) (cO .i64 d 2)) (cond (iQ g (sub e (cO .i64 d 1) (cO .i64 d 2))) (i e j l (bU g (sub e (cO .i64 d 1) (cO .i64 d 2))) m.1.2.2.1 o) a7) a7
def JI {o:Type} (f:(iM×Int×Unit)) (e:Int) (d g:bV) (j:bV->(List iM)->Int->bV->Int->(List JY)->Option o) (l:List iM) (m:Int) (i:List JY):Option o:=cond (bY f.1.1 13) (cond (bY f.1.2.2.1 (cO .i64 e 2)) (cond (gy d (cO .i64 e 1)) (cond (bY (cu d (cO .i64 e 1)) 36) (zo d e g j l m f i)<|cond (bY (cu d (cO .i64 e 1)) 96) (zo d e g j l m f i)<|cond (bY (cu d (cO .i64 e 1)) 34) (zo d e g j l m f i)<|cond (bY (cu d (cO .i64 e 1)) 92) (zo d e g j l m f i)<|cond (!(bY (cu d (cO .i64 e 1)) 10)) (cond (eY (bK d) e (cO .i64 e 2)) (cond (iQ g (sub d e (cO .i64 e 2))) (j d l m (bU g (sub d e (cO .i64 e 2))) f.1.2.2.1 i) a7) a7)<|j d l m g f.1.2.2.1 i) a7)<|j d l m g f.1.2.2.1 i)<|cond (!(gp g [])) (cond (eu (bU i [(false,(true,(g,())))]) 24) (cond (eY (bK d) e f.1.2.2.1) (cond (eu (bU (bU i [(false,(true,(g,())))]) [(true,(true,((sub d e f.1.2.2.1),())))]) 24) (j d l m [] f.1.2.2.1 (bU (bU i [(false,(true,(g,())))]) [(true,(true,((sub d e f.1.2.2.1),())))])) a7) a7) a7)<|cond (eY (bK d) e f.1.2.2.1) (cond (eu (bU i [(true,(true,((sub d e f.1.2.2.1),())))]) 24) (j d l m [] f.1.2.2.1 (bU i [(true,(true,((sub d e f.1.2.2.1),())))])) a7) a7
def UQ {m:Type} (o:bV->(List iM)->Int->bV->Int->(List JY)->Option m) (p:bV->(List JY)->Option m) (q:(List JY)->Option m) (e:bV) (g:List iM) (i:Int) (f:bV) (d:Int) (j:List JY):Option m:=cond (iF d i) (bJ (agE g d) fun l=>cond (bY l.2.1 0) (cond (eY (bK e) d (cO .i64 d 1)) (cond (iQ f (sub e d (cO .i64 d 1))) (o e g i (bU f (sub e d (cO .i64 d 1))) (cO .i64 d 1) j) a7) a7)<|cond (bY l.1.1 12) (cond (bY l.1.2.2.1 (cO .i64 d 1)) (cond (eY (bK e) d (cO .i64 d 1)) (cond (iQ f (sub e d (cO .i64 d 1))) (o e g i (bU f (sub e d (cO .i64 d 1))) (cO .i64 d 1) j) a7) a7)<|JI l d e f o g i j)<|JI l d e f o g i j)<|p f j
def yj:Nat->bV->(List iM)->Int->bV->Int->(List JY)->Option (adO.den⊕aeo.den)
 |0,_,_,_,_,_,_=>a7
 |n+1,d,e,f,g,i,j=>UQ (yj n) (fun l m=>a6 (.inl ((l,()),(m,())))) (fun o=>a6 (.inr ((o,()),()))) d e f g i j
def aCM (n:Nat) (v:adc.den):=yj n v.1.1 v.1.2.1 v.1.2.2.1 v.1.2.2.2.1 v.1.2.2.2.2.1 v.2.1
noncomputable def anF:dD:=gu awV adc adO aeo (.exit 0) (aCM bT) 6
def RG (e:bV) (f:List iM) (g i:Int):Option ((List JY)×Unit):=bJ (yj bT e f i [] g []) fun j=>dR j (fun d=>cond (!(gp d.1.1 [])) (cond (eu (bU d.2.1 [(false,(true,(d.1.1,())))]) 24) (a6 ((bU d.2.1 [(false,(true,(d.1.1,())))]),())) a7)<|cond (bY (bK d.2.1) 0) (cond (eu (bU d.2.1 [(false,(true,(d.1.1,())))]) 24) (a6 ((bU d.2.1 [(false,(true,(d.1.1,())))]),())) a7)<|some (d.2.1,())) (fun l=>a6 (l.1.1,()))
def azO:Sum:=⟨[.str,MS,dA,dA],[(.list Zm,false)],fun x=>RG x.1 x.2.1 x.2.2.1 x.2.2.2.1⟩
noncomputable def ajc:Env:=jm prog tt 213 [(211,alH)] [(4,awV)] [(4,anF)]
def ao7 {d:Type} (a:adc.den->Option d) (b:adO.den->Option d) (c:aeo.den->Option d) (v:adc.den):Option d:=UQ (fun e f g i j l=>a ((e,f,g,i,j,()),(l,()))) (fun m o=>b ((m,()),(o,()))) (aE c) v.1.1 v.1.2.1 v.1.2.2.1 v.1.2.2.2.1 v.1.2.2.2.2.1 v.2.1
theorem aDw:dX ajc 213 auc anF:=yu (ao7) (h2:=by intros;simp only[ao7,aE,UQ,dm,dn,bI,di,dw,zo,JI])
theorem aHM:dO ajc 213 aLm:=pI [auc] (aD (fM (aDw)) aN)
theorem aqG:fK ajc:=eA f213 (aD aaY aN) (aHM)
theorem asV:dU prog 213 azO:=sA aqG
noncomputable def aLh:Code:=(f161.body).getD .skip
noncomputable def atV:Code:=cA (cA (cA (cB (cB (cB (cB (cB (aLh))))))))
def awN:fJ:=⟨[0,3,4,5,6,100005],[(4,.pair (.list .bool) Zm)],[4],[],[2],[(2,Zm)]⟩
def ac3:SP:=⟨us [b9,.u,.u,.v MS,ec,cf,bX] 130,[.arr 1800004 Zm]⟩
def adG:SP:=⟨us [.u,.u,.u,.u,ec] 132,[.arr 1800004 Zm]⟩
def aeg:SP:=⟨us [.u,.u,.v (.list Zm)] 134,[]⟩
def Eo {i:Type} (f:(iM×Int×Unit)) (e:bV) (d:Int) (j:List JY) (l:Bool) (m:bV->(List iM)->Bool->Int->(List JY)->Option i) (o:List iM):Option i:=cond (bY f.2.1 1) (cond (eY (bK e) d f.1.2.2.1) (bJ (ZV j (sub e d f.1.2.2.1) l) fun g=>m e o false f.1.2.2.1 g.1) a7)<|cond (eY (bK e) d (cO .i64 d 1)) (bJ (ZV j (sub e d (cO .i64 d 1)) l) fun g=>m e o false (cO .i64 d 1) g.1) a7
def JH {l:Type} (d:(iM×Int×Unit)) (e:bV) (f:List JY) (i:bV->(List iM)->Bool->Int->(List JY)->Option l) (g:List iM) (m:Bool):Option l:=cond (bY d.1.1 13) (cond (bY d.1.2.2.1 (cO .i64 d.1.2.1 2)) (cond (gy e (cO .i64 d.1.2.1 1)) (cond (!(bY (cu e (cO .i64 d.1.2.1 1)) 10)) (cond (eY (bK e) (cO .i64 d.1.2.1 1) d.1.2.2.1) (cond (eu (bU f [(false,(true,((sub e (cO .i64 d.1.2.1 1) d.1.2.2.1),())))]) 24) (i e g true d.1.2.2.1 (bU f [(false,(true,((sub e (cO .i64 d.1.2.1 1) d.1.2.2.1),())))])) a7) a7)<|i e g m d.1.2.2.1 f) a7)<|i e g m d.1.2.2.1 f)<|cond (bY d.1.1 4) (cond d.1.2.2.2.2.1 (cond (eY (bK e) (cO .i64 d.1.2.1 1) d.1.2.2.1) (cond (eu (bU f [(false,(true,((sub e (cO .i64 d.1.2.1 1) d.1.2.2.1),())))]) 24) (i e g true d.1.2.2.1 (bU f [(false,(true,((sub e (cO .i64 d.1.2.1 1) d.1.2.2.1),())))])) a7) a7)<|cond (eY (bK e) (cO .i64 d.1.2.1 1) (eP .i64 d.1.2.2.1 1)) (cond (eu (bU f [(false,(true,((sub e (cO .i64 d.1.2.1 1) (eP .i64 d.1.2.2.1 1)),())))]) 24) (i e g true d.1.2.2.1 (bU f [(false,(true,((sub e (cO .i64 d.1.2.1 1) (eP .i64 d.1.2.2.1 1)),())))])) a7) a7)<|cond (bY d.1.1 5) (cond d.1.2.2.2.2.1 (bJ (RG e g (cO .i64 d.1.2.1 1) d.1.2.2.1) fun j=>cond (eu (bU f j.1) 24) (i e g true d.1.2.2.1 (bU f j.1)) a7)<|bJ (RG e g (cO .i64 d.1.2.1 1) (eP .i64 d.1.2.2.1 1)) fun j=>cond (eu (bU f j.1) 24) (i e g true d.1.2.2.1 (bU f j.1)) a7)<|cond (eY (bK e) d.1.2.1 d.1.2.2.1) (cond (eu (bU f [(true,(false,((sub e d.1.2.1 d.1.2.2.1),())))]) 24) (i e g true d.1.2.2.1 (bU f [(true,(false,((sub e d.1.2.1 d.1.2.2.1),())))])) a7) a7
def UG {m:Type} (j:bV->(List iM)->Bool->Int->(List JY)->Option m) (o p:(List JY)->Option m) (e:bV) (f:List iM) (l:Bool) (g:Int) (i:List JY):Option m:=cond (iF g (bK e)) (bJ (agE f g) fun d=>cond (bY d.2.1 0) (Eo d e g i l j f)<|cond (bY d.1.1 14) (Eo d e g i l j f)<|cond (bY d.1.1 12) (cond (bY d.1.2.2.1 (cO .i64 g 1)) (Eo d e g i l j f)<|JH d e i j f l)<|JH d e i j f l)<|o i
def oz:Nat->bV->(List iM)->Bool->Int->(List JY)->Option (adG.den⊕aeg.den)
 |0,_,_,_,_,_=>a7
 |n+1,d,e,f,g,i=>UG (oz n) (fun j=>a6 (.inl ((),(j,())))) (fun l=>a6 (.inr ((l,()),()))) d e f g i
def aCD (n:Nat) (v:ac3.den):=bc (oz n) v
noncomputable def anv:dD:=gu awN ac3 adG aeg (.exit 0) (aCD bT) 6
def ams (d:bV):Option ((List JY)×Unit):=bJ (amE d) fun e=>bJ (oz bT d e.1 true 0 []) fun f=>dR f (fun g=>a6 (g.2.1,())) (fun i=>a6 (i.1.1,()))
def azH:Sum:=⟨[.str],[(.list Zm,false)],fun x=>ams x.1⟩
noncomputable def ai4:Env:=jm prog tt 161 [(210,azM),(211,alH),(212,azN),(213,azO)] [(5,awN)] [(5,anv)]
def aoY {d:Type} (a:ac3.den->Option d) (b:adG.den->Option d) (c:aeg.den->Option d) (v:ac3.den):Option d:=bc (UG (fun e f g i j=>a ((e,f,g,i,()),(j,()))) (fun l=>b ((),(l,()))) (aE c)) v
theorem aDn:dX ai4 161 atV anv:=yu (aoY) (h2:=by intros;simp only[aoY,aE,bc,UG,dm,dn,bI,di,dw,Eo,JH])
theorem aHB:dO ai4 161 aLh:=pI [atV] (aD (fM (aDn)) aN)
theorem aqu:fK ai4:=eA f161 (aD asT (aD aaY (aD asU (aD asV aN)))) (aHB)
theorem asB:dU prog 161 azH:=sA aqu
noncomputable def aLg:Code:=(f115.body).getD .skip
noncomputable def atO:Code:=cA (cA (cB (cA (cB (cB (cB (aLg)))))))
def awI:fJ:=⟨[3,4,5,100004],[],[4],[],[2],[]⟩
def acX:SP:=⟨us [.u,.u,.u,.v (.list Zm),b9,bX] 16,[]⟩
def adA:SP:=⟨us [.u,.u,.u,.u,b9] 17,[]⟩
def aea:SP:=⟨us fu 19,[]⟩
def UC {f:Type} (i:(List JY)->bV->Int->Option f) (j l:bV->Option f) (d:List JY) (g:bV) (e:Int):Option f:=cond (iF e (bK d)) (cond (gy d e) (cond (iQ g (ed d (false,(false,([],()))) e).2.2.1) (i d (bU g (ed d (false,(false,([],()))) e).2.2.1) (cO .i64 e 1)) a7) a7)<|j g
def Jg:Nat->(List JY)->bV->Int->Option (adA.den⊕aea.den)
 |0,_,_,_=>a7
 |n+1,d,e,f=>UC (Jg n) (fun g=>a6 (.inl ((g,()),()))) (fun i=>a6 (.inr ((i,()),()))) d e f
def aCx (n:Nat) (v:acX.den):=ba (Jg n) v
noncomputable def ano:dD:=gu awI acX adA aea (.exit 0) (aCx bT) 6
def agq (d:bV):Option taV:=bJ (ams d) fun e=>bJ (Jg bT e.1 [] 0) fun f=>dR f (fun g=>a6 (g.1.1,())) (fun i=>a6 (i.1.1,()))
def azs:Sum:=⟨[.str],tzG,fun x=>agq x.1⟩
noncomputable def aiZ:Env:=jm prog tt 115 [(161,azH)] [(4,awI)] [(4,ano)]
def aoS {d:Type} (a:acX.den->Option d) (b:adA.den->Option d) (c:aea.den->Option d) (v:acX.den):Option d:=ba (UC (fun e f g=>a ((e,f,g,()),())) (aE b) (aE c)) v
theorem aDh:dX aiZ 115 atO ano:=yu (aoS) (h2:=by intros;simp only[aoS,aE,ba,UC,dm,dn,bI,di,dw])
theorem aHu:dO aiZ 115 aLg:=pI [atO] (aD (fM (aDh)) aN)
theorem aqk:fK aiZ:=eA f115 (aD asB aN) (aHu)
theorem aso:dU prog 115 azs:=sA aqk
end
section
open Option renaming some → a6, none → a7
open Bool renaming and_true → ay, not_false → aA
open List renaming append_assoc → ah, length_append → ai, nil_append → aB, drop_eq_getElem_cons → aF, length_singleton → aV, drop_zero → aY, append_nil → bg
open Nat renaming le_trans → aK
open Go.RowKit
abbrev Pce:=Bool×Bool×List UInt8×Unit
def dPc:Pce:=(false,(false,([],())))
def kG (l:List Pce):bV:=(l.map (·.2.2.1)).flatten
theorem Az (a b:List Pce):kG (a++b)=kG a++kG b:=by simp[kG]
theorem IG (x y:Bool) (t:bV):kG [(x,(y,(t,())))]=t:=by simp[kG]
theorem ZM (L:List jY) (hl:L.length<1000000) (v m f t u:Int) (o:Bool): ∀(N k:Nat),L.length-k<N->k<=L.length->
  Ji N L v (k:Int) m f t u o=a6 (match(L.drop k).find? (fun p=>p.2.1==v)with
   |none=>.inl ((),((m,f,t,u,o,()),()))
   |some p=>.inr ((1,()),((p.1,p.2.1,p.2.2.1,p.2.2.2.1,p.2.2.2.2.1,()),())))
 |0,k,h,_=>by omega
 |N+1,k,h,hk=>by
  rw[Ji,UO];by_cases e:k<L.length
  .have d:ed L (0,(0,(0,(0,(false,()))))) (k:Int)=L[k]:=by
    simp_all [ed]
   rw[bW (fG (by rw[bM];omega)),bW (eF),d,aF e,List.find?_cons];by_cases h1:L[k].2.1=v
   .simp_all [eG,eF]
   .have:(L[k].2.1==v)=false:=by simpa using h1
    rw[dG (dM h1),dB,show(k:Int)+1=((k+1:Nat):Int) by omega,ZM L hl v m f t u o N (k+1) (by omega) (by omega),this]
  grind [gU,bM]
theorem av7 (L:List jY) (hl:L.length<1000000) (v:Int):agE L v=a6 (match jE L v with
  |none=>((0,(0,(0,(0,(false,()))))),(0,()))
  |some p=>(p,(1,()))):=by
 rw[agE];have h:=ZM L hl v 0 0 0 0 false bT 0 (dJ) (by omega);rw[show Ji bT L v 0 0 0 0 0 false=_ from h,bI,aY];unfold jE;cases L.find? (fun p=>p.2.1==v)with
 |none=>rfl
 |some p=>rfl
theorem xG (s:bV) (a b:Int):(sub s a b).length<=(b-a).toNat:=by
 grind [sub]
theorem Ai {a b:List UInt8} (h:a.length+b.length<=140737488355328):iQ a b=true:=by
 grind [iQ,mJ]
theorem qR {d:Type} {l:List d} {k:Nat} (h:l.length*k<=140737488355328):eu l k=true:=by
 grind [eu,mJ]
theorem uA (l:List Pce) (x:Pce):kG (l++[x])=kG l++x.2.2.1:=by simp[kG]
def qY (s:bV) (L:List jY) (to_:Int):Nat->Int->Bool
 |0,_=>false
 |n+1,at_=>if at_<to_ then(gz s L at_).2.2||qY s L to_ n (gz s L at_).1 else false
def je (s:bV) (L:List jY) (at_:Int):Bool:=
 match jE L at_ with
 |none=>false
 |some p=>if lone p=true\/p.1=14 then false else if p.1=13 then false else if p.1=4 then false
  else if p.1=5 then qY s L (mQ p) s.length (p.2.1+1)else true
def sJ (s:bV) (L:List jY):Nat->Int->Bool
 |0,_=>false
 |n+1,at_=>if at_<s.length then je s L at_||sJ s L n (stepT s L at_).1 else false
def aBz (s:bV):Bool:=sJ s (bP s) s.length 0
theorem PQ (s:bV) (to_:Int): ∀(n m:Nat) (at_:Int),to_-at_<=n->to_-at_<=m->qY s (bP s) to_ n at_=qY s (bP s) to_ m at_
 |0,0,_,_,_=>rfl
 |0,m+1,at_,h,_=>by rw[qY,qY,aq (by omega)]
 |n+1,0,at_,_,h=>by rw[qY,qY,aq (by omega)]
 |n+1,m+1,at_,d,e=>by
  rw[qY,qY];split
  .have:= @Iy s at_;rw[PQ s to_ n m _ (by omega) (by omega)]
  .rfl
theorem PZ (s:bV): ∀(n m:Nat) (at_:Int),(s.length:Int)-at_<=n->(s.length:Int)-at_<=m->sJ s (bP s) n at_=sJ s (bP s) m at_
 |0,0,_,_,_=>rfl
 |0,m+1,at_,h,_=>by rw[sJ,sJ,aq (by omega)]
 |n+1,0,at_,_,h=>by rw[sJ,sJ,aq (by omega)]
 |n+1,m+1,at_,d,e=>by
  rw[sJ,sJ];split
  .have:= @Ap s at_;rw[PZ s n m _ (by omega) (by omega)]
  .rfl
def exB (l:List Pce):Bool:=l.any (·.1)
theorem amh (a b:List Pce):exB (a++b)=(exB a||exB b):=by simp[exB]
theorem PS (s:bV) (j:s.length<=10000) {to_:Int} (q:to_<=s.length): ∀(N:Nat) (at_:Int) (f:bV) (out:List Pce),0<N->to_-at_<N->0<=at_->at_<=s.length->(f.length:Int)<=10000*at_->(out.length:Int)<=2*at_->
  ∃g d,yj N s (bP s) to_ f at_ out=a6 (.inl ((g,()),(d,())))/\kG d++g=kG out++f++oI s (bP s) to_ N at_/\(g.length:Int)<=10000*s.length/\(d.length:Int)<=2*s.length/\exB d=(exB out||qY s (bP s) to_ N at_)
 |0,at_,f,out,J,_,_,_,_,_=>by
  omega
 |N+1,at_,f,out,J,h,u,Z,hh,ho=>by
  (rewrite [yj,UQ];delta JI zo;rw[oI,qY])
  by_cases e:at_<to_
  .have ab:=uV s;have ad:= @Iy s at_;have ae:=JO s (bP s) at_;have af: ∀(c:bV) (nx:Int),c=(gz s (bP s) at_).2.1->nx=(gz s (bP s) at_).1->nx<=s.length->(gz s (bP s) at_).2.2=false->
     ∃g d,yj N s (bP s) to_ (bU f c) nx out=a6 (.inl ((g,()),(d,())))/\kG d++g=kG out++f++((gz s (bP s) at_).2.1++oI s (bP s) to_ N (gz s (bP s) at_).1)/\(g.length:Int)<=10000*s.length/\(d.length:Int)<=2*s.length/\exB d=(exB out||((gz s (bP s) at_).2.2||qY s (bP s) to_ N (gz s (bP s) at_).1)):=by
    intro c nx v m o K;subst v m;obtain⟨g,d,z,L,A,B,M⟩:=PS s j q N (gz s (bP s) at_).1 (bU f (gz s (bP s) at_).2.1) out (by omega) (by omega) (by omega) o (by grind [bU]) (by omega);refine⟨g,d,z,by grind [bU],A,B,by simp_all⟩
   have push: ∀(l:List Pce) (nx:Int),kG l=f++(gz s (bP s) at_).2.1->l.length<=2->nx=(gz s (bP s) at_).1->nx<=s.length->(gz s (bP s) at_).2.2=true->exB l=true->
     ∃g d,yj N s (bP s) to_ [] nx (out++l)=a6 (.inl ((g,()),(d,())))/\kG d++g=kG out++f++((gz s (bP s) at_).2.1++oI s (bP s) to_ N (gz s (bP s) at_).1)/\(g.length:Int)<=10000*s.length/\(d.length:Int)<=2*s.length/\exB d=(exB out||((gz s (bP s) at_).2.2||qY s (bP s) to_ N (gz s (bP s) at_).1)):=by
    intro l nx hl ag m o K aj;subst m;obtain⟨g,d,z,L,A,B,M⟩:=PS s j q N (gz s (bP s) at_).1 [] (out++l) (by omega) (by omega) (by omega) o (by simp;omega) (by grind)
    grind [Az,amh]
   have O: ∀c:bV,c.length<=10000->iQ f c=true:=fun c v=>Ai (by omega);have D: ∀x,eu (bU out [x]) 24=true:=fun x=>qR (by grind [bU]);have S: ∀x y,eu (bU (bU out [x]) [y]) 24=true:=fun x y=>qR (by grind [bU]);have U: ∀a b:Int,(sub s a b).length<=10000:=fun a b=>aK (Gh s a b) j;have E:cO .i64 at_ 1=at_+1:=dB;have V:cO .i64 at_ 2=at_+2:=dB;have W:eY (bK s) at_ (at_+1)=true:=fQ u (by omega) (by rw[bM];omega);rw[bW (fG e),am e,am e,av7 (bP s) (by omega),bI];cases hf:jE (bP s) at_ with
   |none=>
    have i:gz s (bP s) at_=(at_+1,sub s at_ (at_+1),false):=by unfold gz;rw[hf]
    simp only[E];rw[show bY 0 0=true from rfl,aa,W,aa,O _ (U _ _),aa]
    grind
   |some p=>
    obtain⟨G,X⟩:=tX hf;have t0:=G.t0;have t1:=G.t1;simp only[E,V];rw[show bY 1 0=false from rfl,ac];by_cases hlone:lone p=true
    .simp_all [gz,lone,eG]
    .have ak: ¬(p.1=12/\p.2.2.1=at_+1):=fun h=>hlone (by simp_all [lone]);have I:eY (bK s) at_ p.2.2.1=true:=fQ u (by omega) (by rw[bM];omega);by_cases h13:p.1=13
     .have i:gz s (bP s) at_=(p.2.2.1,Lt s p,false):=by simp_all [gz]
      rw[dG (dM),bW (eG h13)];by_cases hto2:p.2.2.1=at_+2
      .have Y:gy s (at_+1)=true:=eF;have al:eY (bK s) (at_+1) (at_+2)=true:=fQ (by omega) (by omega) (by rw[bM];omega);have an:eY (bK s) at_ (at_+2)=true:=fQ (by omega) (by omega) (by rw[bM];omega);have ao:Lt s p=(if cu s (at_+1)=36\/cu s (at_+1)=96\/cu s (at_+1)=34\/cu s (at_+1)=92 then sub s (at_+1) (at_+2)
         else if cu s (at_+1)=10 then []else sub s at_ (at_+2)):=by
        simp_all [Lt,nK]
       rw[bW (eG hto2),Y,aa];by_cases b1:cu s (at_+1)=36
       .simp_all [eG]
       .rw[dG (dM b1)];by_cases b2:cu s (at_+1)=96
        .simp_all [eG]
        .rw[dG (dM b2)];by_cases b3:cu s (at_+1)=34
         .simp_all [eG]
         .rw[dG (dM b3)];by_cases b4:cu s (at_+1)=92
          .simp_all [eG]
          .rw[dG (dM b4)]
           grind [eG,bU,dM]
      simp_all [dM,Lt,bU]
     .have i:gz s (bP s) at_=(p.2.2.1,nK s p,true):=by simp_all [gz]
      have au:nK s p=sub s at_ p.2.2.1:=by unfold nK;rw[X]
      have av: ∃g d,(bif !gp f []then
        bif eu (bU out [(false,(true,(f,())))]) 24 then
         bif eY (bK s) at_ p.2.2.1 then
          bif eu (bU (bU out [(false,(true,(f,())))]) [(true,(true,(sub s at_ p.2.2.1,())))]) 24 then
           yj N s (bP s) to_ [] p.2.2.1 (bU (bU out [(false,(true,(f,())))]) [(true,(true,(sub s at_ p.2.2.1,())))])
          else a7
         else a7
        else a7
       else bif eY (bK s) at_ p.2.2.1 then
        bif eu (bU out [(true,(true,(sub s at_ p.2.2.1,())))]) 24 then
         yj N s (bP s) to_ [] p.2.2.1 (bU out [(true,(true,(sub s at_ p.2.2.1,())))])
        else a7
       else a7)=a6 (.inl ((g,()),(d,())))/\kG d++g=kG out++f++((gz s (bP s) at_).2.1++oI s (bP s) to_ N (gz s (bP s) at_).1)/\(g.length:Int)<=10000*s.length/\(d.length:Int)<=2*s.length/\exB d=(exB out||((gz s (bP s) at_).2.2||qY s (bP s) to_ N (gz s (bP s) at_).1)):=by
       by_cases he:f=[]
       .have:=push [(true,(true,(sub s at_ p.2.2.1,())))] p.2.2.1 (by simp_all [IG]) (by simp) (by rw[i]) (by omega) (by rw[i]) (by simp[exB]);rw[show(!gp f [])=false by rw[he];rfl,ac,I,aa,D,aa];exact this
       .have:=push ([(false,(true,(f,())))]++[(true,(true,(sub s at_ p.2.2.1,())))]) p.2.2.1 (by grind [Az,IG]) (by simp) (by rw[i]) (by omega) (by rw[i]) (by simp[exB]);rw[show(!gp f [])=true by simp_all [gp],aa,D,aa,I,aa,S,aa];rw[<-ah]at this;exact this
      grind [dM]
  .rw[dG (gU e),aq e,aq e]
   grind
theorem apV (s:bV) (i:s.length<=10000) {from_ to_:Int} (j:0<=from_) (l:from_<=s.length) (m:to_<=s.length):
  ∃out,RG s (bP s) from_ to_=a6 (out,())/\kG out=oI s (bP s) to_ s.length from_/\out.length<=2*s.length+1/\exB out=qY s (bP s) to_ s.length from_:=by
 obtain⟨d,out,o,e,u,v,f⟩:=PS s i m bT from_ [] [] (by unfold bT;omega) (by have:=dJ (n:=s.length) (by omega);omega) j l (by simp;omega) (by simp;omega);have p:oI s (bP s) to_ bT from_=oI s (bP s) to_ s.length from_:=IQ s to_ _ _ _ (by have:=dJ (n:=s.length) (by omega);omega) (by omega);have q:qY s (bP s) to_ bT from_=qY s (bP s) to_ s.length from_:=PQ s to_ _ _ _ (by have:=dJ (n:=s.length) (by omega);omega) (by omega);rw[q]at f;have f:exB out=qY s (bP s) to_ s.length from_:=by simpa [exB] using f
 rw[p,show kG []=([]:bV) from rfl,aB,aB]at e;rw[RG,o,bI];simp only[dR];have g: ∀x,eu (bU out [x]) 24=true:=fun x=>qR (by grind [bU]);by_cases he:d=[]
 .rw[show(!gp d [])=false by rw[he];rfl,ac];subst he;rw[bg]at e;by_cases ho:out.length=0
  .rw[bW (eG (by rw[bM];omega)),g,aa];exact⟨_,rfl,by grind [bU,Az,IG],by simp_all [bU],by grind [bU,exB]⟩
  .rw[dG (dM (by rw[bM];omega))]
   grind
 .rw[show(!gp d [])=true by simp_all [gp],aa,g,aa];exact⟨_,rfl,by unfold bU;rw[Az,IG,e],by grind [bU],by grind [bU,exB]⟩
theorem ar1 (out:List Pce) (t:bV) (e:Bool) (f:out.length<1000000000) (g:(kG out).length+t.length<=100000000000000) (i:e=false-> ∃l x,out=l++[x]/\x.1=false):
  ∃d,ZV out t e=a6 (d,())/\kG d=kG out++t/\d.length<=out.length+1/\exB d=exB out/\ ∃l x,d=l++[x]/\x.1=false:=by
 have one: ∃d,(bif eu (bU [] out) 24 then bif eu (bU (bU [] out) [(false,(false,(t,())))]) 24 then a6 ((bU (bU [] out) [(false,(false,(t,())))]),())else a7 else a7)=a6 (d,())/\kG d=kG out++t/\d.length<=out.length+1/\exB d=exB out/\ ∃l x,d=l++[x]/\x.1=false:=by
  rw[bW (qR (by grind [bU])),bW (qR (by grind [bU]))];exact⟨_,rfl,by simp_all [bU,Az,IG],by unfold bU;simp,by simp[bU,exB],out,_,rfl,rfl⟩
 (rewrite [ZV];delta ab4 vN kN nG xZ kM tZ jv gI)
 cases e with
 |true=>
  simp_all
 |false=>
  obtain⟨l,x,rfl,j⟩:=i rfl;rw[uA,ai]at g;rw[ai,aV]at f;have m:eP .i64 (bK (l++[x])) 1=(l.length:Int):=by grind [bM,ig]
  have o:ed (l++[x]) (false,(false,([],()))) (l.length:Int)=x:=qF rfl;have p:gy (l++[x]) (l.length:Int)=true:=eF (by omega) (by grind);have q:eY (bK (l++[x])) 0 (l.length:Int)=true:=fQ (by omega) (by omega) (by grind [bM]);have s:sub (l++[x]) 0 (l.length:Int)=l:=by simp[sub]
  have u:iQ x.2.2.1 t=true:=Ai (by omega);have v:eu (bU [] l) 24=true:=qR (by grind [bU]);have z: ∀y,eu (bU (bU [] l) [y]) 24=true:=fun y=>qR (by grind [bU]);rw[bW (fG (by simp_all [bM]))];simp only[aA,aa,m,o,p,q,s,u,v,z,eU,lN,iL,iD,ay,bI];exact⟨_,rfl,by grind [bU,uA],by unfold bU;simp,by simp[bU,exB,j],l,_,rfl,rfl⟩
theorem OM (s:bV) (y:s.length<=10000): ∀(N:Nat) (at_:Int) (i:Bool) (out:List Pce),(s.length:Int)-at_<N->0<=at_->at_<=s.length->((kG out).length:Int)<=100010000*at_->(out.length:Int)<=30000*at_->(i=false-> ∃l x,out=l++[x]/\x.1=false)->
  ∃d,oz N s (bP s) i at_ out=a6 (.inl ((),(d,())))/\kG d=kG out++jP s (bP s) N at_/\(d.length:Int)<=30000*s.length/\exB d=(exB out||sJ s (bP s) N at_)
 |0,at_,i,out,h,_,_,_,_,_=>by omega
 |N+1,at_,i,out,h,E,I,ht,ho,G=>by
  (rewrite [oz,UG];delta JH Eo;rw[jP,sJ])
  by_cases e:at_<s.length
  .have ad:=uV s;have ae:= @Ap s at_;have J:=Yn (s:=s) e;have af:(stepT s (bP s) at_).2.length<=100010000:=by
    have I:=JP s (bP s) at_;have h2:s.length*s.length<=10000*10000:=Nat.mul_le_mul y y;omega
   have go: ∀(l:List Pce) (f:Bool),kG l=kG out++(stepT s (bP s) at_).2->l.length<=out.length+20002->(f=false-> ∃K x,l=K++[x]/\x.1=false)->exB l=(exB out||je s (bP s) at_)->
     ∃d,oz N s (bP s) f (stepT s (bP s) at_).1 l=a6 (.inl ((),(d,())))/\kG d=kG out++((stepT s (bP s) at_).2++jP s (bP s) N (stepT s (bP s) at_).1)/\(d.length:Int)<=30000*s.length/\exB d=(exB out||(je s (bP s) at_||sJ s (bP s) N (stepT s (bP s) at_).1)):=by
    intro l f hl hn u hx;obtain⟨d,r1,r2,r3,r4⟩:=OM s y N (stepT s (bP s) at_).1 f l (by omega) (by omega) J (by grind) (by omega) u
    grind
   have ag: ∀(t:bV) (nx:Int),t=(stepT s (bP s) at_).2->nx=(stepT s (bP s) at_).1->je s (bP s) at_=false->
     ∃d,(bJ (ZV out t i) fun g=>oz N s (bP s) false nx g.1)=a6 (.inl ((),(d,())))/\kG d=kG out++((stepT s (bP s) at_).2++jP s (bP s) N (stepT s (bP s) at_).1)/\(d.length:Int)<=30000*s.length/\exB d=(exB out||(je s (bP s) at_||sJ s (bP s) N (stepT s (bP s) at_).1)):=by
    intro t nx z v j;subst z v;obtain⟨o,L,M,p3,p4,O⟩:=ar1 out (stepT s (bP s) at_).2 i (by omega) (by omega) G;rw[L,bI];exact go o false M (by omega) (fun _=>O) (by simp_all)
   have S: ∀(x:Pce) (nx:Int),x.2.2.1=(stepT s (bP s) at_).2->nx=(stepT s (bP s) at_).1->x.1=je s (bP s) at_->
     ∃d,(bif eu (bU out [x]) 24 then oz N s (bP s) true nx (bU out [x])else a7)=a6 (.inl ((),(d,())))/\kG d=kG out++((stepT s (bP s) at_).2++jP s (bP s) N (stepT s (bP s) at_).1)/\(d.length:Int)<=30000*s.length/\exB d=(exB out||(je s (bP s) at_||sJ s (bP s) N (stepT s (bP s) at_).1)):=by
    intro x nx z v j;subst v;rw[bW (qR (by grind [bU]))];simp_all [bU,uA,exB]
   have aj: ∀(nx:Int),(stepT s (bP s) at_).2=[]->nx=(stepT s (bP s) at_).1->je s (bP s) at_=false->
     ∃d,oz N s (bP s) i nx out=a6 (.inl ((),(d,())))/\kG d=kG out++((stepT s (bP s) at_).2++jP s (bP s) N (stepT s (bP s) at_).1)/\(d.length:Int)<=30000*s.length/\exB d=(exB out||(je s (bP s) at_||sJ s (bP s) N (stepT s (bP s) at_).1)):=by
    intro nx z v j;subst v;exact go out i (by simp_all) (by omega) G (by simp_all)
   have A:cO .i64 at_ 1=at_+1:=dB;have U:eY (bK s) at_ (at_+1)=true:=fQ E (by omega) (by rw[bM];omega);rw[bW (fG (b:=bK s) e),am e,am e,av7 (bP s) (by omega),bI];cases u:jE (bP s) at_ with
   |none=>
    have m:stepT s (bP s) at_=(at_+1,sub s at_ (at_+1)):=by unfold stepT;rw[u]
    simp only[A];have j:je s (bP s) at_=false:=by unfold je;rw[u]
    rw[show bY 0 0=true from rfl,aa,show bY 0 1=false from rfl,ac,U,aa];simp_all
   |some p=>
    obtain⟨B,D⟩:=tX u;have t0:=B.t0;have t1:=B.t1;have ak:nK s p=sub s at_ p.2.2.1:=by unfold nK;rw[D]
    have al:eY (bK s) at_ p.2.2.1=true:=fQ E (by omega) (by rw[bM];omega);have V:cO .i64 p.2.1 1=at_+1:=by rw[D];exact A
    have W:cO .i64 p.2.1 2=at_+2:=by grind [dB]
    have X:eP .i64 p.2.2.1 1=p.2.2.1-1:=ig;simp only[A,V,W,X];rw[show bY 1 0=false from rfl,ac,show bY 1 1=true from rfl];simp only[aa];by_cases hpl':lone p=true\/p.1=14
    .have m:stepT s (bP s) at_=(p.2.2.1,nK s p):=by simp_all [stepT]
     have j:je s (bP s) at_=false:=by simp_all [je]
     grind [eG,lone]
    .have an: ¬(p.1=12/\p.2.2.1=at_+1):=fun h=>hpl' (.inl (by simp_all [lone]));have Y:p.1≠14:=fun h=>hpl' (.inr h);have Z:je s (bP s) at_=(if p.1=13 then false else if p.1=4 then false else if p.1=5 then qY s (bP s) (mQ p) s.length (p.2.1+1)else true):=by
      unfold je;simp_all
     rw[dG (dM Y)];by_cases h13:p.1=13
     .have m:stepT s (bP s) at_=(p.2.2.1,Lu s p):=by simp_all [stepT]
      have j:je s (bP s) at_=false:=by rw[Z,am h13]
      rw[dG (dM),bW (eG h13)];by_cases hto2:p.2.2.1=at_+2
      .rw[bW (eG hto2),bW (eF)];by_cases b5:cu s (at_+1)=10
       .simp_all [eG,Lu]
       .rw[dM b5];simp only[aA,aa];rw[bW (fQ (by omega) (by omega) (by rw[bM];omega))];simp_all [Lu]
      simp_all [dM,Lu]
     .have ao: ∃d,(bif bY p.1 4 then
        bif p.2.2.2.2.1 then
         bif eY (bK s) (at_+1) p.2.2.1 then
          bif eu (bU out [(false,(true,(sub s (at_+1) p.2.2.1,())))]) 24 then
           oz N s (bP s) true p.2.2.1 (bU out [(false,(true,(sub s (at_+1) p.2.2.1,())))])
          else a7
         else a7
        else bif eY (bK s) (at_+1) (p.2.2.1-1)then
         bif eu (bU out [(false,(true,(sub s (at_+1) (p.2.2.1-1),())))]) 24 then
          oz N s (bP s) true p.2.2.1 (bU out [(false,(true,(sub s (at_+1) (p.2.2.1-1),())))])
         else a7
        else a7
       else bif bY p.1 5 then
        bif p.2.2.2.2.1 then
         bJ (RG s (bP s) (at_+1) p.2.2.1) fun g=>
          bif eu (bU out g.1) 24 then oz N s (bP s) true p.2.2.1 (bU out g.1)else a7
        else
         bJ (RG s (bP s) (at_+1) (p.2.2.1-1)) fun g=>
          bif eu (bU out g.1) 24 then oz N s (bP s) true p.2.2.1 (bU out g.1)else a7
       else bif eY (bK s) p.2.1 p.2.2.1 then
        bif eu (bU out [(true,(false,(sub s p.2.1 p.2.2.1,())))]) 24 then
         oz N s (bP s) true p.2.2.1 (bU out [(true,(false,(sub s p.2.1 p.2.2.1,())))])
        else a7
       else a7)=a6 (.inl ((),(d,())))/\kG d=kG out++((stepT s (bP s) at_).2++jP s (bP s) N (stepT s (bP s) at_).1)/\(d.length:Int)<=30000*s.length/\exB d=(exB out||(je s (bP s) at_||sJ s (bP s) N (stepT s (bP s) at_).1)):=by
       by_cases h4:p.1=4
       .have m:stepT s (bP s) at_=(p.2.2.1,sub s (p.2.1+1) (mQ p)):=by simp_all [stepT]
        have j:je s (bP s) at_=false:=by simp_all
        rw[bW (eG h4)];cases hop:p.2.2.2.2.1 with
        |true=>
         rw[aa,bW (fQ (by omega) (by omega) (by rw[bM];omega))];exact S _ _ (by rw[m,D];unfold mQ;rw[hop,am rfl]) (by rw[m]) (by rw[j])
        |false=>
         have:=B.sh hop (by omega);rw[ac,bW (fQ (by omega) (by omega) (by rw[bM];omega))];simp_all [mQ]
       .rw[dG (dM h4)];by_cases h5:p.1=5
        .have m:stepT s (bP s) at_=(p.2.2.1,oI s (bP s) (mQ p) s.length (p.2.1+1)):=by simp_all [stepT]
         rw[bW (eG h5)];have dbl: ∀q:Int,q=mQ p->q<=s.length-> ∃d,(bJ (RG s (bP s) (at_+1) q) fun g=>
           bif eu (bU out g.1) 24 then oz N s (bP s) true p.2.2.1 (bU out g.1)else a7)=a6 (.inl ((),(d,())))/\kG d=kG out++((stepT s (bP s) at_).2++jP s (bP s) N (stepT s (bP s) at_).1)/\(d.length:Int)<=30000*s.length/\exB d=(exB out||(je s (bP s) at_||sJ s (bP s) N (stepT s (bP s) at_).1)):=by
          intro q au ab;have j:je s (bP s) at_=qY s (bP s) (mQ p) s.length (p.2.1+1):=by simp_all
          obtain⟨o,d1,d2,d3,d4⟩:=apV s y (from_:=at_+1) (to_:=q) (by omega) (by omega) ab;rw[d1,bI];simp only;rw[bW (qR (by grind [bU]))];have:=go (bU out o) true (by simp_all [bU,Az]) (by grind [bU]) (fun h=>by cases h) (by simp_all [bU,amh])
          grind
         cases hop:p.2.2.2.2.1 with
         |true=>rw[aa];exact dbl _ (by unfold mQ;rw[hop,am rfl]) (by omega)
         |false=>rw[ac];grind [mQ]
        .have m:stepT s (bP s) at_=(p.2.2.1,nK s p):=by simp_all [stepT]
         simp_all [dM]
      grind [dM]
  .rw[dG (gU (by rw[bM];omega)),aq e,aq e]
   grind
theorem XK (l:List Pce) (hl:l.length<1000000000) (d:(kG l).length<=100000000000000): ∀(N k:Nat),l.length-k<N->k<=l.length->
  Jg N l (kG (l.take k)) (k:Int)=a6 (.inl ((kG l,()),()))
 |0,k,h,_=>by omega
 |N+1,k,h,hk=>by
  rw[Jg,UC];by_cases e:k<l.length
  .have f:ed l (false,(false,([],()))) (k:Int)=l[k]:=by
    simp_all [ed]
   have g:kG (l.take (k+1))=kG (l.take k)++l[k].2.2.1:=by grind [List.take_add_one,uA]
   have i:(kG (l.take (k+1))).length<=(kG l).length:=by
    grind [List.take_append_drop,Az]
   rw[bW (fG (by rw[bM];omega)),bW (eF),f,bW (Ai (by grind)),dB,show(k:Int)+1=((k+1:Nat):Int) by omega,
    show bU (kG (l.take k)) l[k].2.2.1=kG (l.take (k+1)) from g.symm]
   exact XK l hl d N (k+1) (by omega) (by omega)
  grind [gU,bM]
theorem ap1 (s:bV) (d:s.length<=10000):(Gl s).length<=1000100000000:=by
 have h:=Zu s (bP s) s.length 0;have e:s.length*s.length<=10000*10000:=Nat.mul_le_mul d d;have f:s.length*(s.length*s.length+s.length)<=10000*(10000*10000+10000):=Nat.mul_le_mul d (by omega);unfold Gl;omega
theorem aGa (s:bV) (d:s.length<=10000):agq s=a6 (Gl s,()):=by
 obtain⟨out,f,g,m,_⟩:=OM s d bT 0 true [] (by have:=dJ (n:=s.length) (by omega);omega) (by omega) (by omega) (by simp[kG]) (by simp) (fun h=>by cases h);have i:jP s (bP s) bT 0=Gl s:=zC s _ _ _ (by have:=dJ (n:=s.length) (by omega);omega) (by omega);have j:ams s=a6 (out,()):=by
  rw[ams,aOb s (by omega),bI];simp only;rw[f,bI];rfl
 have e:kG out=Gl s:=by rw[g,i];rfl
 have o:=ap1 s d;rw[agq,j,bI];simp only;have l:=XK out (by omega) (by rw[e];omega) bT 0 (dJ) (by omega);rw[show Jg bT out [] 0=_ from l,bI,<-e];rfl
end
section
open Option renaming some → a6, none → a7
open Tryz
open Go.RowKit
noncomputable def b69:Code:=(f69.body).getD .skip
noncomputable def aur:Code:=cA (cA (cA (cB (cA (cB (cA (cB (cB (cB (cB (cB (b69))))))))))))
noncomputable def aus:Code:=cA (cA (cA (cB (cB (cB (cB (cB (cB (cB (cB (b69)))))))))))
def aw8:fJ:=⟨[0,1,6,7,11,12,100014],[],[1,6,7,11,12],[],[6,7],[]⟩
def aw9:fJ:=⟨[0,1,5,6,7,11,14,100023],[],[0,1,5,6,7,11,14],[],[6,7],[]⟩
def adt:SP:=⟨us [b9,bX,.u,.u,.u,.u,d5,.ptr 1000007 0,.u,.u,.u,.ptr 1000011 0,bX] 173,dv⟩
def ad5:SP:=⟨us [.u,bX,.u,.u,.u,.u,d5,.ptr 1000007 0,.u,.u,.u,.ptr 1000011 0,bX] 173,dv⟩
def aeE:SP:=⟨us [] 186,[]⟩
def U2 {e:Type} (x:bV->Int->Int->Int->J9->Bool->Int->Bool->Int->Int->Int->Bool->Option e) (v:Int->Int->Int->J9->Bool->Int->Bool->Int->Int->Int->Bool->Option e) (y:Option e) (f:bV) (g d i:Int) (j:J9) (l:Bool) (m:Int) (o:Bool) (p q s:Int) (u:Bool):Option e:=cond (iF d (bK f)) (cond (gy f d) (cond (!(bY (cu f d) 10)) (x f g (cO .i64 d 1) i j l m o p q s u)<|v g d i j l m o p q s u) a7)<|v g d i j l m o p q s u
def Om:Nat->bV->Int->Int->Int->J9->Bool->Int->Bool->Int->Int->Int->Bool->Option (ad5.den⊕aeE.den)
 |0,_,_,_,_,_,_,_,_,_,_,_,_=>a7
 |n+1,d,e,f,g,i,j,l,m,o,p,q,s=>U2 (Om n) (fun u v x y z A B D E G I=>a6 (.inl ((u,v,()),((x,y,z,()),(A,B,()),(D,E,G,I,()),())))) (a6 (.inr ((),()))) d e f g i j l m o p q s
def aC1 (n:Nat) (v:adt.den):=be (Om n) v
noncomputable def anU:dD:=gu aw8 adt ad5 aeE (.exit 0) (aC1 bT) 6
def adu:SP:=⟨dg,c8⟩
def OI:SP:=⟨dg,c8⟩
def aeF:SP:=⟨us [] 186,[]⟩
def U3 {f:Type} (A z:bV->Int->Int->Int->J9->Bool->Int->Bool->Int->Int->Int->Bool->Int->J9->Bool->Option f) (D:Option f) (d:bV) (g e i:Int) (j:J9) (l:Bool) (m:Int) (o:Bool) (p q s:Int) (u:Bool) (v:Int) (x:J9) (y:Bool):Option f:=cond (iF e (bK d)) (cond (gy d e) (bJ (NF (cu d e)) fun B=>cond (bY B.1 6) (A d g (cO .i64 e 1) i j l m o p q s u v x y)<|z d g e i j l m o p q s u v x y) a7)<|z d g e i j l m o p q s u v x y
def Oo:Nat->bV->Int->Int->Int->J9->Bool->Int->Bool->Int->Int->Int->Bool->Int->J9->Bool->Option (OI.den⊕aeF.den)
 |0,_,_,_,_,_,_,_,_,_,_,_,_,_,_,_=>a7
 |n+1,d,e,f,g,i,j,l,m,o,p,q,s,u,v,x=>U3 (Oo n) (fun y z A B D E G I J K L M N O S=>a6 (.inl ((y,z,A,()),((B,D,E,()),(G,I,()),(J,K,L,M,()),(N,O,S,()),())))) (a6 (.inr ((),()))) d e f g i j l m o p q s u v x
def aC2 (n:Nat) (v:adu.den):=bh (Oo n) v
noncomputable def anV:dD:=gu aw9 adu OI aeF (.exit 2) (aC2 bT) 12
def Cj (d:Int×J9×vJ):=pO II d.2.1 d.2.1
def ajD (d:AQ) (e:Int×J9×vJ) (f:Int):Option taU:=bJ (aca d.1) fun g=>cond ((bY d.1 d.1)&&((Cj e)&&((jM false false)&&true))) (a6 ((4,(f,((cO .i64 f (bK g.1)),(false,())))),((d.1,(e.2.1,(false,()))),()))) a7
def ajE (d:OI.den):Option taU:=cond ((bY d.2.1.1 d.2.1.1)&&((pO II d.2.1.2.1 d.2.1.2.1)&&((jM d.2.1.2.2.1 d.2.1.2.2.1)&&true))) (a6 ((5,(d.1.2.1,(d.1.2.2.1,(false,())))),((d.2.1.1,(d.2.1.2.1,(d.2.1.2.2.1,()))),()))) a7
def ab9 (d:OI.den):Option taU:=bJ (ZN d.1.1 d.1.2.1) fun e=>cond (eY (bK d.1.1) d.1.2.1 e.1) (cond (!(bY d.2.2.2.2.1.1 0)) (cond (pO II d.2.2.2.2.1.2.1 d.2.2.2.2.1.2.1) (cond (gp (sub d.1.1 d.1.2.1 e.1) (sub d.1.1 d.1.2.1 e.1)) (cond (bY d.2.2.2.2.1.1 d.2.2.2.2.1.1) (cond (jM (bY d.2.2.2.2.1.1 5) (bY d.2.2.2.2.1.1 5)) (cond (eu (bU [] d.2.2.2.2.1.2.1) 24) (cond (gp (sub d.1.1 d.1.2.1 e.1) (sub d.1.1 d.1.2.1 e.1)) (cond (bY d.2.2.2.2.1.1 d.2.2.2.2.1.1) (cond (jM (bY d.2.2.2.2.1.1 5) (bY d.2.2.2.2.1.1 5)) (bJ (agq (sub d.1.1 d.1.2.1 e.1)) fun f=>cond (pO II d.2.2.2.2.1.2.1 d.2.2.2.2.1.2.1) (cond (gp (sub d.1.1 d.1.2.1 e.1) (sub d.1.1 d.1.2.1 e.1)) (cond (bY d.2.2.2.2.1.1 d.2.2.2.2.1.1) (cond (jM (bY d.2.2.2.2.1.1 5) (bY d.2.2.2.2.1.1 5)) (cond (((gp (sub d.1.1 d.1.2.1 e.1) (sub d.1.1 d.1.2.1 e.1))&&true)&&((gp f.1 f.1)&&true)) (cond (eu (bU (bU [] d.2.2.2.2.1.2.1) [(f.1,((bY d.2.2.2.2.1.1 5),()))]) 24) (cond (pO II d.2.2.2.2.1.2.1 d.2.2.2.2.1.2.1) (cond (gp (sub d.1.1 d.1.2.1 e.1) (sub d.1.1 d.1.2.1 e.1)) (cond (bY d.2.2.2.2.1.1 d.2.2.2.2.1.1) (cond (jM (bY d.2.2.2.2.1.1 5) (bY d.2.2.2.2.1.1 5)) (cond ((gp f.1 f.1)&&((jM (bY d.2.2.2.2.1.1 5) (bY d.2.2.2.2.1.1 5))&&true)) (bJ (VZ (sub d.1.1 d.1.2.1 e.1)) fun g=>cond ((bY d.2.1.1 d.2.1.1)&&((jM d.2.1.2.2.1 d.2.1.2.2.1)&&true)) (a6 ((6,(d.1.2.1,(e.1,((!g.1),())))),((d.2.1.1,((bU (bU [] d.2.2.2.2.1.2.1) [(f.1,((bY d.2.2.2.2.1.1 5),()))]),(d.2.1.2.2.1,()))),()))) a7) a7) a7) a7) a7) a7) a7) a7) a7) a7) a7) a7) a7) a7) a7) a7) a7) a7) a7) a7)<|bJ (VZ (sub d.1.1 d.1.2.1 e.1)) fun f=>cond ((bY d.2.1.1 d.2.1.1)&&((pO II d.2.1.2.1 d.2.1.2.1)&&((jM d.2.1.2.2.1 d.2.1.2.2.1)&&true))) (a6 ((6,(d.1.2.1,(e.1,((!f.1),())))),((d.2.1.1,(d.2.1.2.1,(d.2.1.2.2.1,()))),()))) a7) a7
def aBV (i:bV) (e:Int) (d:Int×J9×vJ):Option taU:=cond d.2.2.1 (cond (gy d.2.1 0) (bJ (aml i e (ed d.2.1 ([],(false,())) 0)) fun l=>cond (bY l.2.1 0) (cond ((bY d.1 d.1)&&((Cj d)&&((jM d.2.2.1 d.2.2.1)&&true))) (a6 ((7,(e,(l.1,(true,())))),((d.1,(d.2.1,(d.2.2.1,()))),()))) a7)<|cond (eY (bK d.2.1) 1 (bK d.2.1)) (cond (bY d.1 d.1) (cond (Cj d) (cond (eY (bK d.2.1) 1 (bK d.2.1)) (cond (pO II (sub d.2.1 1 (bK d.2.1)) (sub d.2.1 1 (bK d.2.1))) (cond (Cj d) (cond (bY (bK d.2.1) (bK d.2.1)) (cond (jM (iF 1 (bK d.2.1)) (iF 1 (bK d.2.1))) (cond ((bY d.1 d.1)&&((pO II (sub d.2.1 1 (bK d.2.1)) (sub d.2.1 1 (bK d.2.1)))&&((jM (iF 1 (bK d.2.1)) (iF 1 (bK d.2.1)))&&true))) (a6 ((7,(e,(l.1,(false,())))),((d.1,((sub d.2.1 1 (bK d.2.1)),((iF 1 (bK d.2.1)),()))),()))) a7) a7) a7) a7) a7) a7) a7) a7) a7) a7)<|bJ (amm i e) fun l=>cond (iF e l.1) (cond ((bY d.1 d.1)&&((Cj d)&&((jM d.2.2.1 d.2.2.1)&&true))) (a6 ((1,(e,(l.1,(false,())))),((d.1,(d.2.1,(d.2.2.1,()))),()))) a7)<|cond (gy i e) (cond (bY (cu i e) 10) (cond (Cj d) (cond (Cj d) (cond (bY (bK d.2.1) (bK d.2.1)) (cond (jM (iF 0 (bK d.2.1)) (iF 0 (bK d.2.1))) (cond ((bY 0 0)&&((Cj d)&&((jM (iF 0 (bK d.2.1)) (iF 0 (bK d.2.1)))&&true))) (a6 ((2,(e,((cO .i64 e 1),(false,())))),((0,(d.2.1,((iF 0 (bK d.2.1)),()))),()))) a7) a7) a7) a7) a7)<|cond (gy i e) (cond (bY (cu i e) 35) (bJ (Om bT i e e 0 d.2.1 false 0 false 0 0 0 false) fun j=>dR j (fun g=>cond ((bY g.2.1.1 g.2.1.1)&&((pO II g.2.1.2.1 g.2.1.2.1)&&((jM g.2.1.2.2.1 g.2.1.2.2.1)&&true))) (a6 ((3,(g.1.1,(g.1.2.1,(false,())))),((g.2.1.1,(g.2.1.2.1,(g.2.1.2.2.1,()))),()))) a7) (fun o=>a7))<|bJ (agp i e) fun j=>cond (iF 0 j.1) (cond (bY j.1 4) (ajD j d e)<|cond (bY j.1 5) (ajD j d e)<|bJ (aca j.1) fun m=>cond ((bY 0 0)&&((Cj d)&&((jM false false)&&true))) (a6 ((4,(e,((cO .i64 e (bK m.1)),(false,())))),((0,(d.2.1,(false,()))),()))) a7)<|bJ (Oo bT i e e 0 d.2.1 false 0 false 0 0 0 false d.1 d.2.1 d.2.2.1) fun m=>dR m (fun f=>cond (iF f.1.2.1 f.1.2.2.1) (cond (iF f.1.2.2.1 (bK f.1.1)) (cond (gy f.1.1 f.1.2.2.1) (cond (bY (cu f.1.1 f.1.2.2.1) 60) (ajE f)<|cond (gy f.1.1 f.1.2.2.1) (cond (bY (cu f.1.1 f.1.2.2.1) 62) (ajE f)<|ab9 f) a7) a7)<|ab9 f)<|ab9 f) (fun p=>a7)) a7) a7
def aFH:Sum:=⟨[.str,dA,.pair dA tyN],tzI,fun x=>aBV x.1 x.2.1 x.2.2.1⟩
noncomputable def amf:Env:=jm prog tt 69 [(113,alz),(115,azs),(110,azo),(111,azp),(112,azq),(70,apN),(114,azr),(116,azt)] [(14,aw8),(23,aw9)] [(14,anU),(23,anV)]
def apm {d:Type} (a:adt.den->Option d) (b:ad5.den->Option d) (c:aeE.den->Option d) (v:adt.den):Option d:=be (U2 (fun e f g i j l m o p q s u=>a ((e,f,g,()),((i,j,l,()),(m,o,()),(p,q,s,u,()),()))) (fun x y z A B D E G I J K=>b ((x,y,()),((z,A,B,()),(D,E,()),(G,I,J,K,()),()))) (c ((),()))) v
theorem aDL:dX amf 69 aur anU:=yu (apm) (h2:=by intros;simp only[apm,be,U2,dm,dn,bI,di,dw])
def apn {d:Type} (a:adu.den->Option d) (b:OI.den->Option d) (c:aeF.den->Option d) (v:adu.den):Option d:=bh (U3 (fun e f g i j l m o p q s u x y z=>a ((e,f,g,()),((i,j,l,()),(m,o,()),(p,q,s,u,()),(x,y,z,()),()))) (fun A B D E G I J K L M N O S U V=>b ((A,B,D,()),((E,G,I,()),(J,K,()),(L,M,N,O,()),(S,U,V,()),()))) (c ((),()))) v
theorem aDM:dX amf 69 aus anV:=yu (apn) (h2:=by intros;simp only[apn,bh,U3,dm,dn,bI,di,dw])
theorem aMA:dO amf 69 b69:=pI [aur,aus] (aD (fM (aDL)) (aD (fM (aDM)) aN))
theorem avj:fK amf:=eA f69 (aD JR (aD aso (aD asi (aD asj (aD asl (aD Yt (aD asn (aD asq aN)))))))) (aMA)
theorem aAp:dU prog 69 aFH:=sA avj
noncomputable def b31:Code:=(f31.body).getD .skip
noncomputable def aEn:Code:=cA (cA (cA (cB (cB (cB (cB (b31)))))))
def aEV:fJ:=⟨[0,3,4,5,6,100004],[(4,MR)],[3,4,5],[],[2,3],[(2,MR)]⟩
def aoa:SP:=⟨us [b9,.u,.u,ck,ec,cC,bX] 23,[.arr 1800004 MR,ei,dr]⟩
def akv:SP:=⟨us [.u,.u,.u,ck,ec,cC] 24,[.arr 1800004 MR,ei,dr]⟩
def akV:SP:=⟨us [.u,.u,eK] 27,[]⟩
def ae6 {e:Type} (q:bV->Int->(List sQ)->Int->J9->Bool->Int->Bool->Option e) (s:(List sQ)->Int->J9->Bool->Int->Bool->Option e) (u:(List sQ)->Option e) (f:bV) (i:Int) (g:List sQ) (j:Int) (l:J9) (m:Bool) (o:Int) (p:Bool):Option e:=cond (iF i (bK f)) (bJ (aBV f i (j,(l,(m,())))) fun d=>cond (eu (bU g [(d.1.1,(d.1.2.1,(d.1.2.2.1,(d.1.2.2.2.1,()))))]) 32) (q f d.1.2.2.1 (bU g [(d.1.1,(d.1.2.1,(d.1.2.2.1,(d.1.2.2.2.1,()))))]) d.2.1.1 d.2.1.2.1 d.2.1.2.2.1 o p) a7)<|s g j l m o p
def Qk:Nat->bV->Int->(List sQ)->Int->J9->Bool->Int->Bool->Option (akv.den⊕akV.den)
 |0,_,_,_,_,_,_,_,_=>a7
 |n+1,d,e,f,g,i,j,l,m=>ae6 (Qk n) (fun o p q s u v=>a6 (.inl ((),(o,(p,q,s,()),(u,v,()),())))) (fun x=>a6 (.inr ((x,()),()))) d e f g i j l m
def aH7 (n:Nat) (v:aoa.den):=Qk n v.1.1 v.1.2.1 v.2.1 v.2.2.1.1 v.2.2.1.2.1 v.2.2.1.2.2.1 v.2.2.2.1.1 v.2.2.2.1.2.1
noncomputable def axD:dD:=gu aEV aoa akv akV (.exit 0) (aH7 bT) 6
def aG1 (e:bV):Option ((List sQ)×(Int×J9×vJ)×Unit):=bJ (Qk bT e 0 [] 0 [] false 0 false) fun f=>dR f (fun d=>a6 (d.2.1,((d.2.2.1.1,(d.2.2.1.2.1,(d.2.2.1.2.2.1,()))),()))) (fun g=>a7)
def aNe:Sum:=⟨[.str],[(.list MR,false),(.pair dA tyN,false)],fun x=>aG1 x.1⟩
noncomputable def auW:Env:=jm prog tt 31 [(69,aFH)] [(4,aEV)] [(4,axD)]
def ayJ {d:Type} (a:aoa.den->Option d) (b:akv.den->Option d) (c:akV.den->Option d) (v:aoa.den):Option d:=ae6 (fun e f g i j l m o=>a ((e,f,()),(g,(i,j,l,()),(m,o,()),()))) (fun p q s u x y=>b ((),(p,(q,s,u,()),(x,y,()),()))) (aE c) v.1.1 v.1.2.1 v.2.1 v.2.2.1.1 v.2.2.1.2.1 v.2.2.1.2.2.1 v.2.2.2.1.1 v.2.2.2.1.2.1
theorem aII:dX auW 31 aEn axD:=yu (ayJ) (h2:=by intros;simp only[ayJ,aE,ae6,dm,dn,bI,di,dw])
theorem aMn:dO auW 31 b31:=pI [aEn] (aD (fM (aII)) aN)
theorem auX:fK auW:=eA f31 (aD aAp aN) (aMn)
theorem aNf:dU prog 31 aNe:=sA auX
end
section
open List renaming drop_eq_getElem_cons → aF, length_drop → aU
open Go.RowKit
abbrev Tok:=Int×Int×Int×Bool×Unit
abbrev Dlm:=List UInt8×Bool×Unit
abbrev YQ:=Int×List Dlm×Bool×Unit
def dDl:Dlm:=([],(false,()))
def mP (s:bV) (a:Nat):Nat:=a+jL (s.drop a) a dZ
def AL (s:bV) (a b:Nat):bV:=(s.take b).drop a
def BP (w:bV):Bool:=O0 (gB w 0 dZ).1
theorem YK {s:List UInt8} {a:Nat} (h:a<=s.length):a<=mP s a/\mP s a<=s.length:=by
 grind [al8,mP]
def jI (s:bV) (a:Nat):Tok:=if uB (s.drop a)≠0 then(1,a,((a+uB (s.drop a):Nat):Int),false,())else if cu s a=10 then(2,a,((a+1:Nat):Int),false,())else if cu s a=35 then(3,a,(jq s a:Nat),false,())else if(CS (s.drop a)).2≠0 then(4,a,((a+(CS (s.drop a)).2:Nat):Int),false,())else if Ae (s.drop a)≠0 then(5,a,((a+Ae (s.drop a):Nat):Int),false,())else(6,a,(mP s a:Nat), !BP (AL s a (mP s a)),())
def kK (s:bV) (a:Nat) (x:YQ):YQ:=if uB (s.drop a)≠0 then(x.1,x.2.1,false,())else if cu s a=10 then(0,x.2.1,decide (0<x.2.1.length),())else if cu s a=35 then(0,x.2.1,false,())else if(CS (s.drop a)).2≠0 then((if(CS (s.drop a)).1=4\/(CS (s.drop a)).1=5 then(((CS (s.drop a)).1:Nat):Int)else 0),x.2.1,false,())else if Ae (s.drop a)≠0 then(0,x.2.1,false,())else(0,(if x.1=0 then x.2.1 else x.2.1++[(Gl (AL s a (mP s a)),decide (x.1=5),())]),false,())
def jC (s:bV) (a:Nat) (x:YQ):Tok×YQ:=if x.2.2.1=true then(if(Gn s (x.2.1.headD dDl).1 (x.2.1.headD dDl).2.1 a).2=true then((7,a,((Gn s (x.2.1.headD dDl).1 (x.2.1.headD dDl).2.1 a).1:Nat),false,()),(x.1,x.2.1.tail,decide (1<x.2.1.length),()))else((7,a,((Gn s (x.2.1.headD dDl).1 (x.2.1.headD dDl).2.1 a).1:Nat),true,()),x))else(jI s a,kK s a x)
theorem ayf {c:UInt8} {t:List UInt8} (h:BG (c.toNat:Int)=true):(CS (c::t)).2≠0:=by
 have d:ofF [c]≠0:=by
  have: ∀n:Fin 256,BG ((n.val:Nat):Int)=true->ofF [UInt8.ofNat n.val]≠0:=by decide+kernel
  have:=this ⟨c.toNat,c.toNat_lt⟩ h;simpa using this
 have e: ∀n,(TG (c::t) (n+1)).2≠0:=by
  intro n
  induction n with
  |zero=>simp_all [TG]
  |succ n f=>
   grind [TG]
 grind [CS]
theorem xF {s:List UInt8} (m:s.length<=10000) {a:Nat} (g:a<s.length) (x:YQ):(a:Int)<(jC s a x).1.2.2.1/\(jC s a x).1.2.2.1<=s.length/\(jC s a x).1.2.1=a:=by
 unfold jC;split
 .have h:=Qd s (x.2.1.headD dDl).1 (x.2.1.headD dDl).2.1 bT a (dJ) (by omega);have i:=h.2.2 g;have d:=h.1;unfold Gn
  grind
 .unfold jI;have hd:=aF g;split
  .have:=abt (s.drop a)
   grind
  .split
   .grind
   .split
    .rename_i o
     have d:=zW s a;have i:=D8 (s:=s) (a:=a) (by omega);have p:jq s a≠a:=by
      intro e;have:=WI (s:=s) (f:=a) (by omega);simp_all [byte_at]
     grind
    .split
     .have:=(TV (s.drop a)).1
      grind
     .split
      .rename_i q
       have d:=Uw (s.drop a);rw[aU]at d;have:Ae (s.drop a)<=jT (s.drop a):=by grind [Ae]
       grind
      .rename_i u v _ y _
       have j:=YK (s:=s) (a:=a) (by omega);have:jL (s.drop a) a dZ≠0:=by
        rw[hd,jL];have l:pz dZ.1 (eX s[a])=false:=by
         unfold pz;have:uD (eX s[a])=false:=by
          have z:nY (s[a].toNat:Int)=false:=by
           grind [tN]
          have A:BG (s[a].toNat:Int)=false:=by
           grind [ayf]
          simp_all [byte_at,nY,BG,uD,eX]
         rw[this];rfl
        rw[l];simp
       unfold mP at j ⊢
       grind
end
section
open Option renaming some → a6, none → a7
open Bool renaming false_eq_true → ag, and_true → ay, not_false → aA, not_eq_true → bz
open Int renaming toNat_natCast → aS
open List renaming length_drop → aU
open Nat renaming le_refl → ae
open Go.RowKit
theorem afX {s:List UInt8} (y:s.length<1000000) {a:Nat} (v:a<=s.length) (d f:Int) (g:List Dlm) (j:Bool) (l:Int) (m:Bool) (o p q:Int) (u:Bool): ∀(N i:Nat),s.length-i<N->a<=i->i<=jq s a->
  Om N s d (i:Int) f g j l m o p q u=a6 (.inl ((d,((jq s a:Nat):Int),()),((f,g,j,()),(l,m,()),(o,p,q,u,()),())))
 |0,i,h,_,z=>by omega
 |N+1,i,h,A,z=>by
  have D:=D8 v;rw[Om,U2];by_cases e:i<jq s a
  .have x:i<s.length:=by omega
   rw[bW (fG (by rw[bM];omega)),bW (eF),byte_at x,dM fun h=>aac A e x (UInt8.toNat_inj.1 (by grind))];simp only[aA,aa];rw[dB,show(i:Int)+1=((i+1:Nat):Int) by omega];exact afX y v d f g j l m o p q u N (i+1) (by omega) (by omega) (by omega)
  .have E:i=jq s a:=by omega
   by_cases hl:i<s.length
   .have B:s[i]=10:=by grind [WI]
    rw[bW (fG (by rw[bM];omega)),bW (eF),byte_at hl,B,show bY (((10:UInt8).toNat:Nat):Int) 10=true from rfl];simp_all
   simp_all [gU,bM]
theorem af6 {s:List UInt8} (D:s.length<1000000) {a:Nat} (E:a<=s.length) (d f:Int) (g:List Dlm) (j:Bool) (m:Int) (o:Bool) (p q u:Int) (v:Bool) (x:Int) (y:List Dlm) (z:Bool): ∀(N k:Nat),s.length-(a+k)<N->k<=jT (s.drop a)->
  Oo N s d ((a+k:Nat):Int) f g j m o p q u v x y z=a6 (.inl ((s,d,((a+jT (s.drop a):Nat):Int),()),((f,g,j,()),(m,o,()),(p,q,u,v,()),(x,y,z,()),())))
 |0,k,h,hk=>by omega
 |N+1,k,h,hk=>by
  have J:=Uw (s.drop a);have K:=aU (i:=a) (l:=s);rw[Oo,U3];by_cases e:a+k<s.length
  .have A:k<(s.drop a).length:=by omega
   have B:(s.drop a)[k]=s[a+k]:=by simp
   obtain⟨_,_,c,G,_,I⟩:=wO s[a+k];rw[bW (fG (by rw[bM];omega)),bW (eF),byte_at e,G,bI];simp only[I];by_cases hk2:k<jT (s.drop a)
   .have:=IE isD (s.drop a) k A hk2;rw[B]at this;rw[this,aa,dB,show((a+k:Nat):Int)+1=((a+(k+1):Nat):Int) by omega];exact af6 D E d f g j m o p q u v x y z N (k+1) (by omega) (by omega)
   .obtain rfl:k=jT (s.drop a):=by omega
    have:=Dw isD (s.drop a) A;rw[show isD s[a+jT (s.drop a)]=false by rw[<-B];exact this,ac]
  .obtain rfl:k=jT (s.drop a):=by omega
   rw[dG (gU (by rw[bM];omega))]
theorem atr (w:bV) (d:w.length<=100000):VZ w=a6 (BP w,()):=by
 have e:=(D5 w 0 dZ kV).1;rw[VZ,aLa w d,bI]
 grind [BP,KG,azf]
theorem afo {s:List UInt8} {a b:Nat}:sub s (a:Int) (b:Int)=AL s a b:=by simp[sub,AL]
theorem VJ {s:List UInt8} {a b:Nat}:(AL s a b).length<=s.length:=by
 grind [AL]
theorem atf {s:List UInt8} (d:s.length<=10000) {a:Nat} (e:a<s.length):ZN s (a:Int)=a6 (((mP s a:Nat):Int),()):=by
 rw[aK2 s (by omega) (by omega) (by omega),aS];rfl
theorem aGi {s:List UInt8} (q:s.length<=10000) {a:Nat} (v:a<s.length) (x:YQ) (hp:x.2.2.1=true->x.2.1≠[]) (hl:x.2.1.length<=1000000):
  aBV s a x=a6 ((jC s a x).1,((jC s a x).2,())):=by
 obtain⟨e,f,z,u⟩:=x;cases u;simp only at hp hl;unfold jC
 (rewrite [aBV];delta ab9 ajE ajD Cj)
 cases z with
 |true=>
  obtain⟨d,r,rfl⟩: ∃d r,f=d::r:=by
   cases f with
   |nil=>simp_all
   |cons d r=>simp
  simp only[aa,if_true];rw[bW (eF (by omega) (by simp)),show ed (d::r) ([],(false,())) 0=d from rfl,aG7 (by omega) d (by omega),bI];simp only[List.headD_cons];by_cases hh:(Gn s d.1 d.2.1 a).2=true
  rotate_left
  .rw[bz]at hh;simp only[hh,ag,if_false,show bY 0 0=true from rfl,aa,eU,iD,iL,ay]
  .have A:sub (d::r) 1 (bK (d::r))=r:=by simp[sub,bM]
   have m:iF 1 (bK (d::r))=decide (1<(d::r).length):=by
    unfold iF bK
    grind
   simp only[hh,if_true,show bY 1 0=false from rfl,ac,aa,eU,iD,iL,ay,A];have M:eY (bK (d::r)) 1 (bK (d::r))=true:=fQ (by omega) (by grind [bM]) (by omega);simp_all
 |false=>
  have m:iF 0 (bK f)=decide (0<f.length):=by
   simp_all [iF,bK]
  have B:gy s (a:Int)=true:=eF;simp only[ac,ag,if_false];rw[aBi (by omega) (by omega),bI];simp only;by_cases hb:uB (s.drop a)=0
  .rw[dG (lD),B,aa];by_cases h10:cu s a=10
   .rw[bW (eG h10)];simp only[eU,iD,iL,ay,aa,m,show bY 0 0=true from rfl]
    grind [dB,jI,kK]
   .rw[dG (dM h10)];by_cases h35:cu s a=35
    .rw[bW (eG h35),afX (by omega) (a:=a) (by omega) _ _ _ _ _ _ _ _ _ _ bT a (dJ) (ae _) (zW s a),bI];simp_all [dR,eU,iD,iL,jI,kK]
    .obtain⟨l,N⟩:=aDX (s.drop a);obtain⟨D,o,O⟩:=TV (s.drop a);rw[aU]at D;rw[dG (dM h35),aMV s (by omega) (by omega),bI];simp only;by_cases ho:(CS (s.drop a)).2=0
     .have p:=o.1 ho;rw[p,dG (show iF 0 ((0:Nat):Int)=false from rfl)];have hd:=af6 (s:=s) (by omega) (a:=a) (by omega) (a:Int) 0 f false 0 false 0 0 0 false e f false bT 0 (dJ) (by omega);rw[Nat.add_zero]at hd;rw[hd,bI];simp only[dR];have E:=Uw (s.drop a);rw[aU]at E;have S:=YK (s:=s) (a:=a) (by omega);have U: ∀(j:Ae (s.drop a)=0),(bJ (ZN s (a:Int)) fun g=>
        bif eY (bK s) (a:Int) g.1 then
         bif !bY e 0 then
          bif pO II f f then
           bif gp (sub s (a:Int) g.1) (sub s (a:Int) g.1)then
            bif bY e e then
             bif jM (bY e 5) (bY e 5)then
              bif eu (bU [] f) 24 then
               bif gp (sub s (a:Int) g.1) (sub s (a:Int) g.1)then
                bif bY e e then
                 bif jM (bY e 5) (bY e 5)then
                  bJ (agq (sub s (a:Int) g.1)) fun i=>
                   bif pO II f f then
                    bif gp (sub s (a:Int) g.1) (sub s (a:Int) g.1)then
                     bif bY e e then
                      bif jM (bY e 5) (bY e 5)then
                       bif((gp (sub s (a:Int) g.1) (sub s (a:Int) g.1)&&true)&&(gp i.1 i.1&&true))then
                        bif eu (bU (bU [] f) [(i.1,(bY e 5,()))]) 24 then
                         bif pO II f f then
                          bif gp (sub s (a:Int) g.1) (sub s (a:Int) g.1)then
                           bif bY e e then
                            bif jM (bY e 5) (bY e 5)then
                             bif(gp i.1 i.1&&(jM (bY e 5) (bY e 5)&&true))then
                              bJ (VZ (sub s (a:Int) g.1)) fun G=>
                               bif(bY 0 0&&(jM false false&&true))then
                                a6 (((6:Int),((a:Int),(g.1,(!G.1,())))),(((0:Int),(bU (bU [] f) [(i.1,(bY e 5,()))],(false,()))),()))
                               else a7
                             else a7
                            else a7
                           else a7
                          else a7
                         else a7
                        else a7
                       else a7
                      else a7
                     else a7
                    else a7
                   else a7
                 else a7
                else a7
               else a7
              else a7
             else a7
            else a7
           else a7
          else a7
         else bJ (VZ (sub s (a:Int) g.1)) fun i=>
          bif(bY 0 0&&(pO II f f&&(jM false false&&true)))then
           a6 (((6:Int),((a:Int),(g.1,(!i.1,())))),(((0:Int),(f,(false,()))),()))
          else a7
        else a7)=a6 (((6:Int),((a:Int),(((mP s a:Nat):Int),(!BP (AL s a (mP s a)),())))),(((0:Int),((if e=0 then f else f++[(Gl (AL s a (mP s a)),decide (e=5),())]),(false,()))),())):=by
       intro j;have V:=VJ (s:=s) (a:=a) (b:=mP s a);rw[atf q v,bI];simp only;rw[bW (fQ (by omega) (by omega) (by rw[bM];omega)),afo];by_cases h0:e=0
       .subst h0;rw[show(!bY 0 0)=false from rfl,ac,atr _ (by omega),bI,am rfl];simp_all [eU,iD,iL]
       .rw[dM h0,aq h0];have I:eu (bU [] f) 24=true:=qR (by grind [bU]);have J: ∀y,eu (bU (bU [] f) [y]) 24=true:=fun y=>qR (by grind [bU]);simp only[aA,eU,lN,iD,iL,ay,aa,I];rw[aGa _ (by omega),bI];simp only[eU,lN,iD,iL,ay,aa,J];rw[atr _ (by omega),bI];rfl
      by_cases hg:jT (s.drop a)=0
      .simp_all [Ae,lD,jI,kK]
      .rw[bW (fG)];by_cases h1:a+jT (s.drop a)<s.length
       .have K:((s.drop a).drop (jT (s.drop a))).head?=a6 s[a+jT (s.drop a)]:=by
         simp
        have L:gy s ((a+jT (s.drop a):Nat):Int)=true:=eF;rw[bW (fG (by rw[bM];omega)),L,aa,byte_at h1];by_cases e1:s[a+jT (s.drop a)]=60
        .have j:Ae (s.drop a)=jT (s.drop a):=by unfold Ae;simp_all
         rw[e1,show bY (((60:UInt8).toNat:Nat):Int) 60=true from rfl];simp_all [eU,iD,iL,jI,kK]
        .rw[dG (dM fun h=>e1 (UInt8.toNat_inj.1 (by grind))),aa];by_cases e2:s[a+jT (s.drop a)]=62
         .have j:Ae (s.drop a)=jT (s.drop a):=by unfold Ae;simp_all
          rw[e2,show bY (((62:UInt8).toNat:Nat):Int) 62=true from rfl];simp_all [eU,iD,iL,jI,kK]
         .have j:Ae (s.drop a)=0:=by simp_all [Ae]
          rw[dG (dM fun h=>e2 (UInt8.toNat_inj.1 (by grind)))];simp_all [jI,kK]
       .have K:((s.drop a).drop (jT (s.drop a))).head?=a7:=by
         simp_all
        have j:Ae (s.drop a)=0:=by simp_all [Ae]
        rw[dG (lD (by rw[bM];omega))];simp_all [jI,kK]
     .have p:(CS (s.drop a)).1≠0:=fun h=>ho (o.2 h);rw[bW (fG)];have W:cO .i64 (a:Int) (bK (TD (CS (s.drop a)).1))=((a+(CS (s.drop a)).2:Nat):Int):=by
       grind [bM,dB]
      by_cases h4:(CS (s.drop a)).1=4
      .rw[bW (eG),l,bI];simp_all [eU,iD,iL,jI,kK]
      .rw[dG (dM)];by_cases h5:(CS (s.drop a)).1=5
       .rw[bW (eG),l,bI];simp_all [eU,iD,iL,jI,kK]
       .rw[dG (dM),l,bI];simp_all [eU,iD,iL,jI,kK]
  .rw[bW (fG)];simp_all [eU,iD,iL,jI,kK]
end
section
open Int renaming toNat_natCast → aS
open List renaming getElem_mem → aP, take_of_length_le → bG
open Go.RowKit
def nC (s:bV):Nat->Nat->List Tok->YQ->List Tok×YQ
 |0,_,l,x=>(l,x)
 |n+1,a,l,x=>if a<s.length then nC s n (jC s a x).1.2.2.1.toNat (l++[(jC s a x).1]) (jC s a x).2 else(l,x)
def kJ (s:bV):List Tok×YQ:=nC s (s.length+1) 0 [] (0,[],false,())
def OkX (x:YQ):Prop:=x.2.2.1=true->x.2.1≠[]
theorem Yo (s:bV) (a:Nat) {x:YQ} (h:OkX x):OkX (jC s a x).2/\(jC s a x).2.2.1.length<=x.2.1.length+1:=by
 obtain⟨d,e,f,u⟩:=x;unfold OkX at*;unfold jC;simp only at h ⊢;split
 .grind
 .unfold kK
  grind
theorem Qg {s:List UInt8} (d:s.length<=10000): ∀(n m a:Nat) (l:List Tok) (x:YQ),s.length<n+a->s.length<m+a->nC s n a l x=nC s m a l x
 |0,0,a,l,x,_,_=>rfl
 |0,m+1,a,l,x,h,_=>by rw[nC,nC,aq (by omega)]
 |n+1,0,a,l,x,_,h=>by rw[nC,nC,aq (by omega)]
 |n+1,m+1,a,l,x,f,g=>by
  rw[nC,nC];split
  .rename_i e
   have:=xF d e x;exact Qg d n m _ _ _ (by omega) (by omega)
  .rfl
theorem ag9 {s:List UInt8} (d:s.length<=10000) (f:Int) (g:Bool): ∀(N a:Nat) (l:List Tok) (x:YQ),s.length-a<N->a<=s.length->OkX x->x.2.1.length<=a->l.length<=a->
  Qk N s (a:Int) l x.1 x.2.1 x.2.2.1 f g=some (.inl ((),((nC s N a l x).1,((nC s N a l x).2.1,(nC s N a l x).2.2.1,(nC s N a l x).2.2.2.1,()),(f,g,()),())))
 |0,a,l,x,h,_,_,_,_=>by omega
 |N+1,a,l,x,h,q,i,u,v=>by
  rw[Qk,ae6,nC];by_cases e:a<s.length
  .have y:=xF d e x;have m:=Yo s a i;have o:(x.1,(x.2.1,(x.2.2.1,())))=x:=rfl;rw[bW (fG (by rw[bM];omega)),o,aGi d e x i (by omega),bI,am e];simp only;rw[bW (qR (by grind [bU]))];obtain⟨b,j⟩: ∃b:Nat,(jC s a x).1.2.2.1=(b:Int):=⟨(jC s a x).1.2.2.1.toNat,by omega⟩;have p:=ag9 d f g N b (l++[(jC s a x).1]) (jC s a x).2 (by omega) (by omega) m.1 (by omega) (by grind);rw[j,aS];rw[<-p];rw[<-j];rfl
  simp_all [gU,bM,aq]
theorem aK8 {s:List UInt8} (d:s.length<=10000):aG1 s=some ((kJ s).1,((kJ s).2,())):=by
 have h:=ag9 d 0 false bT 0 [] (0,[],false,()) (dJ) (by omega) (fun h=>by cases h) (by simp) (by simp);have e:nC s bT 0 [] (0,[],false,())=kJ s:=Qg d _ _ _ _ _ (by have:=dJ (n:=s.length) (by omega);omega) (by omega);rw[aG1,show Qk bT s 0 [] 0 [] false 0 false=_ from h,bI,e];rfl
structure OkT (s:bV) (t:Tok):Prop where
 f0:0<=t.2.1
 ft:t.2.1<t.2.2.1
 t1:t.2.2.1<=s.length
theorem anc {s:List UInt8} (g:s.length<=10000): ∀(n a:Nat) (l:List Tok) (x:YQ),OkX x->l.length<=a->a<=s.length->(∀t∈l,OkT s t)->(∀t∈(nC s n a l x).1,OkT s t)/\OkX (nC s n a l x).2/\(nC s n a l x).1.length<=s.length
 |0,a,l,x,d,i,j,h=>⟨h,d,by grind [nC]⟩
 |n+1,a,l,x,d,i,j,h=>by
  rw[nC];split
  .rename_i e
   have o:=xF g e x;exact anc g n _ _ _ (Yo s a d).1 (by grind) (by omega) (fun t m=>by
    rcases List.mem_append.1 m with f|f
    .exact h t f
    .rw[List.mem_singleton.1 f];exact⟨by omega,by omega,by omega⟩)
  grind
theorem NZ {s:List UInt8} (d:s.length<=10000):(∀t∈(kJ s).1,OkT s t)/\OkX (kJ s).2/\(kJ s).1.length<=s.length:=
 anc d _ _ _ _ (fun h=>by cases h) (by simp) (by omega) (fun t e=>by cases e)
def ach (t:Tok):Bool:=decide (t.1=2)||decide (t.1=4)||decide (t.1=5)||decide (t.1=6)
def ag7 (s:bV) (t:Tok):Int×List UInt8×Int×Int×Unit:=(t.1,sub s t.2.1 t.2.2.1,t.2.1,t.2.2.1,())
def iy (s:bV) (l:List Tok):List (Int×List UInt8×Int×Int×Unit):=(l.filter ach).map (ag7 s)
end
end Go.Proofs.YtkichehglnecnaaGreatDoor
