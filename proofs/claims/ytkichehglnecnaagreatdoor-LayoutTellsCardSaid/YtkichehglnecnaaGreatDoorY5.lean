/- Parts of the proof, joined and shortened by a program: the plain machine, the functions as it prints them, and the mathematics over them. -/
import Derived.Test.YtkichehglnecnaaGreatDoorY3
import Derived.Test.YtkichehglnecnaaGreatDoorY4
set_option linter.unusedVariables false
set_option linter.unusedSimpArgs false
set_option maxRecDepth 100000
set_option maxHeartbeats 4000000
namespace Go.Proofs.YtkichehglnecnaaGreatDoor
section
open Option renaming some → a6, none → a7
open Bool renaming not_true → ay, not_false → aB
open List renaming map_cons → ak, mem_cons_of_mem → au, drop_eq_getElem_cons → aF, drop_of_length_le → aK, mem_cons_self → aP
open Nat renaming le_refl → ae, lt_or_ge → az
open Go.RowKit
def O3 (n:Nat):bW:=if n=0 then []else LJ.getD (n-1) []
def aa2 (u t:bW):Bool:=decide (t.take u.length=u)
def rD (t:bW):Nat->Nat
 |0=>0
 |n+1=>if aa2 (O3 (n+1)) t=true/\(O3 (rD t n)).length<(O3 (n+1)).length then n+1 else rD t n
theorem Nc: ∀n:Fin 18,Yr ((n.val:Nat):Int)=a6 (O3 n.val,()):=by decide+kernel
theorem ajs: ∀n:Fin 18,(O3 n.val).length<=3:=by decide+kernel
theorem ab3 (t:bW): ∀n,rD t n<=n
 |0=>ae _
 |n+1=>by rw[rD];split<;>have:=ab3 t n<;>omega
theorem adY (s:bW) (l:s.length<1000000) {a:Nat} (m:a<=s.length): ∀(d N k:Nat),k+d=17->d<N->
  FH N s (a:Int) ((rD (s.drop a) k:Nat):Int) ((k+1:Nat):Int)=a6 (.inl ((((rD (s.drop a) 17:Nat):Int),()),()))
 |d,0,k,_,h=>by omega
 |0,N+1,k,h,_=>by
  have hk:k=17:=by omega
  subst hk;rfl
 |d+1,N+1,k,h,q=>by
  have f:=Nc ⟨k+1,by omega⟩;have u:=ab3 (s.drop a) k;have g:=Nc ⟨rD (s.drop a) k,by omega⟩;have o:=ajs ⟨k+1,by omega⟩;simp only at f g o;rw[FH,P9,bU (nK),f,bD];simp only;rw[dh (a:=((k+1:Nat):Int)) (by omega) (by omega),show((k+1:Nat):Int)+1=((k+1+1:Nat):Int) by omega,bI,bI,iy];have i:=adY s l m d N (k+1) (by omega) (by omega);rw[rD]at i;by_cases e:a+(O3 (k+1)).length<=s.length
  .rw[bU (nK),dh,show(a:Int)+(((O3 (k+1)).length:Nat):Int)=((a+(O3 (k+1)).length:Nat):Int) by omega,bU (fV (by omega) (by omega) (by omega)),Bo];have p:gI ((s.drop a).take (O3 (k+1)).length) (O3 (k+1))=aa2 (O3 (k+1)) (s.drop a):=by
    grind [gI,aa2]
   rw[p];cases j:aa2 (O3 (k+1)) (s.drop a)with
   |false=>simp_all
   |true=>
    rw[j]at i;rw[aa,g,bD];simp only[bI];by_cases e2:(O3 (rD (s.drop a) k)).length<(O3 (k+1)).length
    .rw[bU (eQ)];simp_all
    simp_all [kW]
  .rw[dG (D9)];have j:aa2 (O3 (k+1)) (s.drop a)=false:=by
    unfold aa2
    grind
   simp_all
theorem aHG (s:bW) (d:s.length<1000000) {a:Nat} (e:a<=s.length):acv s a=a6 (((rD (s.drop a) 17:Nat):Int),()):=by
 rw[acv];have h:=adY s d e 17 bJ 0 rfl (dH);rw[show FH bJ s (a:Int) 0 1=_ from h,bD];rfl
def opB:bW:=[38,124,59,60,62,45,40,41]
def yN (c:UInt8):UInt8:=if opB.contains c=true then c else 0
theorem YT: ∀(x u:bW),(∀c∈u,opB.contains c=true)->(x.map yN=u↔x=u)
 |[],[],_=>Iff.rfl
 |[],_::_,_=>by simp
 |_::_,[],_=>by simp
 |c::x,d::u,h=>by
  have f:=h d (aP ..);have i:=YT x u fun c g=>h c (au _ g);rw[ak,List.cons.injEq,List.cons.injEq,i];have:yN c=d↔c=d:=by
   unfold yN;split
   .exact Iff.rfl
   .rename_i g
    constructor
    .intro e;rw[<-e]at f;exact absurd f (by decide)
    grind
  rw[this]
theorem WL: ∀u∈LJ,∀c∈u,opB.contains c=true:=by decide
theorem asT (x:bW):ofF (x.map yN)=ofF x:=by
 unfold ofF;have:LJ.findIdx? (· ==x.map yN)=LJ.findIdx? (· ==x):=by
  have h: ∀l:List bW,(∀u∈l,∀c∈u,opB.contains c=true)->l.findIdx? (· ==x.map yN)=l.findIdx? (· ==x):=by
   intro l
   induction l with
   |nil=>intro _;rfl
   |cons u l d=>
    intro h;have e:(u==x.map yN)=(u==x):=by
     have:=YT x u (h u (aP ..))
     grind
    grind
  exact h LJ WL
 rw[this]
theorem as5 (t:bW):Ci t=Ci ((t.take 3).map yN):=by
 have h: ∀n,n<=3->O8 t n=O8 ((t.take 3).map yN) n:=by
  intro n d
  induction n with
  |zero=>rfl
  |succ n e=>
   rw[O8,O8,<-List.map_take,List.take_take,Nat.min_eq_left d,asT,e (by omega)]
 grind [Ci]
theorem QY (t:bW): ∀n,n<=17->rD t n=rD ((t.take 3).map yN) n
 |0,_=>rfl
 |n+1,i=>by
  have f:=QY t n (by omega);have d:=ajs ⟨n+1,by omega⟩;simp only at d;have e:aa2 (O3 (n+1)) t=aa2 (O3 (n+1)) ((t.take 3).map yN):=by
   unfold aa2;rw[<-List.map_take,List.take_take,Nat.min_eq_left d];have g: ∀c∈O3 (n+1),opB.contains c=true:=by
    have:O3 (n+1)∈LJ:=by
     have h: ∀n:Fin 17,O3 (n.val+1)∈LJ:=by decide+kernel
     exact h ⟨n,by omega⟩
    exact WL _ this
   rw[decide_eq_decide,YT _ _ g]
  rw[rD,rD,e,f]
def nB (n:Fin 9):UInt8:=([0,38,124,59,60,62,45,40,41]:bW).getD n.val 0
def okB (t:bW):Bool:=Ci t==(rD t 17,(O3 (rD t 17)).length)
theorem ok0:okB []=true:=by decide+kernel
theorem ok1: ∀a,okB [nB a]=true:=by decide+kernel
theorem ok2: ∀a b,okB [nB a,nB b]=true:=by decide+kernel
theorem ok3: ∀a b c,okB [nB a,nB b,nB c]=true:=by decide+kernel
theorem F7 (c:UInt8): ∃n,yN c=nB n:=by
 unfold yN;split
 .rename_i h
  have: ∀d∈opB,∃n,d=nB n:=by decide
  simp_all
 .exact⟨0,rfl⟩
theorem ajt (t:bW):Ci t=(rD t 17,(O3 (rD t 17)).length):=by
 rw[as5,QY t 17 (ae _)];have h:okB ((t.take 3).map yN)=true:=by
  have g:(t.take 3).length<=3:=by grind
  rcases h:t.take 3 with _|⟨a,_|⟨b,_|⟨c,_|⟨d,l⟩⟩⟩⟩
  .exact ok0
  .obtain⟨x,e⟩:=F7 a;simp_all [ok1]
  .obtain⟨x,e⟩:=F7 a;obtain⟨y,f⟩:=F7 b;simp_all [ok2]
  .obtain⟨x,e⟩:=F7 a;obtain⟨y,f⟩:=F7 b;obtain⟨z,i⟩:=F7 c;simp_all [ok3]
  simp_all
 exact eq_of_beq h
theorem aHH (s:bW) (d:s.length<1000000) {a:Nat} (e:a<=s.length):acv s a=a6 ((((Ci (s.drop a)).1:Nat):Int),()):=by
 rw[aHG s d e,ajt]
theorem ayJ (t:bW):Yr (((Ci t).1:Nat):Int)=a6 (O3 (Ci t).1,())/\(O3 (Ci t).1).length=(Ci t).2:=by
 have h:=(Px t).2.2;refine⟨Nc ⟨(Ci t).1,by omega⟩, ?_⟩;rw[ajt]
theorem OC {s:List UInt8} (p:s.length<1000000): ∀(N a:Nat),s.length-a<N->a<=s.length->
  ∃o,FD N s (a:Int)=a6 o/\dL o (fun f=>a6 (f.1.1,())) (fun g=>a6 (g.1.1,()))=a6 ((((a+xf (s.drop a):Nat):Int)),())
 |0,a,h,_=>by omega
 |N+1,a,h,z=>by
  rw[FD,P8];by_cases e:a<s.length
  .have hd:=aF e;have q:gm s (a:Int)=true:=dU;rw[bU (eQ (by rw[bI];omega)),q,byte_at e,hd,Jh];simp only[aa];have j: ∀m:Nat,a+m<=s.length->1<=m-> ∃o,FD N s (bZ .i64 (a:Int) (m:Int))=a6 o/\dL o (fun f=>a6 (f.1.1,())) (fun g=>a6 (g.1.1,()))=a6 ((((a+(xf (s.drop (a+m))+m):Nat):Int)),()):=fun m u A=>by
    obtain⟨o,B,D⟩:=OC p N (a+m) (by omega) u
    grind [dh]
   by_cases h32:s[a]=32
   .have:qP (s[a].toNat:Int)=true:=by rw[h32];rfl
    rw[this,am rfl,h32];exact j 1 (by omega) (by omega)
   .have l:bT (s[a].toNat:Int) 32=false:=dR fun h=>h32 (UInt8.toNat_inj.1 (by grind));by_cases h9:s[a]=9
    .have:qP (s[a].toNat:Int)=true:=by rw[h9];rfl
     rw[this,am rfl,l,h9];exact j 1 (by omega) (by omega)
    .have v:bT (s[a].toNat:Int) 9=false:=dR fun h=>h9 (UInt8.toNat_inj.1 (by grind));have x:qP (s[a].toNat:Int)=false:=by
      simp_all [qP,gZ]
     rw[x,aq (by simp),l,v];simp only[ac];have i:Aj (s[a]::s.drop (a+1))=false-> ∃o:PO.den⊕PT.den,a6 (.inl (((a:Int),()),()))=a6 o/\dL o (fun f=>a6 (f.1.1,())) (fun g=>a6 (g.1.1,()))=a6 ((((a+(if Aj (s[a]::s.drop (a+1))=true then xf ((s.drop (a+1)).drop 1)+2 else 0):Nat):Int)),()):=fun h=>by
      rw[h,aq (by simp)];exact⟨_,rfl,rfl⟩
     by_cases h92:s[a]=92
     .rw[h92,show bT (((92:UInt8).toNat:Nat):Int) 92=true from rfl,aa,dh,show(a:Int)+1=((a+1:Nat):Int) by omega];rw[h92]at i;by_cases e1:a+1<s.length
      .have y:=aF e1;rw[bU (eQ (by rw[bI];omega)),bU (dU),byte_at e1];by_cases h10:s[a+1]=10
       .rw[h10,show bT (((10:UInt8).toNat:Nat):Int) 10=true from rfl,aa];have E:Aj (92::s.drop (a+1))=true:=by rw[y,h10];rfl
        grind
       .rw[dG (dR fun h=>h10 (UInt8.toNat_inj.1 (by grind)))]
        grind [Aj]
      .rw[dG (kW (by rw[bI];omega))];refine i ?_;rw[aK (by omega)];rfl
     .rw[dG (dR fun h=>h92 (UInt8.toNat_inj.1 (by grind)))];refine i ?_;cases s.drop (a+1)with
      |nil=>rfl
      |cons d t=>simp[Aj,h92]
  .rw[dG (gK (by rw[bI];omega)),aK (by omega)];exact⟨_,rfl,rfl⟩
theorem avS {s:List UInt8} (d:s.length<1000000) {a:Nat} (e:a<=s.length):ahW s a=a6 ((((a+xf (s.drop a):Nat):Int)),()):=by
 rw[ahW];obtain⟨o,f,g⟩:=OC d bJ a (dH) e
 grind [bD]
theorem Xu {s w:List UInt8} (g:s.length<1000000) {i:Nat} (hi:i<=s.length) (f:Bool): ∀(N k:Nat),i-k<N->k<=i->
  ∃d:Nat,JW N s (i:Int) (k:Int) w f=a6 (.inl ((s,(i:Int),(d:Int),()),((w,f,()),())))/\d<=i/\k<=d/\(s.take i).drop d=if f=true then((s.take i).drop k).dropWhile (· ==9)else(s.take i).drop k
 |0,k,h,_=>by omega
 |N+1,k,h,hk=>by
  rw[JW,P7];cases f with
  |false=>grind
  |true=>
   simp only[aa];by_cases e:k<i
   .have j:k<(s.take i).length:=by simp_all
    have hd:=aF j;rw[List.getElem_take]at hd;rw[bU (eQ),bU (dU),byte_at (by omega)];by_cases h9:s[k]=9
    .rw[h9,show bT (((9:UInt8).toNat:Nat):Int) 9=true from rfl,aa,dh,show(k:Int)+1=((k+1:Nat):Int) by omega];obtain⟨d,l,m,o,p⟩:=Xu g hi true N (k+1) (by omega) (by omega);exact⟨d,l,m,by omega,by simp_all⟩
    .rw[dG (dR fun h=>h9 (UInt8.toNat_inj.1 (by grind)))];exact⟨k,rfl,hk,ae _,by simp_all⟩
   .rw[dG (gK)];refine⟨k,rfl,hk,ae _, ?_⟩;simp_all [aK]
theorem Wv {s:List UInt8} {f i:Nat} (d:f<=i) (h2:i<iV s f) (e:i<s.length):s[i]≠10:=by
 have:=ES (· !=10) (s.drop f) (i-f) (by grind) (by grind [iV]);simp_all
theorem SE {s:List UInt8} {f:Nat} (d:iV s f<s.length):s[iV s f]=10:=by
 have:=Ac (· !=10) (s.drop f) (by grind [iV]);simp_all [iV]
def aHK (s:bW) (h:Nat×Bool):PN.den⊕PS.den:=if h.2=true then .inr ((((h.1:Nat):Int),1,()),())else .inl ((s,()),())
theorem IV {s w:List UInt8} (j:s.length<1000000) (d:Bool): ∀(N f i M:Nat),s.length+1-i<N->f<=i->i<=iV s f->f<=s.length->s.length-f<M->
  vM N s (f:Int) (i:Int) w d=a6 (aHK s (pG s w d M f))
 |0,f,i,M,h,_,_,_,_=>by omega
 |N+1,f,i,0,h,l,z,o,q=>by omega
 |N+1,f,i,M+1,h,l,z,o,q=>by
  have D:=AP o;have u:gI (xF s d f) w=decide (xF s d f=w):=by
   grind [gI]
  have stop: ∀N,0<N->vM N s ((s.length+1:Nat):Int) ((s.length+1:Nat):Int) w d=a6 (.inl ((s,()),()))/\vM N s (f:Int) ((s.length+1:Nat):Int) w d=a6 (.inl ((s,()),())):=fun N E=>by
   obtain⟨n,rfl⟩: ∃n,N=n+1:=⟨N-1,by omega⟩;constructor
   ·(rewrite [vM,Gl];delta qJ;rw[dG (D9 (by rw[bI];omega))])
   ·(rewrite [vM,Gl];delta qJ;rw[dG (D9 (by rw[bI];omega))])
  have v: ∀m,pG s w d m s.length=(s.length,false):=fun m=>by
   cases m with
   |zero=>rfl
   |succ m=>simp_all [pG]
  (rewrite [vM,Gl];delta qJ;rw[bU (nK (by rw[bI];omega))])
  by_cases e:i<iV s f
  .have g:i<s.length:=by omega
   rw[bU (eQ (by rw[bI];omega)),bU (dU),byte_at g,dR fun h=>Wv l e g (UInt8.toNat_inj.1 (by grind))];simp only[aB,aa];rw[dh,show(i:Int)+1=((i+1:Nat):Int) by omega];exact IV j d N f (i+1) (M+1) (by omega) (by omega) (by omega) o q
  .have g:i=iV s f:=by omega
   obtain⟨A,x,G,I,J⟩:=Xu (w:=w) j (i:=i) (by omega) d bJ f (dH) l;have hT:sub s (A:Int) (i:Int)=xF s d f:=by
    simp_all [xF,sub]
   by_cases hl:i<s.length
   .have B:s[i]=10:=by subst g;exact SE hl
    have p:oh s f=i+1:=by unfold oh;grind
    rw[bU (eQ (by rw[bI];omega)),bU (dU),byte_at hl,B,show bT (((10:UInt8).toNat:Nat):Int) 10=true from rfl];simp only[ay,ac];rw[dG (dR (by rw[bI];omega)),x,bD];simp only[dL];rw[bU (fV (by omega) (by omega) (by rw[bI];omega)),hT,u,pG,am (by omega),p];rw[bU (eQ (by rw[bI];omega)),dh,show(i:Int)+1=((i+1:Nat):Int) by omega];by_cases hw:xF s d f=w
    .rw[decide_eq_true hw,aa,am hw];rfl
    .rw[decide_eq_false hw,ac,aq hw];exact IV j d N (i+1) (i+1) M (by omega) (ae _) (xE s _) (by omega) (by omega)
   .have y:i=s.length:=by omega
    rw[dG (kW (by rw[bI];omega)),bU (fO (by rw[bI];omega))];by_cases hfi2:f=i
    .rw[bU (fO),dh,show(i:Int)+1=((s.length+1:Nat):Int) by omega,(stop N (by omega)).2,hfi2,y,v];rfl
    .have p:oh s f=s.length:=by simp_all [oh]
     rw[dG (dR),x,bD];simp only[dL];rw[bU (fV (by omega) (by omega) (by rw[bI];omega)),hT,u,pG,am (by omega),p];rw[dG (kW (by rw[bI];omega))];by_cases hw:xF s d f=w
     .rw[decide_eq_true hw,aa,am hw,y];rfl
     .rw[decide_eq_false hw,ac,aq hw,v,dh,show(i:Int)+1=((s.length+1:Nat):Int) by omega,(stop N (by omega)).1];rfl
theorem MC (s w:bW) (d:Bool): ∀(N a:Nat),s.length-a<N->a<=s.length->(pG s w d N a).1<=s.length/\((pG s w d N a).2=false->(pG s w d N a).1=s.length)/\(a<s.length->a<(pG s w d N a).1)
 |0,a,h,_=>by omega
 |N+1,a,h,j=>by
  rw[pG];by_cases e:a<s.length
  .have g:=adD e;rw[am e];split
   .simp_all
   .have f:=MC s w d N (oh s a) (by omega) g.2;refine⟨f.1,f.2.1,fun _=> ?_⟩;rcases az (oh s a) s.length with i|i
    .omega
    .cases N with
     |zero=>omega
     |succ N=>simp_all [pG,aq]
  grind
theorem aBH {s:List UInt8} (e:s.length<1000000) (d:bW×Bool×Unit) {a:Nat} (f:a<=s.length):ahV s a d=a6 ((((Dp s d.1 d.2.1 a).1:Nat):Int),((if(Dp s d.1 d.2.1 a).2=true then 1 else 0),())):=by
 rw[ahV,IV e d.2.1 bJ a a bJ (dH) (ae _) (xE s a) f (dH),bD]
 grind [MC,dH,aHK,Dp,dL,bI]
theorem aug {s:fQ} (d:iC s):KX s=(gI (so s) [84]||gI (so s) [84,76]):=by
 rw[aum d,akS d]
 match s,d with
 |[],d=>cases d
 |[f],d=>have h:f.1=0:=d;simp[KX,h]
 |[f,g],d=>
  have e:=d.1;have i:g.1=0:=d.2.2.2
  grind [KX]
 |f::g::h::r,d=>
  have e:=d.2.2.2.1;have j:=d.2.2.1
  grind [SH,KX]
end
section
open Option renaming some → a6, none → a7
open Tryz
open Go.RowKit
noncomputable def aF0:Code:=(f211.body).getD .skip
noncomputable def ape:Code:=cA (cA (cB (cA (cB (aF0)))))
def arF:eG:=⟨[0,1,4,6,100002],[],[4],[],[4,5],[]⟩
def Zo:SP:=⟨us [.v Vy,bR,.u,.u,eC,.u,bR] 18,[dg]⟩
def Z5:SP:=⟨us [.u,.u,.u,.u,eC] 20,[dg]⟩
def aaH:SP:=⟨us [.u,.u,.u,.u,eC,bR] 19,[dg]⟩
def Qp {f:Type} (o:(List iZ)->Int->Int->Int->Int->Int->Int->Bool->Option f) (p:Int->Int->Int->Int->Bool->Option f) (q:Int->Int->Int->Int->Int->Bool->Option f) (d:List iZ) (g e h i j l:Int) (m:Bool):Option f:=cond (iq e (bG d)) (cond (gm d e) (cond (bT (eX d (0,(0,(0,(0,(false,()))))) e).2.1 g) (cond (gm d e) (q 1 (eX d (0,(0,(0,(0,(false,()))))) e).1 (eX d (0,(0,(0,(0,(false,()))))) e).2.1 (eX d (0,(0,(0,(0,(false,()))))) e).2.2.1 (eX d (0,(0,(0,(0,(false,()))))) e).2.2.2.1 (eX d (0,(0,(0,(0,(false,()))))) e).2.2.2.2.1) a7)<|o d g (bZ .i64 e 1) h i j l m) a7)<|p h i j l m
def FO:Nat->(List iZ)->Int->Int->Int->Int->Int->Int->Bool->Option (Z5.den⊕aaH.den)
 |0,_,_,_,_,_,_,_,_=>a7
 |n+1,d,e,f,g,h,i,j,l=>Qp (FO n) (fun m o p q s=>a6 (.inl ((),((m,o,p,q,s,()),())))) (fun u v x y z A=>a6 (.inr ((u,()),((v,x,y,z,A,()),())))) d e f g h i j l
def axk (n:Nat) (v:Zo.den):=FO n v.1.1 v.1.2.1 v.1.2.2.1 v.2.1.1 v.2.1.2.1 v.2.1.2.2.1 v.2.1.2.2.2.1 v.2.1.2.2.2.2.1
noncomputable def ai5:dA:=fH arF Zo Z5 aaH (.exit 0) (axk bJ) 6
def acK (e:List iZ) (f:Int):Option (iZ×Int×Unit):=bF (FO bJ e f 0 0 0 0 0 false) fun g=>dL g (fun h=>a6 ((0,(0,(0,(0,(false,()))))),(0,()))) (fun d=>a6 ((d.2.1.1,(d.2.1.2.1,(d.2.1.2.2.1,(d.2.1.2.2.2.1,(d.2.1.2.2.2.2.1,()))))),(d.1.1,())))
def ahi:Sum:=⟨[Vy,di],[(.pair di tyE,false),(.int .i64,false)],fun x=>acK x.1 x.2.1⟩
noncomputable def afd:Env:=iU prog tt 211 [] [(2,arF)] [(2,ai5)]
def aks {d:Type} (a:Zo.den->Option d) (b:Z5.den->Option d) (c:aaH.den->Option d) (v:Zo.den):Option d:=Qp (fun e f g h i j l m=>a ((e,f,g,()),((h,i,j,l,m,()),()))) (fun o p q s u=>b ((),((o,p,q,s,u,()),()))) (fun x y z A B D=>c ((x,()),((y,z,A,B,D,()),()))) v.1.1 v.1.2.1 v.1.2.2.1 v.2.1.1 v.2.1.2.1 v.2.1.2.2.1 v.2.1.2.2.2.1 v.2.1.2.2.2.2.1
theorem ax7:dQ afd 211 ape ai5:=vS (aks) (h2:=by intros;simp only[aks,Qp,cu,cO,bD,bV,cZ])
theorem aCh:dO afd 211 aF0:=pI [ape] (aD (fM (ax7)) aN)
theorem al7:eP afd:=eA f211 aN (aCh)
theorem Xl:dK prog 211 ahi:=sA al7
def fU (d:List GH):=eX d (false,(false,([],()))) (eF .i64 (bG d) 1)
def iY (d:List GH) (e:bW):=gI (bM (fU d).2.2.1 e) (bM (fU d).2.2.1 e)
def qU (d:List GH):=oH Vx (sub d 0 (eF .i64 (bG d) 1)) (sub d 0 (eF .i64 (bG d) 1))
def jG (d:List GH):=oH Vx d d
def vJ (d:List GH) (e:bW):=bM (bM [] (sub d 0 (eF .i64 (bG d) 1))) [(false,(false,((bM (fU d).2.2.1 e),())))]
def lL (d:List GH):=bT (eF .i64 (bG d) 1) (eF .i64 (bG d) 1)
def jH (d:List GH):=gI (fU d).2.2.1 (fU d).2.2.1
def sW (d:List GH):=eU (bG d) 0 (eF .i64 (bG d) 1)
def Yn (d:List GH) (e:bW):Option ((List GH)×Unit):=cond (dV (bM [] d) 24) (cond (dV (bM (bM [] d) [(false,(false,(e,())))]) 24) (a6 ((bM (bM [] d) [(false,(false,(e,())))]),())) a7) a7
def V6 (d:List GH) (e:bW) (f:Bool):Option ((List GH)×Unit):=cond (iq 0 (bG d)) (cond (!f) (cond (gm d (eF .i64 (bG d) 1)) (cond (sW d) (cond (iD (fU d).2.2.1 e) (cond (jG d) (cond (bT (bG d) (bG d)) (cond (lL d) (cond (sW d) (cond (qU d) (cond (jH d) (cond (gI e e) (cond (iD (fU d).2.2.1 e) (cond (iY d e) (cond ((jr false false)&&((jr false false)&&((iY d e)&&true))) (cond (dV (bM [] (sub d 0 (eF .i64 (bG d) 1))) 24) (cond (jG d) (cond (bT (bG d) (bG d)) (cond (lL d) (cond (jH d) (cond (gI e e) (cond (iD (fU d).2.2.1 e) (cond (iY d e) (cond ((jr false false)&&((jr false false)&&((iY d e)&&true))) (cond (jG d) (cond (bT (bG d) (bG d)) (cond (lL d) (cond (sW d) (cond (qU d) (cond (jH d) (cond (gI e e) (cond (iD (fU d).2.2.1 e) (cond (iY d e) (cond (dV (vJ d e) 24) (cond (jG d) (cond (bT (bG d) (bG d)) (cond (lL d) (cond (sW d) (cond (qU d) (cond (jH d) (cond (gI e e) (cond (iD (fU d).2.2.1 e) (cond (iY d e) (cond ((jr false false)&&((jr false false)&&((iY d e)&&true))) (bF (cond (jG d) (cond (bT (bG d) (bG d)) (cond (lL d) (cond (sW d) (cond (qU d) (cond (jH d) (cond (gI e e) (cond (iD (fU d).2.2.1 e) (cond (iY d e) (cond (dV (bM [] (sub d 0 (eF .i64 (bG d) 1))) 24) (cond (jG d) (cond (bT (bG d) (bG d)) (cond (lL d) (cond (jH d) (cond (gI e e) (cond (iD (fU d).2.2.1 e) (cond (iY d e) (cond ((jr false false)&&((jr false false)&&((iY d e)&&true))) (cond (dV (vJ d e) 24) (cond (jG d) (cond (bT (bG d) (bG d)) (cond (lL d) (cond (sW d) (cond (qU d) (cond (jH d) (cond (gI e e) (cond (iD (fU d).2.2.1 e) (cond (iY d e) (cond ((jr false false)&&((jr false false)&&((iY d e)&&true))) (cond ((((jG d)&&((gI e e)&&((jr f f)&&((bT (bG d) (bG d))&&((jG d)&&((bT (bG d) (bG d))&&((bT (bG d) (bG d))&&((jr (iq 0 (bG d)) (iq 0 (bG d)))&&((jr true true)&&((jr f f)&&((jr (!f) (!f))&&((jr (!f) (!f))&&((jG d)&&((bT (bG d) (bG d))&&((lL d)&&(((jr (fU d).1 (fU d).1)&&((jr (fU d).2.1 (fU d).2.1)&&((jH d)&&true)))&&(((jr (fU d).1 (fU d).1)&&((jr (fU d).2.1 (fU d).2.1)&&((jH d)&&true)))&&((jG d)&&((bT (bG d) (bG d))&&((lL d)&&((qU d)&&((jH d)&&((gI e e)&&((iY d e)&&(((jr false false)&&((jr false false)&&((iY d e)&&true)))&&true)))))))))))))))))))))))))&&(((oH Vx [(false,(false,((bM (fU d).2.2.1 e),())))] [(false,(false,((bM (fU d).2.2.1 e),())))])&&((oH Vx (vJ d e) (vJ d e))&&(((jr (fU d).1 (fU d).1)&&((jr (fU d).2.1 (fU d).2.1)&&((jH d)&&true)))&&true)))&&true))&&true) (a6 ()) (a7)) (a7)) (a7)) (a7)) (a7)) (a7)) (a7)) (a7)) (a7)) (a7)) (a7)) (a7)) (a7)) (a7)) (a7)) (a7)) (a7)) (a7)) (a7)) (a7)) (a7)) (a7)) (a7)) (a7)) (a7)) (a7)) (a7)) (a7)) (a7)) (a7)) fun g=>bF (cond (jG d) (cond (bT (bG d) (bG d)) (cond (lL d) (cond (sW d) (cond (qU d) (cond (jH d) (cond (gI e e) (cond (iD (fU d).2.2.1 e) (cond (iY d e) (cond (jG d) (cond (bT (bG d) (bG d)) (cond (lL d) (cond (sW d) (cond (qU d) (cond (jH d) (cond (gI e e) (cond (iD (fU d).2.2.1 e) (cond (iY d e) (cond ((jr false false)&&((jr false false)&&((iY d e)&&true))) (cond (dV (bM [] (sub d 0 (eF .i64 (bG d) 1))) 24) (cond (jG d) (cond (bT (bG d) (bG d)) (cond (lL d) (cond (jH d) (cond (gI e e) (cond (iD (fU d).2.2.1 e) (cond (iY d e) (cond ((jr false false)&&((jr false false)&&((iY d e)&&true))) (cond (dV (vJ d e) 24) (cond (jG d) (cond (bT (bG d) (bG d)) (cond (lL d) (cond (sW d) (cond (qU d) (cond (jH d) (cond (gI e e) (cond (iD (fU d).2.2.1 e) (cond (iY d e) (cond ((jr false false)&&((jr false false)&&((iY d e)&&true))) (cond ((((jG d)&&((gI e e)&&((jr f f)&&((bT (bG d) (bG d))&&((jG d)&&((bT (bG d) (bG d))&&((bT (bG d) (bG d))&&((jr (iq 0 (bG d)) (iq 0 (bG d)))&&((jr true true)&&((jr f f)&&((jr (!f) (!f))&&((jr (!f) (!f))&&((jG d)&&((bT (bG d) (bG d))&&((lL d)&&(((jr (fU d).1 (fU d).1)&&((jr (fU d).2.1 (fU d).2.1)&&((jH d)&&true)))&&(((jr (fU d).1 (fU d).1)&&((jr (fU d).2.1 (fU d).2.1)&&((jH d)&&true)))&&((jG d)&&((bT (bG d) (bG d))&&((lL d)&&((qU d)&&((jH d)&&((gI e e)&&((iY d e)&&(((jr false false)&&((jr false false)&&((iY d e)&&true)))&&true)))))))))))))))))))))))))&&(((oH Vx [(false,(false,((bM (fU d).2.2.1 e),())))] [(false,(false,((bM (fU d).2.2.1 e),())))])&&((oH Vx (vJ d e) (vJ d e))&&(((jr (fU d).1 (fU d).1)&&((jr (fU d).2.1 (fU d).2.1)&&((jH d)&&true)))&&true)))&&true))&&true) (a6 ()) (a7)) (a7)) (a7)) (a7)) (a7)) (a7)) (a7)) (a7)) (a7)) (a7)) (a7)) (a7)) (a7)) (a7)) (a7)) (a7)) (a7)) (a7)) (a7)) (a7)) (a7)) (a7)) (a7)) (a7)) (a7)) (a7)) (a7)) (a7)) (a7)) (a7)) (a7)) (a7)) (a7)) (a7)) (a7)) (a7)) (a7)) (a7)) (a7)) (a7)) fun h=>a6 ((vJ d e),())) a7) a7) a7) a7) a7) a7) a7) a7) a7) a7) a7) a7) a7) a7) a7) a7) a7) a7) a7) a7) a7) a7) a7) a7) a7) a7) a7) a7) a7) a7) a7) a7) a7) a7) a7) a7) a7) a7) a7) a7) a7) a7)<|Yn d e)<|Yn d e
def auT:Sum:=⟨[.list Vx,.str,.bool],[(.list Vx,true)],fun x=>V6 x.1 x.2.1 x.2.2.1⟩
theorem an7:dK prog 212 auT:=qA f212 [] aN
noncomputable def aF1:Code:=(f213.body).getD .skip
noncomputable def apf:Code:=cA (cA (cA (cB (cB (cB (cB (aF1)))))))
def arG:eG:=⟨[0,1,3,9,10,11,100004],[(9,Vx)],[9,10],[],[8],[(8,Vx)]⟩
def Zp:SP:=⟨us [bS,.v Vy,.u,bR,.u,.u,.u,.u,.u,.slc 1800009,bS,bR] 112,[.arr 1800009 Vx]⟩
def Z7:SP:=⟨us [.u,.u,.u,.u,.u,.u,.u,.u,.u,.slc 1800009,bS] 113,[.arr 1800009 Vx]⟩
def aaI:SP:=⟨us [.u,.u,.u,.u,.u,.u,.u,.u,.v (.list Vx)] 115,[]⟩
def wS {f:Type} (e:bW) (d:Int) (g:bW) (h:bW->(List iZ)->Int->bW->Int->(List GH)->Option f) (i:List iZ) (j:Int) (l:(iZ×Int×Unit)) (m:List GH):Option f:=cond (eU (bG e) (bZ .i64 d 1) (bZ .i64 d 2)) (cond (iD g (sub e (bZ .i64 d 1) (bZ .i64 d 2))) (h e i j (bM g (sub e (bZ .i64 d 1) (bZ .i64 d 2))) l.1.2.2.1 m) a7) a7
def Gp {m:Type} (f:(iZ×Int×Unit)) (e:Int) (d g:bW) (i:bW->(List iZ)->Int->bW->Int->(List GH)->Option m) (j:List iZ) (l:Int) (h:List GH):Option m:=cond (bT f.1.1 13) (cond (bT f.1.2.2.1 (bZ .i64 e 2)) (cond (gm d (bZ .i64 e 1)) (cond (bT (bY d (bZ .i64 e 1)) 36) (wS d e g i j l f h)<|cond (bT (bY d (bZ .i64 e 1)) 96) (wS d e g i j l f h)<|cond (bT (bY d (bZ .i64 e 1)) 34) (wS d e g i j l f h)<|cond (bT (bY d (bZ .i64 e 1)) 92) (wS d e g i j l f h)<|cond (!(bT (bY d (bZ .i64 e 1)) 10)) (cond (eU (bG d) e (bZ .i64 e 2)) (cond (iD g (sub d e (bZ .i64 e 2))) (i d j l (bM g (sub d e (bZ .i64 e 2))) f.1.2.2.1 h) a7) a7)<|i d j l g f.1.2.2.1 h) a7)<|i d j l g f.1.2.2.1 h)<|cond (!(gI g [])) (cond (dV (bM h [(false,(true,(g,())))]) 24) (cond (eU (bG d) e f.1.2.2.1) (cond (dV (bM (bM h [(false,(true,(g,())))]) [(true,(true,((sub d e f.1.2.2.1),())))]) 24) (i d j l [] f.1.2.2.1 (bM (bM h [(false,(true,(g,())))]) [(true,(true,((sub d e f.1.2.2.1),())))])) a7) a7) a7)<|cond (eU (bG d) e f.1.2.2.1) (cond (dV (bM h [(true,(true,((sub d e f.1.2.2.1),())))]) 24) (i d j l [] f.1.2.2.1 (bM h [(true,(true,((sub d e f.1.2.2.1),())))])) a7) a7
def Qq {l:Type} (m:bW->(List iZ)->Int->bW->Int->(List GH)->Option l) (o:bW->(List GH)->Option l) (p:(List GH)->Option l) (e:bW) (g:List iZ) (h:Int) (f:bW) (d:Int) (i:List GH):Option l:=cond (iq d h) (bF (acK g d) fun j=>cond (bT j.2.1 0) (cond (eU (bG e) d (bZ .i64 d 1)) (cond (iD f (sub e d (bZ .i64 d 1))) (m e g h (bM f (sub e d (bZ .i64 d 1))) (bZ .i64 d 1) i) a7) a7)<|cond (bT j.1.1 12) (cond (bT j.1.2.2.1 (bZ .i64 d 1)) (cond (eU (bG e) d (bZ .i64 d 1)) (cond (iD f (sub e d (bZ .i64 d 1))) (m e g h (bM f (sub e d (bZ .i64 d 1))) (bZ .i64 d 1) i) a7) a7)<|Gp j d e f m g h i)<|Gp j d e f m g h i)<|o f i
def vO:Nat->bW->(List iZ)->Int->bW->Int->(List GH)->Option (Z7.den⊕aaI.den)
 |0,_,_,_,_,_,_=>a7
 |n+1,d,e,f,g,h,i=>Qq (vO n) (fun j l=>a6 (.inl ((j,()),(l,())))) (fun m=>a6 (.inr ((m,()),()))) d e f g h i
def axl (n:Nat) (v:Zp.den):=bp (vO n) v
noncomputable def ai6:dA:=fH arG Zp Z7 aaI (.exit 0) (axl bJ) 6
def NW (e:bW) (f:List iZ) (g h:Int):Option ((List GH)×Unit):=bF (vO bJ e f h [] g []) fun i=>dL i (fun d=>cond (!(gI d.1.1 [])) (cond (dV (bM d.2.1 [(false,(true,(d.1.1,())))]) 24) (a6 ((bM d.2.1 [(false,(true,(d.1.1,())))]),())) a7)<|cond (bT (bG d.2.1) 0) (cond (dV (bM d.2.1 [(false,(true,(d.1.1,())))]) 24) (a6 ((bM d.2.1 [(false,(true,(d.1.1,())))]),())) a7)<|some (d.2.1,())) (fun j=>a6 (j.1.1,()))
def auU:Sum:=⟨[.str,Vy,di,di],[(.list Vx,false)],fun x=>NW x.1 x.2.1 x.2.2.1 x.2.2.2.1⟩
noncomputable def afe:Env:=iU prog tt 213 [(211,ahi)] [(4,arG)] [(4,ai6)]
def akt {d:Type} (a:Zp.den->Option d) (b:Z7.den->Option d) (c:aaI.den->Option d) (v:Zp.den):Option d:=bp (Qq (fun e f g h i j=>a ((e,f,g,h,i,()),(j,()))) (fun l m=>b ((l,()),(m,()))) (aE c)) v
theorem ax8:dQ afe 213 apf ai6:=vS (akt) (h2:=by intros;simp only[akt,aE,bp,Qq,cu,cO,bD,bV,cZ,wS,Gp])
theorem aCi:dO afe 213 aF1:=pI [apf] (aD (fM (ax8)) aN)
theorem al8:eP afe:=eA f213 (aD Xl aN) (aCi)
theorem an8:dK prog 213 auU:=sA al8
noncomputable def aFW:Code:=(f161.body).getD .skip
noncomputable def ao6:Code:=cA (cA (cA (cB (cB (cB (cB (cB (aFW))))))))
def ary:eG:=⟨[0,3,4,5,6,100005],[(4,.pair (.list .bool) Vx)],[4],[],[2],[(2,Vx)]⟩
def Zg:SP:=⟨us [bS,.u,.u,.v Vy,db,cg,bR] 130,[.arr 1800004 Vx]⟩
def ZU:SP:=⟨us [.u,.u,.u,.u,db] 132,[.arr 1800004 Vx]⟩
def aaA:SP:=⟨us [.u,.u,.v (.list Vx)] 134,[]⟩
def Bg {h:Type} (f:(iZ×Int×Unit)) (e:bW) (d:Int) (i:List GH) (j:Bool) (l:bW->(List iZ)->Bool->Int->(List GH)->Option h) (m:List iZ):Option h:=cond (bT f.2.1 1) (cond (eU (bG e) d f.1.2.2.1) (bF (V6 i (sub e d f.1.2.2.1) j) fun g=>l e m false f.1.2.2.1 g.1) a7)<|cond (eU (bG e) d (bZ .i64 d 1)) (bF (V6 i (sub e d (bZ .i64 d 1)) j) fun g=>l e m false (bZ .i64 d 1) g.1) a7
def Gn {j:Type} (d:(iZ×Int×Unit)) (e:bW) (f:List GH) (h:bW->(List iZ)->Bool->Int->(List GH)->Option j) (g:List iZ) (l:Bool):Option j:=cond (bT d.1.1 13) (cond (bT d.1.2.2.1 (bZ .i64 d.1.2.1 2)) (cond (gm e (bZ .i64 d.1.2.1 1)) (cond (!(bT (bY e (bZ .i64 d.1.2.1 1)) 10)) (cond (eU (bG e) (bZ .i64 d.1.2.1 1) d.1.2.2.1) (cond (dV (bM f [(false,(true,((sub e (bZ .i64 d.1.2.1 1) d.1.2.2.1),())))]) 24) (h e g true d.1.2.2.1 (bM f [(false,(true,((sub e (bZ .i64 d.1.2.1 1) d.1.2.2.1),())))])) a7) a7)<|h e g l d.1.2.2.1 f) a7)<|h e g l d.1.2.2.1 f)<|cond (bT d.1.1 4) (cond d.1.2.2.2.2.1 (cond (eU (bG e) (bZ .i64 d.1.2.1 1) d.1.2.2.1) (cond (dV (bM f [(false,(true,((sub e (bZ .i64 d.1.2.1 1) d.1.2.2.1),())))]) 24) (h e g true d.1.2.2.1 (bM f [(false,(true,((sub e (bZ .i64 d.1.2.1 1) d.1.2.2.1),())))])) a7) a7)<|cond (eU (bG e) (bZ .i64 d.1.2.1 1) (eF .i64 d.1.2.2.1 1)) (cond (dV (bM f [(false,(true,((sub e (bZ .i64 d.1.2.1 1) (eF .i64 d.1.2.2.1 1)),())))]) 24) (h e g true d.1.2.2.1 (bM f [(false,(true,((sub e (bZ .i64 d.1.2.1 1) (eF .i64 d.1.2.2.1 1)),())))])) a7) a7)<|cond (bT d.1.1 5) (cond d.1.2.2.2.2.1 (bF (NW e g (bZ .i64 d.1.2.1 1) d.1.2.2.1) fun i=>cond (dV (bM f i.1) 24) (h e g true d.1.2.2.1 (bM f i.1)) a7)<|bF (NW e g (bZ .i64 d.1.2.1 1) (eF .i64 d.1.2.2.1 1)) fun i=>cond (dV (bM f i.1) 24) (h e g true d.1.2.2.1 (bM f i.1)) a7)<|cond (eU (bG e) d.1.2.1 d.1.2.2.1) (cond (dV (bM f [(true,(false,((sub e d.1.2.1 d.1.2.2.1),())))]) 24) (h e g true d.1.2.2.1 (bM f [(true,(false,((sub e d.1.2.1 d.1.2.2.1),())))])) a7) a7
def Qh {l:Type} (i:bW->(List iZ)->Bool->Int->(List GH)->Option l) (m o:(List GH)->Option l) (e:bW) (f:List iZ) (j:Bool) (g:Int) (h:List GH):Option l:=cond (iq g (bG e)) (bF (acK f g) fun d=>cond (bT d.2.1 0) (Bg d e g h j i f)<|cond (bT d.1.1 14) (Bg d e g h j i f)<|cond (bT d.1.1 12) (cond (bT d.1.2.2.1 (bZ .i64 g 1)) (Bg d e g h j i f)<|Gn d e h i f j)<|Gn d e h i f j)<|m h
def mJ:Nat->bW->(List iZ)->Bool->Int->(List GH)->Option (ZU.den⊕aaA.den)
 |0,_,_,_,_,_=>a7
 |n+1,d,e,f,g,h=>Qh (mJ n) (fun i=>a6 (.inl ((),(i,())))) (fun j=>a6 (.inr ((j,()),()))) d e f g h
def axc (n:Nat) (v:Zg.den):=bq (mJ n) v
noncomputable def aiX:dA:=fH ary Zg ZU aaA (.exit 0) (axc bJ) 6
def ah1 (d:bW):Option ((List GH)×Unit):=bF (aid d) fun e=>bF (mJ bJ d e.1 true 0 []) fun f=>dL f (fun g=>a6 (g.2.1,())) (fun h=>a6 (h.1.1,()))
def auJ:Sum:=⟨[.str],[(.list Vx,false)],fun x=>ah1 x.1⟩
noncomputable def ae6:Env:=iU prog tt 161 [(210,auS),(211,ahi),(212,auT),(213,auU)] [(5,ary)] [(5,aiX)]
def akk {d:Type} (a:Zg.den->Option d) (b:ZU.den->Option d) (c:aaA.den->Option d) (v:Zg.den):Option d:=bq (Qh (fun e f g h i=>a ((e,f,g,h,()),(i,()))) (fun j=>b ((),(j,()))) (aE c)) v
theorem axZ:dQ ae6 161 ao6 aiX:=vS (akk) (h2:=by intros;simp only[akk,aE,bq,Qh,cu,cO,bD,bV,cZ,Bg,Gn])
theorem aB7:dO ae6 161 aFW:=pI [ao6] (aD (fM (axZ)) aN)
theorem alW:eP ae6:=eA f161 (aD an6 (aD Xl (aD an7 (aD an8 aN)))) (aB7)
theorem anP:dK prog 161 auJ:=sA alW
noncomputable def aFV:Code:=(f115.body).getD .skip
noncomputable def ao0:Code:=cA (cA (cB (cA (cB (cB (cB (aFV)))))))
def YF:eG:=⟨[3,4,5,100004],[],[4],[],[2],[]⟩
def Za:SP:=⟨us [.u,.u,.u,.v (.list Vx),bS,bR] 16,[]⟩
def ZN:SP:=⟨us [.u,.u,.u,.u,bS] 17,[]⟩
def aau:SP:=⟨us eb 19,[]⟩
def Qb {f:Type} (h:(List GH)->bW->Int->Option f) (i j:bW->Option f) (d:List GH) (g:bW) (e:Int):Option f:=cond (iq e (bG d)) (cond (gm d e) (cond (iD g (eX d (false,(false,([],()))) e).2.2.1) (h d (bM g (eX d (false,(false,([],()))) e).2.2.1) (bZ .i64 e 1)) a7) a7)<|i g
def FM:Nat->(List GH)->bW->Int->Option (ZN.den⊕aau.den)
 |0,_,_,_=>a7
 |n+1,d,e,f=>Qb (FM n) (fun g=>a6 (.inl ((g,()),()))) (fun h=>a6 (.inr ((h,()),()))) d e f
def aw6 (n:Nat) (v:Za.den):=a8 (FM n) v
noncomputable def aiR:dA:=fH YF Za ZN aau (.exit 0) (aw6 bJ) 6
def acw (d:bW):Option vC:=bF (ah1 d) fun e=>bF (FM bJ e.1 [] 0) fun f=>dL f (fun g=>a6 (g.1.1,())) (fun h=>a6 (h.1.1,()))
def auu:Sum:=⟨[.str],GX,fun x=>acw x.1⟩
noncomputable def ae1:Env:=iU prog tt 115 [(161,auJ)] [(4,YF)] [(4,aiR)]
def ake {d:Type} (a:Za.den->Option d) (b:ZN.den->Option d) (c:aau.den->Option d) (v:Za.den):Option d:=a8 (Qb (fun e f g=>a ((e,f,g,()),())) (aE b) (aE c)) v
theorem axT:dQ ae1 115 ao0 aiR:=vS (ake) (h2:=by intros;simp only[ake,aE,a8,Qb,cu,cO,bD,bV,cZ])
theorem aB1:dO ae1 115 aFV:=pI [ao0] (aD (fM (axT)) aN)
theorem alO:eP ae1:=eA f115 (aD anP aN) (aB1)
theorem anC:dK prog 115 auu:=sA alO
end
section
open Option renaming some → a6, none → a7
open Bool renaming and_true → ax, not_false → aB
open List renaming append_assoc → ag, length_append → ai, nil_append → aA, drop_eq_getElem_cons → aF, length_singleton → aO, append_nil → aV
open Nat renaming le_trans → aG
open Go.RowKit
abbrev Pce:=Bool×Bool×List UInt8×Unit
def dPc:Pce:=(false,(false,([],())))
def jE (l:List Pce):bW:=(l.map (·.2.2.1)).flatten
theorem xW (a b:List Pce):jE (a++b)=jE a++jE b:=by simp[jE]
theorem ET (x y:Bool) (t:bW):jE [(x,(y,(t,())))]=t:=by simp[jE]
theorem VV (L:List jW) (hl:L.length<1000000) (v m f t u:Int) (o:Bool): ∀(N k:Nat),L.length-k<N->k<=L.length->
  FO N L v (k:Int) m f t u o=a6 (match(L.drop k).find? (fun p=>p.2.1==v)with
   |none=>.inl ((),((m,f,t,u,o,()),()))
   |some p=>.inr ((1,()),((p.1,p.2.1,p.2.2.1,p.2.2.2.1,p.2.2.2.2.1,()),())))
 |0,k,h,_=>by omega
 |N+1,k,h,hk=>by
  rw[FO,Qp];by_cases e:k<L.length
  .have d:eX L (0,(0,(0,(0,(false,()))))) (k:Int)=L[k]:=by
    simp_all [eX]
   rw[bU (eQ (by rw[bI];omega)),bU (dU),d,aF e,List.find?_cons];by_cases h1:L[k].2.1=v
   .simp_all [fO,dU]
   .have:(L[k].2.1==v)=false:=by simpa using h1
    rw[dG (dR h1),dh,show(k:Int)+1=((k+1:Nat):Int) by omega,VV L hl v m f t u o N (k+1) (by omega) (by omega),this]
  grind [gK,bI]
theorem aqS (L:List jW) (hl:L.length<1000000) (v:Int):acK L v=a6 (match ve L v with
  |none=>((0,(0,(0,(0,(false,()))))),(0,()))
  |some p=>(p,(1,()))):=by
 rw[acK];have h:=VV L hl v 0 0 0 0 false bJ 0 (dH) (by omega);rw[show FO bJ L v 0 0 0 0 0 false=_ from h,bD,List.drop_zero];unfold ve;cases L.find? (fun p=>p.2.1==v)with
 |none=>rfl
 |some p=>rfl
theorem aHP (s:bW) (a b:Int):(sub s a b).length<=(b-a).toNat:=by
 grind [sub]
theorem ag3 {a b:List UInt8} (h:a.length+b.length<=140737488355328):iD a b=true:=by
 grind [iD,jO]
theorem rF {d:Type} {l:List d} {k:Nat} (h:l.length*k<=140737488355328):dV l k=true:=by
 grind [dV,jO]
theorem rC (l:List Pce) (x:Pce):jE (l++[x])=jE l++x.2.2.1:=by simp[jE]
def zt (s:bW) (L:List jW) (to_:Int):Nat->Int->Bool
 |0,_=>false
 |n+1,at_=>if at_<to_ then(gY s L at_).2.2||zt s L to_ n (gY s L at_).1 else false
def qK (s:bW) (L:List jW) (at_:Int):Bool:=
 match ve L at_ with
 |none=>false
 |some p=>if lone p=true\/p.1=14 then false else if p.1=13 then false else if p.1=4 then false
  else if p.1=5 then zt s L (uU p) s.length (p.2.1+1)else true
def Dy (s:bW) (L:List jW):Nat->Int->Bool
 |0,_=>false
 |n+1,at_=>if at_<s.length then qK s L at_||Dy s L n (stepT s L at_).1 else false
def aJ8 (s:bW):Bool:=Dy s (bQ s) s.length 0
theorem VL (s:bW) (to_:Int): ∀(n m:Nat) (at_:Int),to_-at_<=n->to_-at_<=m->zt s (bQ s) to_ n at_=zt s (bQ s) to_ m at_
 |0,0,_,_,_=>rfl
 |0,m+1,at_,h,_=>by rw[zt,zt,aq (by omega)]
 |n+1,0,at_,_,h=>by rw[zt,zt,aq (by omega)]
 |n+1,m+1,at_,d,e=>by
  rw[zt,zt];split
  .have:= @Lp s at_;rw[VL s to_ n m _ (by omega) (by omega)]
  .rfl
theorem amG (s:bW): ∀(n m:Nat) (at_:Int),(s.length:Int)-at_<=n->(s.length:Int)-at_<=m->Dy s (bQ s) n at_=Dy s (bQ s) m at_
 |0,0,_,_,_=>rfl
 |0,m+1,at_,h,_=>by rw[Dy,Dy,aq (by omega)]
 |n+1,0,at_,_,h=>by rw[Dy,Dy,aq (by omega)]
 |n+1,m+1,at_,d,e=>by
  rw[Dy,Dy];split
  .have:= @Lr s at_;rw[amG s n m _ (by omega) (by omega)]
  .rfl
def exB (l:List Pce):Bool:=l.any (·.1)
theorem ahQ (a b:List Pce):exB (a++b)=(exB a||exB b):=by simp[exB]
theorem LV (s:bW) (m:s.length<=10000) {to_:Int} (u:to_<=s.length): ∀(N:Nat) (at_:Int) (f:bW) (out:List Pce),0<N->to_-at_<N->0<=at_->at_<=s.length->(f.length:Int)<=10000*at_->(out.length:Int)<=2*at_->
  ∃g d,vO N s (bQ s) to_ f at_ out=a6 (.inl ((g,()),(d,())))/\jE d++g=jE out++f++rO s (bQ s) to_ N at_/\(g.length:Int)<=10000*s.length/\(d.length:Int)<=2*s.length/\exB d=(exB out||zt s (bQ s) to_ N at_)
 |0,at_,f,out,K,_,_,_,_,_=>by
  omega
 |N+1,at_,f,out,K,h,v,h1,hh,ho=>by
  (rewrite [vO,Qq];delta Gp wS;rw[rO,zt])
  by_cases e:at_<to_
  .have ab:=CP s;have ad:= @Lp s at_;have ae:=Nq s (bQ s) at_;have af: ∀(c:bW) (i:Int),c=(gY s (bQ s) at_).2.1->i=(gY s (bQ s) at_).1->i<=s.length->(gY s (bQ s) at_).2.2=false->
     ∃g d,vO N s (bQ s) to_ (bM f c) i out=a6 (.inl ((g,()),(d,())))/\jE d++g=jE out++f++((gY s (bQ s) at_).2.1++rO s (bQ s) to_ N (gY s (bQ s) at_).1)/\(g.length:Int)<=10000*s.length/\(d.length:Int)<=2*s.length/\exB d=(exB out||((gY s (bQ s) at_).2.2||zt s (bQ s) to_ N (gY s (bQ s) at_).1)):=by
    intro c i z o q L;subst z o;obtain⟨g,d,A,M,B,D,O⟩:=LV s m u N (gY s (bQ s) at_).1 (bM f (gY s (bQ s) at_).2.1) out (by omega) (by omega) (by omega) q (by grind [bM]) (by omega);refine⟨g,d,A,by grind [bM],B,D,by simp_all⟩
   have push: ∀(l:List Pce) (i:Int),jE l=f++(gY s (bQ s) at_).2.1->l.length<=2->i=(gY s (bQ s) at_).1->i<=s.length->(gY s (bQ s) at_).2.2=true->exB l=true->
     ∃g d,vO N s (bQ s) to_ [] i (out++l)=a6 (.inl ((g,()),(d,())))/\jE d++g=jE out++f++((gY s (bQ s) at_).2.1++rO s (bQ s) to_ N (gY s (bQ s) at_).1)/\(g.length:Int)<=10000*s.length/\(d.length:Int)<=2*s.length/\exB d=(exB out||((gY s (bQ s) at_).2.2||zt s (bQ s) to_ N (gY s (bQ s) at_).1)):=by
    intro l i hl ah o q L aj;subst o;obtain⟨g,d,A,M,B,D,O⟩:=LV s m u N (gY s (bQ s) at_).1 [] (out++l) (by omega) (by omega) (by omega) q (by simp;omega) (by grind)
    grind [xW,ahQ]
   have S: ∀c:bW,c.length<=10000->iD f c=true:=fun c z=>ag3 (by omega);have E: ∀x,dV (bM out [x]) 24=true:=fun x=>rF (by grind [bM]);have U: ∀x y,dV (bM (bM out [x]) [y]) 24=true:=fun x y=>rF (by grind [bM]);have V: ∀a b:Int,(sub s a b).length<=10000:=fun a b=>aG (IY s a b) m;have G:bZ .i64 at_ 1=at_+1:=dh;have W:bZ .i64 at_ 2=at_+2:=dh;have X:eU (bG s) at_ (at_+1)=true:=fV v (by omega) (by rw[bI];omega);rw[bU (eQ e),am e,am e,aqS (bQ s) (by omega),bD];cases hf:ve (bQ s) at_ with
   |none=>
    have j:gY s (bQ s) at_=(at_+1,sub s at_ (at_+1),false):=by unfold gY;rw[hf]
    simp only[G];rw[show bT 0 0=true from rfl,aa,X,aa,S _ (V _ _),aa]
    grind
   |some p=>
    obtain⟨I,Y⟩:=xn hf;have t0:=I.t0;have t1:=I.t1;simp only[G,W];rw[show bT 1 0=false from rfl,ac];by_cases hlone:lone p=true
    .simp_all [gY,lone,fO]
    .have ak: ¬(p.1=12/\p.2.2.1=at_+1):=fun h=>hlone (by simp_all [lone]);have J:eU (bG s) at_ p.2.2.1=true:=fV v (by omega) (by rw[bI];omega);by_cases h13:p.1=13
     .have j:gY s (bQ s) at_=(p.2.2.1,U4 s p,false):=by simp_all [gY]
      rw[dG (dR),bU (fO h13)];by_cases hto2:p.2.2.1=at_+2
      .have Z:gm s (at_+1)=true:=dU;have al:eU (bG s) (at_+1) (at_+2)=true:=fV (by omega) (by omega) (by rw[bI];omega);have an:eU (bG s) at_ (at_+2)=true:=fV (by omega) (by omega) (by rw[bI];omega);have ao:U4 s p=(if bY s (at_+1)=36\/bY s (at_+1)=96\/bY s (at_+1)=34\/bY s (at_+1)=92 then sub s (at_+1) (at_+2)
         else if bY s (at_+1)=10 then []else sub s at_ (at_+2)):=by
        simp_all [U4,nT]
       rw[bU (fO hto2),Z,aa];by_cases b1:bY s (at_+1)=36
       .simp_all [fO]
       .rw[dG (dR b1)];by_cases b2:bY s (at_+1)=96
        .simp_all [fO]
        .rw[dG (dR b2)];by_cases b3:bY s (at_+1)=34
         .simp_all [fO]
         .rw[dG (dR b3)];by_cases b4:bY s (at_+1)=92
          .simp_all [fO]
          .rw[dG (dR b4)]
           grind [fO,bM,dR]
      simp_all [dR,U4,bM]
     .have j:gY s (bQ s) at_=(p.2.2.1,nT s p,true):=by simp_all [gY]
      have au:nT s p=sub s at_ p.2.2.1:=by unfold nT;rw[Y]
      have av: ∃g d,(bif !gI f []then
        bif dV (bM out [(false,(true,(f,())))]) 24 then
         bif eU (bG s) at_ p.2.2.1 then
          bif dV (bM (bM out [(false,(true,(f,())))]) [(true,(true,(sub s at_ p.2.2.1,())))]) 24 then
           vO N s (bQ s) to_ [] p.2.2.1 (bM (bM out [(false,(true,(f,())))]) [(true,(true,(sub s at_ p.2.2.1,())))])
          else a7
         else a7
        else a7
       else bif eU (bG s) at_ p.2.2.1 then
        bif dV (bM out [(true,(true,(sub s at_ p.2.2.1,())))]) 24 then
         vO N s (bQ s) to_ [] p.2.2.1 (bM out [(true,(true,(sub s at_ p.2.2.1,())))])
        else a7
       else a7)=a6 (.inl ((g,()),(d,())))/\jE d++g=jE out++f++((gY s (bQ s) at_).2.1++rO s (bQ s) to_ N (gY s (bQ s) at_).1)/\(g.length:Int)<=10000*s.length/\(d.length:Int)<=2*s.length/\exB d=(exB out||((gY s (bQ s) at_).2.2||zt s (bQ s) to_ N (gY s (bQ s) at_).1)):=by
       by_cases he:f=[]
       .have:=push [(true,(true,(sub s at_ p.2.2.1,())))] p.2.2.1 (by simp_all [ET]) (by simp) (by rw[j]) (by omega) (by rw[j]) (by simp[exB]);rw[show(!gI f [])=false by rw[he];rfl,ac,J,aa,E,aa];exact this
       .have:=push ([(false,(true,(f,())))]++[(true,(true,(sub s at_ p.2.2.1,())))]) p.2.2.1 (by grind [xW,ET]) (by simp) (by rw[j]) (by omega) (by rw[j]) (by simp[exB]);rw[show(!gI f [])=true by simp_all [gI],aa,E,aa,J,aa,U,aa];rw[<-ag]at this;exact this
      grind [dR]
  .rw[dG (gK e),aq e,aq e]
   grind
theorem alq (s:bW) (h:s.length<=10000) {from_ to_:Int} (i:0<=from_) (j:from_<=s.length) (l:to_<=s.length):
  ∃out,NW s (bQ s) from_ to_=a6 (out,())/\jE out=rO s (bQ s) to_ s.length from_/\out.length<=2*s.length+1/\exB out=zt s (bQ s) to_ s.length from_:=by
 obtain⟨d,out,m,e,q,u,f⟩:=LV s h l bJ from_ [] [] (by unfold bJ;omega) (by have:=dH (n:=s.length) (by omega);omega) i j (by simp;omega) (by simp;omega);have o:rO s (bQ s) to_ bJ from_=rO s (bQ s) to_ s.length from_:=LU s to_ _ _ _ (by have:=dH (n:=s.length) (by omega);omega) (by omega);have p:zt s (bQ s) to_ bJ from_=zt s (bQ s) to_ s.length from_:=VL s to_ _ _ _ (by have:=dH (n:=s.length) (by omega);omega) (by omega);rw[p]at f;have f:exB out=zt s (bQ s) to_ s.length from_:=by simpa [exB] using f
 rw[o,show jE []=([]:bW) from rfl,aA,aA]at e;rw[NW,m,bD];simp only[dL];have g: ∀x,dV (bM out [x]) 24=true:=fun x=>rF (by grind [bM]);by_cases he:d=[]
 .rw[show(!gI d [])=false by rw[he];rfl,ac];subst he;rw[aV]at e;by_cases ho:out.length=0
  .rw[bU (fO (by rw[bI];omega)),g,aa];exact⟨_,rfl,by grind [bM,xW,ET],by simp_all [bM],by grind [bM,exB]⟩
  .rw[dG (dR (by rw[bI];omega))]
   grind
 .rw[show(!gI d [])=true by simp_all [gI],aa,g,aa];exact⟨_,rfl,by unfold bM;rw[xW,ET,e],by grind [bM],by grind [bM,exB]⟩
theorem ang (out:List Pce) (t:bW) (e:Bool) (f:out.length<1000000000) (g:(jE out).length+t.length<=100000000000000) (h:e=false-> ∃l x,out=l++[x]/\x.1=false):
  ∃d,V6 out t e=a6 (d,())/\jE d=jE out++t/\d.length<=out.length+1/\exB d=exB out/\ ∃l x,d=l++[x]/\x.1=false:=by
 have one: ∃d,(bif dV (bM [] out) 24 then bif dV (bM (bM [] out) [(false,(false,(t,())))]) 24 then a6 ((bM (bM [] out) [(false,(false,(t,())))]),())else a7 else a7)=a6 (d,())/\jE d=jE out++t/\d.length<=out.length+1/\exB d=exB out/\ ∃l x,d=l++[x]/\x.1=false:=by
  rw[bU (rF (by grind [bM])),bU (rF (by grind [bM]))];exact⟨_,rfl,by simp_all [bM,xW,ET],by unfold bM;simp,by simp[bM,exB],out,_,rfl,rfl⟩
 (rewrite [V6];delta Yn sW jH lL vJ jG qU iY fU)
 cases e with
 |true=>
  simp_all
 |false=>
  obtain⟨l,x,rfl,i⟩:=h rfl;rw[rC,ai]at g;rw[ai,aO]at f;have j:eF .i64 (bG (l++[x])) 1=(l.length:Int):=by grind [bI,iy]
  have m:eX (l++[x]) (false,(false,([],()))) (l.length:Int)=x:=AB rfl;have o:gm (l++[x]) (l.length:Int)=true:=dU (by omega) (by grind);have p:eU (bG (l++[x])) 0 (l.length:Int)=true:=fV (by omega) (by omega) (by grind [bI]);have q:sub (l++[x]) 0 (l.length:Int)=l:=by simp[sub]
  have s:iD x.2.2.1 t=true:=ag3 (by omega);have u:dV (bM [] l) 24=true:=rF (by grind [bM]);have v: ∀y,dV (bM (bM [] l) [y]) 24=true:=fun y=>rF (by grind [bM]);rw[bU (eQ (by simp_all [bI]))];simp only[aB,aa,j,m,o,p,q,s,u,v,eH,pg,iG,gU,ax,bD];exact⟨_,rfl,by grind [bM,rC],by unfold bM;simp,by simp[bM,exB,i],l,_,rfl,rfl⟩
theorem KI (s:bW) (z:s.length<=10000): ∀(N:Nat) (at_:Int) (j:Bool) (out:List Pce),(s.length:Int)-at_<N->0<=at_->at_<=s.length->((jE out).length:Int)<=100010000*at_->(out.length:Int)<=30000*at_->(j=false-> ∃l x,out=l++[x]/\x.1=false)->
  ∃d,mJ N s (bQ s) j at_ out=a6 (.inl ((),(d,())))/\jE d=jE out++lC s (bQ s) N at_/\(d.length:Int)<=30000*s.length/\exB d=(exB out||Dy s (bQ s) N at_)
 |0,at_,j,out,h,_,_,_,_,_=>by omega
 |N+1,at_,j,out,h,G,J,ht,ho,I=>by
  (rewrite [mJ,Qh];delta Gn Bg;rw[lC,Dy])
  by_cases e:at_<s.length
  .have af:=CP s;have ah:= @Lr s at_;have K:=aep (s:=s) e;have aj:(stepT s (bQ s) at_).2.length<=100010000:=by
    have J:=Nr s (bQ s) at_;have h2:s.length*s.length<=10000*10000:=Nat.mul_le_mul z z;omega
   have go: ∀(l:List Pce) (f:Bool),jE l=jE out++(stepT s (bQ s) at_).2->l.length<=out.length+20002->(f=false-> ∃L x,l=L++[x]/\x.1=false)->exB l=(exB out||qK s (bQ s) at_)->
     ∃d,mJ N s (bQ s) f (stepT s (bQ s) at_).1 l=a6 (.inl ((),(d,())))/\jE d=jE out++((stepT s (bQ s) at_).2++lC s (bQ s) N (stepT s (bQ s) at_).1)/\(d.length:Int)<=30000*s.length/\exB d=(exB out||(qK s (bQ s) at_||Dy s (bQ s) N (stepT s (bQ s) at_).1)):=by
    intro l f hl hn v hx;obtain⟨d,r1,r2,r3,r4⟩:=KI s z N (stepT s (bQ s) at_).1 f l (by omega) (by omega) K (by grind) (by omega) v
    grind
   have ak: ∀(t:bW) (g:Int),t=(stepT s (bQ s) at_).2->g=(stepT s (bQ s) at_).1->qK s (bQ s) at_=false->
     ∃d,(bF (V6 out t j) fun i=>mJ N s (bQ s) false g i.1)=a6 (.inl ((),(d,())))/\jE d=jE out++((stepT s (bQ s) at_).2++lC s (bQ s) N (stepT s (bQ s) at_).1)/\(d.length:Int)<=30000*s.length/\exB d=(exB out||(qK s (bQ s) at_||Dy s (bQ s) N (stepT s (bQ s) at_).1)):=by
    intro t g A y m;subst A y;obtain⟨o,M,O,p3,p4,S⟩:=ang out (stepT s (bQ s) at_).2 j (by omega) (by omega) I;rw[M,bD];exact go o false O (by omega) (fun _=>S) (by simp_all)
   have U: ∀(x:Pce) (g:Int),x.2.2.1=(stepT s (bQ s) at_).2->g=(stepT s (bQ s) at_).1->x.1=qK s (bQ s) at_->
     ∃d,(bif dV (bM out [x]) 24 then mJ N s (bQ s) true g (bM out [x])else a7)=a6 (.inl ((),(d,())))/\jE d=jE out++((stepT s (bQ s) at_).2++lC s (bQ s) N (stepT s (bQ s) at_).1)/\(d.length:Int)<=30000*s.length/\exB d=(exB out||(qK s (bQ s) at_||Dy s (bQ s) N (stepT s (bQ s) at_).1)):=by
    intro x g A y m;subst y;rw[bU (rF (by grind [bM]))];simp_all [bM,rC,exB]
   have al: ∀(g:Int),(stepT s (bQ s) at_).2=[]->g=(stepT s (bQ s) at_).1->qK s (bQ s) at_=false->
     ∃d,mJ N s (bQ s) j g out=a6 (.inl ((),(d,())))/\jE d=jE out++((stepT s (bQ s) at_).2++lC s (bQ s) N (stepT s (bQ s) at_).1)/\(d.length:Int)<=30000*s.length/\exB d=(exB out||(qK s (bQ s) at_||Dy s (bQ s) N (stepT s (bQ s) at_).1)):=by
    intro g A y m;subst y;exact go out j (by simp_all) (by omega) I (by simp_all)
   have B:bZ .i64 at_ 1=at_+1:=dh;have V:eU (bG s) at_ (at_+1)=true:=fV G (by omega) (by rw[bI];omega);rw[bU (eQ (b:=bG s) e),am e,am e,aqS (bQ s) (by omega),bD];cases v:ve (bQ s) at_ with
   |none=>
    have q:stepT s (bQ s) at_=(at_+1,sub s at_ (at_+1)):=by unfold stepT;rw[v]
    simp only[B];have m:qK s (bQ s) at_=false:=by unfold qK;rw[v]
    rw[show bT 0 0=true from rfl,aa,show bT 0 1=false from rfl,ac,V,aa];simp_all
   |some p=>
    obtain⟨D,E⟩:=xn v;have t0:=D.t0;have t1:=D.t1;have an:nT s p=sub s at_ p.2.2.1:=by unfold nT;rw[E]
    have ao:eU (bG s) at_ p.2.2.1=true:=fV G (by omega) (by rw[bI];omega);have W:bZ .i64 p.2.1 1=at_+1:=by rw[E];exact B
    have X:bZ .i64 p.2.1 2=at_+2:=by grind [dh]
    have Y:eF .i64 p.2.2.1 1=p.2.2.1-1:=iy;simp only[B,W,X,Y];rw[show bT 1 0=false from rfl,ac,show bT 1 1=true from rfl];simp only[aa];by_cases hpl':lone p=true\/p.1=14
    .have q:stepT s (bQ s) at_=(p.2.2.1,nT s p):=by simp_all [stepT]
     have m:qK s (bQ s) at_=false:=by simp_all [qK]
     grind [fO,lone]
    .have au: ¬(p.1=12/\p.2.2.1=at_+1):=fun h=>hpl' (.inl (by simp_all [lone]));have Z:p.1≠14:=fun h=>hpl' (.inr h);have ab:qK s (bQ s) at_=(if p.1=13 then false else if p.1=4 then false else if p.1=5 then zt s (bQ s) (uU p) s.length (p.2.1+1)else true):=by
      unfold qK;simp_all
     rw[dG (dR Z)];by_cases h13:p.1=13
     .have q:stepT s (bQ s) at_=(p.2.2.1,U5 s p):=by simp_all [stepT]
      have m:qK s (bQ s) at_=false:=by rw[ab,am h13]
      rw[dG (dR),bU (fO h13)];by_cases hto2:p.2.2.1=at_+2
      .rw[bU (fO hto2),bU (dU)];by_cases b5:bY s (at_+1)=10
       .simp_all [fO,U5]
       .rw[dR b5];simp only[aB,aa];rw[bU (fV (by omega) (by omega) (by rw[bI];omega))];simp_all [U5]
      simp_all [dR,U5]
     .have av: ∃d,(bif bT p.1 4 then
        bif p.2.2.2.2.1 then
         bif eU (bG s) (at_+1) p.2.2.1 then
          bif dV (bM out [(false,(true,(sub s (at_+1) p.2.2.1,())))]) 24 then
           mJ N s (bQ s) true p.2.2.1 (bM out [(false,(true,(sub s (at_+1) p.2.2.1,())))])
          else a7
         else a7
        else bif eU (bG s) (at_+1) (p.2.2.1-1)then
         bif dV (bM out [(false,(true,(sub s (at_+1) (p.2.2.1-1),())))]) 24 then
          mJ N s (bQ s) true p.2.2.1 (bM out [(false,(true,(sub s (at_+1) (p.2.2.1-1),())))])
         else a7
        else a7
       else bif bT p.1 5 then
        bif p.2.2.2.2.1 then
         bF (NW s (bQ s) (at_+1) p.2.2.1) fun i=>
          bif dV (bM out i.1) 24 then mJ N s (bQ s) true p.2.2.1 (bM out i.1)else a7
        else
         bF (NW s (bQ s) (at_+1) (p.2.2.1-1)) fun i=>
          bif dV (bM out i.1) 24 then mJ N s (bQ s) true p.2.2.1 (bM out i.1)else a7
       else bif eU (bG s) p.2.1 p.2.2.1 then
        bif dV (bM out [(true,(false,(sub s p.2.1 p.2.2.1,())))]) 24 then
         mJ N s (bQ s) true p.2.2.1 (bM out [(true,(false,(sub s p.2.1 p.2.2.1,())))])
        else a7
       else a7)=a6 (.inl ((),(d,())))/\jE d=jE out++((stepT s (bQ s) at_).2++lC s (bQ s) N (stepT s (bQ s) at_).1)/\(d.length:Int)<=30000*s.length/\exB d=(exB out||(qK s (bQ s) at_||Dy s (bQ s) N (stepT s (bQ s) at_).1)):=by
       by_cases h4:p.1=4
       .have q:stepT s (bQ s) at_=(p.2.2.1,sub s (p.2.1+1) (uU p)):=by simp_all [stepT]
        have m:qK s (bQ s) at_=false:=by simp_all
        rw[bU (fO h4)];cases hop:p.2.2.2.2.1 with
        |true=>
         rw[aa,bU (fV (by omega) (by omega) (by rw[bI];omega))];exact U _ _ (by rw[q,E];unfold uU;rw[hop,am rfl]) (by rw[q]) (by rw[m])
        |false=>
         have:=D.sh hop (by omega);rw[ac,bU (fV (by omega) (by omega) (by rw[bI];omega))];simp_all [uU]
       .rw[dG (dR h4)];by_cases h5:p.1=5
        .have q:stepT s (bQ s) at_=(p.2.2.1,rO s (bQ s) (uU p) s.length (p.2.1+1)):=by simp_all [stepT]
         rw[bU (fO h5)];have ad: ∀u:Int,u=uU p->u<=s.length-> ∃d,(bF (NW s (bQ s) (at_+1) u) fun i=>
           bif dV (bM out i.1) 24 then mJ N s (bQ s) true p.2.2.1 (bM out i.1)else a7)=a6 (.inl ((),(d,())))/\jE d=jE out++((stepT s (bQ s) at_).2++lC s (bQ s) N (stepT s (bQ s) at_).1)/\(d.length:Int)<=30000*s.length/\exB d=(exB out||(qK s (bQ s) at_||Dy s (bQ s) N (stepT s (bQ s) at_).1)):=by
          intro u aw ae;have m:qK s (bQ s) at_=zt s (bQ s) (uU p) s.length (p.2.1+1):=by simp_all
          obtain⟨o,d1,d2,d3,d4⟩:=alq s z (from_:=at_+1) (to_:=u) (by omega) (by omega) ae;rw[d1,bD];simp only;rw[bU (rF (by grind [bM]))];have:=go (bM out o) true (by simp_all [bM,xW]) (by grind [bM]) (fun h=>by cases h) (by simp_all [bM,ahQ])
          grind
         cases hop:p.2.2.2.2.1 with
         |true=>rw[aa];exact ad _ (by unfold uU;rw[hop,am rfl]) (by omega)
         |false=>rw[ac];grind [uU]
        .have q:stepT s (bQ s) at_=(p.2.2.1,nT s p):=by simp_all [stepT]
         simp_all [dR]
      grind [dR]
  .rw[dG (gK (by rw[bI];omega)),aq e,aq e]
   grind
theorem TY (l:List Pce) (hl:l.length<1000000000) (d:(jE l).length<=100000000000000): ∀(N k:Nat),l.length-k<N->k<=l.length->
  FM N l (jE (l.take k)) (k:Int)=a6 (.inl ((jE l,()),()))
 |0,k,h,_=>by omega
 |N+1,k,h,hk=>by
  rw[FM,Qb];by_cases e:k<l.length
  .have f:eX l (false,(false,([],()))) (k:Int)=l[k]:=by
    simp_all [eX]
   have g:jE (l.take (k+1))=jE (l.take k)++l[k].2.2.1:=by grind [List.take_add_one,rC]
   have i:(jE (l.take (k+1))).length<=(jE l).length:=by
    grind [List.take_append_drop,xW]
   rw[bU (eQ (by rw[bI];omega)),bU (dU),f,bU (ag3 (by grind)),dh,show(k:Int)+1=((k+1:Nat):Int) by omega,
    show bM (jE (l.take k)) l[k].2.2.1=jE (l.take (k+1)) from g.symm]
   exact TY l hl d N (k+1) (by omega) (by omega)
  grind [gK,bI]
theorem alx (s:bW) (d:s.length<=10000):(Jf s).length<=1000100000000:=by
 have h:=VF s (bQ s) s.length 0;have e:s.length*s.length<=10000*10000:=Nat.mul_le_mul d d;have f:s.length*(s.length*s.length+s.length)<=10000*(10000*10000+10000):=Nat.mul_le_mul d (by omega);unfold Jf;omega
theorem aAN (s:bW) (d:s.length<=10000):acw s=a6 (Jf s,()):=by
 obtain⟨out,f,g,m,_⟩:=KI s d bJ 0 true [] (by have:=dH (n:=s.length) (by omega);omega) (by omega) (by omega) (by simp[jE]) (by simp) (fun h=>by cases h);have i:lC s (bQ s) bJ 0=Jf s:=Ie s _ _ _ (by have:=dH (n:=s.length) (by omega);omega) (by omega);have j:ah1 s=a6 (out,()):=by
  rw[ah1,aIN s (by omega),bD];simp only;rw[f,bD];rfl
 have e:jE out=Jf s:=by rw[g,i];rfl
 have o:=alx s d;rw[acw,j,bD];simp only;have l:=TY out (by omega) (by rw[e];omega) bJ 0 (dH) (by omega);rw[show FM bJ out [] 0=_ from l,bD,<-e];rfl
end
section
open Option renaming some → a6, none → a7
open Tryz
open Go.RowKit
noncomputable def b69:Code:=(f69.body).getD .skip
noncomputable def apv:Code:=cA (cA (cA (cB (cA (cB (cA (cB (cB (cB (cB (cB (b69))))))))))))
noncomputable def apw:Code:=cA (cA (cA (cB (cB (cB (cB (cB (cB (cB (cB (b69)))))))))))
def arT:eG:=⟨[0,1,6,7,11,12,100014],[],[1,6,7,11,12],[],[6,7],[]⟩
def arU:eG:=⟨[0,1,5,6,7,11,14,100023],[],[0,1,5,6,7,11,14],[],[6,7],[]⟩
def ZG:SP:=⟨us [bS,bR,.u,.u,.u,.u,dy,.ptr 1000007 0,.u,.u,.u,.ptr 1000011 0,bR] 173,cU⟩
def aao:SP:=⟨us [.u,bR,.u,.u,.u,.u,dy,.ptr 1000007 0,.u,.u,.u,.ptr 1000011 0,bR] 173,cU⟩
def aaY:SP:=⟨us [] 186,[]⟩
def QD {e:Type} (v:bW->Int->Int->Int->GV->Bool->Int->Bool->Int->Int->Int->Bool->Option e) (u:Int->Int->Int->GV->Bool->Int->Bool->Int->Int->Int->Bool->Option e) (x:Option e) (f:bW) (g d h:Int) (i:GV) (j:Bool) (l:Int) (m:Bool) (o p q:Int) (s:Bool):Option e:=cond (iq d (bG f)) (cond (gm f d) (cond (!(bT (bY f d) 10)) (v f g (bZ .i64 d 1) h i j l m o p q s)<|u g d h i j l m o p q s) a7)<|u g d h i j l m o p q s
def Ko:Nat->bW->Int->Int->Int->GV->Bool->Int->Bool->Int->Int->Int->Bool->Option (aao.den⊕aaY.den)
 |0,_,_,_,_,_,_,_,_,_,_,_,_=>a7
 |n+1,d,e,f,g,h,i,j,l,m,o,p,q=>QD (Ko n) (fun s u v x y z A B D E G=>a6 (.inl ((s,u,()),((v,x,y,()),(z,A,()),(B,D,E,G,()),())))) (a6 (.inr ((),()))) d e f g h i j l m o p q
def axA (n:Nat) (v:ZG.den):=br (Ko n) v
noncomputable def ajl:dA:=fH arT ZG aao aaY (.exit 0) (axA bJ) 6
def ZH:SP:=⟨cM,cI⟩
def KF:SP:=⟨cM,cI⟩
def aaZ:SP:=⟨us [] 186,[]⟩
def QE {f:Type} (z y:bW->Int->Int->Int->GV->Bool->Int->Bool->Int->Int->Int->Bool->Int->GV->Bool->Option f) (B:Option f) (d:bW) (g e h:Int) (i:GV) (j:Bool) (l:Int) (m:Bool) (o p q:Int) (s:Bool) (u:Int) (v:GV) (x:Bool):Option f:=cond (iq e (bG d)) (cond (gm d e) (bF (JE (bY d e)) fun A=>cond (bT A.1 6) (z d g (bZ .i64 e 1) h i j l m o p q s u v x)<|y d g e h i j l m o p q s u v x) a7)<|y d g e h i j l m o p q s u v x
def Kq:Nat->bW->Int->Int->Int->GV->Bool->Int->Bool->Int->Int->Int->Bool->Int->GV->Bool->Option (KF.den⊕aaZ.den)
 |0,_,_,_,_,_,_,_,_,_,_,_,_,_,_,_=>a7
 |n+1,d,e,f,g,h,i,j,l,m,o,p,q,s,u,v=>QE (Kq n) (fun x y z A B D E G I J K L M N O=>a6 (.inl ((x,y,z,()),((A,B,D,()),(E,G,()),(I,J,K,L,()),(M,N,O,()),())))) (a6 (.inr ((),()))) d e f g h i j l m o p q s u v
def axB (n:Nat) (v:ZH.den):=bs (Kq n) v
noncomputable def ajm:dA:=fH arU ZH KF aaZ (.exit 2) (axB bJ) 12
def zu (d:Int×GV×uO):=oH EU d.2.1 d.2.1
def afA (d:lW) (e:Int×GV×uO) (f:Int):Option taV:=bF (Yr d.1) fun g=>cond ((bT d.1 d.1)&&((zu e)&&((jr false false)&&true))) (a6 ((4,(f,((bZ .i64 f (bG g.1)),(false,())))),((d.1,(e.2.1,(false,()))),()))) a7
def afB (d:KF.den):Option taV:=cond ((bT d.2.1.1 d.2.1.1)&&((oH EU d.2.1.2.1 d.2.1.2.1)&&((jr d.2.1.2.2.1 d.2.1.2.2.1)&&true))) (a6 ((5,(d.1.2.1,(d.1.2.2.1,(false,())))),((d.2.1.1,(d.2.1.2.1,(d.2.1.2.2.1,()))),()))) a7
def Yq (d:KF.den):Option taV:=bF (VW d.1.1 d.1.2.1) fun e=>cond (eU (bG d.1.1) d.1.2.1 e.1) (cond (!(bT d.2.2.2.2.1.1 0)) (cond (oH EU d.2.2.2.2.1.2.1 d.2.2.2.2.1.2.1) (cond (gI (sub d.1.1 d.1.2.1 e.1) (sub d.1.1 d.1.2.1 e.1)) (cond (bT d.2.2.2.2.1.1 d.2.2.2.2.1.1) (cond (jr (bT d.2.2.2.2.1.1 5) (bT d.2.2.2.2.1.1 5)) (cond (dV (bM [] d.2.2.2.2.1.2.1) 24) (cond (gI (sub d.1.1 d.1.2.1 e.1) (sub d.1.1 d.1.2.1 e.1)) (cond (bT d.2.2.2.2.1.1 d.2.2.2.2.1.1) (cond (jr (bT d.2.2.2.2.1.1 5) (bT d.2.2.2.2.1.1 5)) (bF (acw (sub d.1.1 d.1.2.1 e.1)) fun f=>cond (oH EU d.2.2.2.2.1.2.1 d.2.2.2.2.1.2.1) (cond (gI (sub d.1.1 d.1.2.1 e.1) (sub d.1.1 d.1.2.1 e.1)) (cond (bT d.2.2.2.2.1.1 d.2.2.2.2.1.1) (cond (jr (bT d.2.2.2.2.1.1 5) (bT d.2.2.2.2.1.1 5)) (cond (((gI (sub d.1.1 d.1.2.1 e.1) (sub d.1.1 d.1.2.1 e.1))&&true)&&((gI f.1 f.1)&&true)) (cond (dV (bM (bM [] d.2.2.2.2.1.2.1) [(f.1,((bT d.2.2.2.2.1.1 5),()))]) 24) (cond (oH EU d.2.2.2.2.1.2.1 d.2.2.2.2.1.2.1) (cond (gI (sub d.1.1 d.1.2.1 e.1) (sub d.1.1 d.1.2.1 e.1)) (cond (bT d.2.2.2.2.1.1 d.2.2.2.2.1.1) (cond (jr (bT d.2.2.2.2.1.1 5) (bT d.2.2.2.2.1.1 5)) (cond ((gI f.1 f.1)&&((jr (bT d.2.2.2.2.1.1 5) (bT d.2.2.2.2.1.1 5))&&true)) (bF (RI (sub d.1.1 d.1.2.1 e.1)) fun g=>cond ((bT d.2.1.1 d.2.1.1)&&((jr d.2.1.2.2.1 d.2.1.2.2.1)&&true)) (a6 ((6,(d.1.2.1,(e.1,((!g.1),())))),((d.2.1.1,((bM (bM [] d.2.2.2.2.1.2.1) [(f.1,((bT d.2.2.2.2.1.1 5),()))]),(d.2.1.2.2.1,()))),()))) a7) a7) a7) a7) a7) a7) a7) a7) a7) a7) a7) a7) a7) a7) a7) a7) a7) a7) a7) a7)<|bF (RI (sub d.1.1 d.1.2.1 e.1)) fun f=>cond ((bT d.2.1.1 d.2.1.1)&&((oH EU d.2.1.2.1 d.2.1.2.1)&&((jr d.2.1.2.2.1 d.2.1.2.2.1)&&true))) (a6 ((6,(d.1.2.1,(e.1,((!f.1),())))),((d.2.1.1,(d.2.1.2.1,(d.2.1.2.2.1,()))),()))) a7) a7
def awr (h:bW) (e:Int) (d:Int×GV×uO):Option taV:=cond d.2.2.1 (cond (gm d.2.1 0) (bF (ahV h e (eX d.2.1 ([],(false,())) 0)) fun j=>cond (bT j.2.1 0) (cond ((bT d.1 d.1)&&((zu d)&&((jr d.2.2.1 d.2.2.1)&&true))) (a6 ((7,(e,(j.1,(true,())))),((d.1,(d.2.1,(d.2.2.1,()))),()))) a7)<|cond (eU (bG d.2.1) 1 (bG d.2.1)) (cond (bT d.1 d.1) (cond (zu d) (cond (eU (bG d.2.1) 1 (bG d.2.1)) (cond (oH EU (sub d.2.1 1 (bG d.2.1)) (sub d.2.1 1 (bG d.2.1))) (cond (zu d) (cond (bT (bG d.2.1) (bG d.2.1)) (cond (jr (iq 1 (bG d.2.1)) (iq 1 (bG d.2.1))) (cond ((bT d.1 d.1)&&((oH EU (sub d.2.1 1 (bG d.2.1)) (sub d.2.1 1 (bG d.2.1)))&&((jr (iq 1 (bG d.2.1)) (iq 1 (bG d.2.1)))&&true))) (a6 ((7,(e,(j.1,(false,())))),((d.1,((sub d.2.1 1 (bG d.2.1)),((iq 1 (bG d.2.1)),()))),()))) a7) a7) a7) a7) a7) a7) a7) a7) a7) a7)<|bF (ahW h e) fun j=>cond (iq e j.1) (cond ((bT d.1 d.1)&&((zu d)&&((jr d.2.2.1 d.2.2.1)&&true))) (a6 ((1,(e,(j.1,(false,())))),((d.1,(d.2.1,(d.2.2.1,()))),()))) a7)<|cond (gm h e) (cond (bT (bY h e) 10) (cond (zu d) (cond (zu d) (cond (bT (bG d.2.1) (bG d.2.1)) (cond (jr (iq 0 (bG d.2.1)) (iq 0 (bG d.2.1))) (cond ((bT 0 0)&&((zu d)&&((jr (iq 0 (bG d.2.1)) (iq 0 (bG d.2.1)))&&true))) (a6 ((2,(e,((bZ .i64 e 1),(false,())))),((0,(d.2.1,((iq 0 (bG d.2.1)),()))),()))) a7) a7) a7) a7) a7)<|cond (gm h e) (cond (bT (bY h e) 35) (bF (Ko bJ h e e 0 d.2.1 false 0 false 0 0 0 false) fun i=>dL i (fun g=>cond ((bT g.2.1.1 g.2.1.1)&&((oH EU g.2.1.2.1 g.2.1.2.1)&&((jr g.2.1.2.2.1 g.2.1.2.2.1)&&true))) (a6 ((3,(g.1.1,(g.1.2.1,(false,())))),((g.2.1.1,(g.2.1.2.1,(g.2.1.2.2.1,()))),()))) a7) (fun m=>a7))<|bF (acv h e) fun i=>cond (iq 0 i.1) (cond (bT i.1 4) (afA i d e)<|cond (bT i.1 5) (afA i d e)<|bF (Yr i.1) fun l=>cond ((bT 0 0)&&((zu d)&&((jr false false)&&true))) (a6 ((4,(e,((bZ .i64 e (bG l.1)),(false,())))),((0,(d.2.1,(false,()))),()))) a7)<|bF (Kq bJ h e e 0 d.2.1 false 0 false 0 0 0 false d.1 d.2.1 d.2.2.1) fun l=>dL l (fun f=>cond (iq f.1.2.1 f.1.2.2.1) (cond (iq f.1.2.2.1 (bG f.1.1)) (cond (gm f.1.1 f.1.2.2.1) (cond (bT (bY f.1.1 f.1.2.2.1) 60) (afB f)<|cond (gm f.1.1 f.1.2.2.1) (cond (bT (bY f.1.1 f.1.2.2.1) 62) (afB f)<|Yq f) a7) a7)<|Yq f)<|Yq f) (fun o=>a7)) a7) a7
def aAq:Sum:=⟨[.str,di,.pair di tyM],tzH,fun x=>awr x.1 x.2.1 x.2.2.1⟩
noncomputable def ahO:Env:=iU prog tt 69 [(113,ahc),(115,auu),(110,auq),(111,aur),(112,aus),(70,alf),(114,aut),(116,auv)] [(14,arT),(23,arU)] [(14,ajl),(23,ajm)]
def akI {d:Type} (a:ZG.den->Option d) (b:aao.den->Option d) (c:aaY.den->Option d) (v:ZG.den):Option d:=br (QD (fun e f g h i j l m o p q s=>a ((e,f,g,()),((h,i,j,()),(l,m,()),(o,p,q,s,()),()))) (fun u x y z A B D E G I J=>b ((u,x,()),((y,z,A,()),(B,D,()),(E,G,I,J,()),()))) (c ((),()))) v
theorem ayn:dQ ahO 69 apv ajl:=vS (akI) (h2:=by intros;simp only[akI,br,QD,cu,cO,bD,bV,cZ])
def akJ {d:Type} (a:ZH.den->Option d) (b:KF.den->Option d) (c:aaZ.den->Option d) (v:ZH.den):Option d:=bs (QE (fun e f g h i j l m o p q s u x y=>a ((e,f,g,()),((h,i,j,()),(l,m,()),(o,p,q,s,()),(u,x,y,()),()))) (fun z A B D E G I J K L M N O S U=>b ((z,A,B,()),((D,E,G,()),(I,J,()),(K,L,M,N,()),(O,S,U,()),()))) (c ((),()))) v
theorem ayo:dQ ahO 69 apw ajm:=vS (akJ) (h2:=by intros;simp only[akJ,bs,QE,cu,cO,bD,bV,cZ])
theorem aHh:dO ahO 69 b69:=pI [apv,apw] (aD (fM (ayn)) (aD (fM (ayo)) aN))
theorem aqa:eP ahO:=eA f69 (aD Gv (aD anC (aD anx (aD anz (aD anA (aD UD (aD anB (aD anD aN)))))))) (aHh)
theorem ave:dK prog 69 aAq:=sA aqa
noncomputable def b31:Code:=(f31.body).getD .skip
noncomputable def aza:Code:=cA (cA (cA (cB (cB (cB (cB (b31)))))))
def azC:eG:=⟨[0,3,4,5,6,100004],[(4,tyE)],[3,4,5],[],[2,3],[(2,tyE)]⟩
def ajA:SP:=⟨us [bS,.u,.u,cR,db,cx,bR] 23,[.arr 1800004 tyE,dj,cQ]⟩
def agm:SP:=⟨us [.u,.u,.u,cR,db,cx] 24,[.arr 1800004 tyE,dj,cQ]⟩
def agH:SP:=⟨us [.u,.u,.v (.list tyE)] 27,[]⟩
def abp {e:Type} (p:bW->Int->(List LC)->Int->GV->Bool->Int->Bool->Option e) (q:(List LC)->Int->GV->Bool->Int->Bool->Option e) (s:(List LC)->Option e) (f:bW) (h:Int) (g:List LC) (i:Int) (j:GV) (l:Bool) (m:Int) (o:Bool):Option e:=cond (iq h (bG f)) (bF (awr f h (i,(j,(l,())))) fun d=>cond (dV (bM g [(d.1.1,(d.1.2.1,(d.1.2.2.1,(d.1.2.2.2.1,()))))]) 32) (p f d.1.2.2.1 (bM g [(d.1.1,(d.1.2.1,(d.1.2.2.1,(d.1.2.2.2.1,()))))]) d.2.1.1 d.2.1.2.1 d.2.1.2.2.1 m o) a7)<|q g i j l m o
def MK:Nat->bW->Int->(List LC)->Int->GV->Bool->Int->Bool->Option (agm.den⊕agH.den)
 |0,_,_,_,_,_,_,_,_=>a7
 |n+1,d,e,f,g,h,i,j,l=>abp (MK n) (fun m o p q s u=>a6 (.inl ((),(m,(o,p,q,()),(s,u,()),())))) (fun v=>a6 (.inr ((v,()),()))) d e f g h i j l
def aCE (n:Nat) (v:ajA.den):=MK n v.1.1 v.1.2.1 v.2.1 v.2.2.1.1 v.2.2.1.2.1 v.2.2.1.2.2.1 v.2.2.2.1.1 v.2.2.2.1.2.1
noncomputable def asv:dA:=fH azC ajA agm agH (.exit 0) (aCE bJ) 6
def awo (e:bW):Option ((List LC)×(Int×GV×uO)×Unit):=bF (MK bJ e 0 [] 0 [] false 0 false) fun f=>dL f (fun d=>a6 (d.2.1,((d.2.2.1.1,(d.2.2.1.2.1,(d.2.2.1.2.2.1,()))),()))) (fun g=>a7)
def aAj:Sum:=⟨[.str],[(.list tyE,false),(.pair di tyM,false)],fun x=>awo x.1⟩
noncomputable def apW:Env:=iU prog tt 31 [(69,aAq)] [(4,azC)] [(4,asv)]
def atG {d:Type} (a:ajA.den->Option d) (b:agm.den->Option d) (c:agH.den->Option d) (v:ajA.den):Option d:=abp (fun e f g h i j l m=>a ((e,f,()),(g,(h,i,j,()),(l,m,()),()))) (fun o p q s u x=>b ((),(o,(p,q,s,()),(u,x,()),()))) (aE c) v.1.1 v.1.2.1 v.2.1 v.2.2.1.1 v.2.2.1.2.1 v.2.2.1.2.2.1 v.2.2.2.1.1 v.2.2.2.1.2.1
theorem aC7:dQ apW 31 aza asv:=vS (atG) (h2:=by intros;simp only[atG,aE,abp,cu,cO,bD,bV,cZ])
theorem aHa:dO apW 31 b31:=pI [aza] (aD (fM (aC7)) aN)
theorem apX:eP apW:=eA f31 (aD ave aN) (aHa)
theorem au6:dK prog 31 aAj:=sA apX
noncomputable def b17:Code:=(f17.body).getD .skip
noncomputable def ay6:Code:=cA (cA (cB (cA (cB (cB (cB (b17)))))))
def azy:eG:=⟨[0,3,5,6,100004],[(5,NJ)],[5],[],[2],[(2,NJ)]⟩
def ajw:SP:=⟨us [bS,.u,.u,.v (.list tyE),.u,cG,bR] 59,[.arr 1800005 NJ]⟩
def agi:SP:=⟨us [.u,.u,.u,.u,.u,cG] 60,[.arr 1800005 NJ]⟩
def agD:SP:=⟨us [.u,.u,.v nR] 63,[]⟩
def jm (d:List LC) (e:Int):=eX d (0,(0,(0,(false,())))) e
def Bh {g:Type} (d:List LC) (e:Int) (f:bW) (h:List fJ) (i:bW->(List LC)->Int->(List fJ)->Option g):Option g:=cond (gm d e) (cond (gm d e) (cond (gm d e) (cond (gm d e) (cond (eU (bG f) (jm d e).2.1 (jm d e).2.2.1) (cond (dV (bM h [((jm d e).1,((sub f (jm d e).2.1 (jm d e).2.2.1),((jm d e).2.1,((jm d e).2.2.1,()))))]) 40) (i f d (bZ .i64 e 1) (bM h [((jm d e).1,((sub f (jm d e).2.1 (jm d e).2.2.1),((jm d e).2.1,((jm d e).2.2.1,()))))])) a7) a7) a7) a7) a7) a7
def abj {i:Type} (g:bW->(List LC)->Int->(List fJ)->Option i) (j l:(List fJ)->Option i) (h:bW) (d:List LC) (e:Int) (f:List fJ):Option i:=cond (iq e (bG d)) (cond (gm d e) (cond (bT (jm d e).1 2) (Bh d e h f g)<|cond (bT (jm d e).1 4) (Bh d e h f g)<|cond (bT (jm d e).1 5) (Bh d e h f g)<|cond (bT (jm d e).1 6) (Bh d e h f g)<|g h d (bZ .i64 e 1) f) a7)<|j f
def Iz:Nat->bW->(List LC)->Int->(List fJ)->Option (agi.den⊕agD.den)
 |0,_,_,_,_=>a7
 |n+1,d,e,f,g=>abj (Iz n) (fun h=>a6 (.inl ((),(h,())))) (fun i=>a6 (.inr ((i,()),()))) d e f g
def aCA (n:Nat) (v:ajw.den):=Iz n v.1.1 v.1.2.1 v.1.2.2.1 v.2.1
noncomputable def asr:dA:=fH azy ajw agi agD (.exit 0) (aCA bJ) 6
def amI (d:bW):Option ((List fJ)×Unit):=bF (awo d) fun e=>bF (Iz bJ d e.1 0 []) fun f=>dL f (fun g=>a6 (g.2.1,())) (fun h=>a6 (h.1.1,()))
def auL:Sum:=⟨[.str],[(.list NJ,false)],fun x=>amI x.1⟩
noncomputable def apQ:Env:=iU prog tt 17 [(31,aAj)] [(4,azy)] [(4,asr)]
def atB {d:Type} (a:ajw.den->Option d) (b:agi.den->Option d) (c:agD.den->Option d) (v:ajw.den):Option d:=abj (fun e f g h=>a ((e,f,g,()),(h,()))) (fun i=>b ((),(i,()))) (aE c) v.1.1 v.1.2.1 v.1.2.2.1 v.2.1
theorem aC3:dQ apQ 17 ay6 asr:=vS (atB) (h2:=by intros;simp only[atB,aE,abj,cu,cO,bD,bV,cZ,jm,Bh])
theorem aG6:dO apQ 17 b17:=pI [ay6] (aD (fM (aC3)) aN)
theorem apR:eP apQ:=eA f17 (aD au6 aN) (aG6)
theorem aer:dK prog 17 auL:=sA apR
end
section
open List renaming drop_eq_getElem_cons → aF, length_drop → aQ
open Go.RowKit
abbrev Tok:=Int×Int×Int×Bool×Unit
abbrev Dlm:=List UInt8×Bool×Unit
abbrev Lxg:=Int×List Dlm×Bool×Unit
def dDl:Dlm:=([],(false,()))
def uT (s:bW) (a:Nat):Nat:=a+Dx (s.drop a) a fG
def XY (s:bW) (a b:Nat):bW:=(s.take b).drop a
def akP (w:bW):Bool:=KX (mY w 0 fG).1
theorem UU {s:List UInt8} {a:Nat} (h:a<=s.length):a<=uT s a/\uT s a<=s.length:=by
 grind [ahI,uT]
def jQ (s:bW) (a:Nat):Tok:=if xf (s.drop a)≠0 then(1,a,((a+xf (s.drop a):Nat):Int),false,())else if bY s a=10 then(2,a,((a+1:Nat):Int),false,())else if bY s a=35 then(3,a,(iV s a:Nat),false,())else if(Ci (s.drop a)).2≠0 then(4,a,((a+(Ci (s.drop a)).2:Nat):Int),false,())else if Cf (s.drop a)≠0 then(5,a,((a+Cf (s.drop a):Nat):Int),false,())else(6,a,(uT s a:Nat), !akP (XY s a (uT s a)),())
def lJ (s:bW) (a:Nat) (x:Lxg):Lxg:=if xf (s.drop a)≠0 then(x.1,x.2.1,false,())else if bY s a=10 then(0,x.2.1,decide (0<x.2.1.length),())else if bY s a=35 then(0,x.2.1,false,())else if(Ci (s.drop a)).2≠0 then((if(Ci (s.drop a)).1=4\/(Ci (s.drop a)).1=5 then(((Ci (s.drop a)).1:Nat):Int)else 0),x.2.1,false,())else if Cf (s.drop a)≠0 then(0,x.2.1,false,())else(0,(if x.1=0 then x.2.1 else x.2.1++[(Jf (XY s a (uT s a)),decide (x.1=5),())]),false,())
def mg (s:bW) (a:Nat) (x:Lxg):Tok×Lxg:=if x.2.2.1=true then(if(Dp s (x.2.1.headD dDl).1 (x.2.1.headD dDl).2.1 a).2=true then((7,a,((Dp s (x.2.1.headD dDl).1 (x.2.1.headD dDl).2.1 a).1:Nat),false,()),(x.1,x.2.1.tail,decide (1<x.2.1.length),()))else((7,a,((Dp s (x.2.1.headD dDl).1 (x.2.1.headD dDl).2.1 a).1:Nat),true,()),x))else(jQ s a,lJ s a x)
theorem as4 {c:UInt8} {t:List UInt8} (h:He (c.toNat:Int)=true):(Ci (c::t)).2≠0:=by
 have d:ofF [c]≠0:=by
  have: ∀n:Fin 256,He ((n.val:Nat):Int)=true->ofF [UInt8.ofNat n.val]≠0:=by decide+kernel
  have:=this ⟨c.toNat,c.toNat_lt⟩ h;simpa using this
 have e: ∀n,(O8 (c::t) (n+1)).2≠0:=by
  intro n
  induction n with
  |zero=>simp_all [O8]
  |succ n f=>
   grind [O8]
 grind [Ci]
theorem EO {s:List UInt8} (m:s.length<=10000) {a:Nat} (g:a<s.length) (x:Lxg):(a:Int)<(mg s a x).1.2.2.1/\(mg s a x).1.2.2.1<=s.length/\(mg s a x).1.2.1=a:=by
 unfold mg;split
 .have h:=MC s (x.2.1.headD dDl).1 (x.2.1.headD dDl).2.1 bJ a (dH) (by omega);have i:=h.2.2 g;have d:=h.1;unfold Dp
  grind
 .unfold jQ;have hd:=aF g;split
  .have:=XL (s.drop a)
   grind
  .split
   .grind
   .split
    .rename_i o
     have d:=xE s a;have i:=AP (s:=s) (a:=a) (by omega);have p:iV s a≠a:=by
      intro e;have:=SE (s:=s) (f:=a) (by omega);simp_all [byte_at]
     grind
    .split
     .have:=(Px (s.drop a)).1
      grind
     .split
      .rename_i q
       have d:=P5 (s.drop a);rw[aQ]at d;have:Cf (s.drop a)<=kY (s.drop a):=by grind [Cf]
       grind
      .rename_i u v _ y _
       have j:=UU (s:=s) (a:=a) (by omega);have:Dx (s.drop a) a fG≠0:=by
        rw[hd,Dx];have l:rE fG.1 (jq s[a])=false:=by
         unfold rE;have:Dn (jq s[a])=false:=by
          have z:qP (s[a].toNat:Int)=false:=by
           grind [Jh]
          have A:He (s[a].toNat:Int)=false:=by
           grind [as4]
          simp_all [byte_at,qP,He,Dn,jq]
         rw[this];rfl
        rw[l];simp
       unfold uT at j ⊢
       grind
end
section
open Option renaming some → a6, none → a7
open Bool renaming false_eq_true → ah, and_true → ax, not_false → aB, not_eq_true → bg
open Int renaming toNat_natCast → aS
open List renaming length_drop → aQ
open Nat renaming le_refl → ae
open Go.RowKit
theorem ab9 {s:List UInt8} (y:s.length<1000000) {a:Nat} (v:a<=s.length) (d f:Int) (g:List Dlm) (j:Bool) (l:Int) (m:Bool) (o p q:Int) (u:Bool): ∀(N i:Nat),s.length-i<N->a<=i->i<=iV s a->
  Ko N s d (i:Int) f g j l m o p q u=a6 (.inl ((d,((iV s a:Nat):Int),()),((f,g,j,()),(l,m,()),(o,p,q,u,()),())))
 |0,i,h,_,z=>by omega
 |N+1,i,h,A,z=>by
  have D:=AP v;rw[Ko,QD];by_cases e:i<iV s a
  .have x:i<s.length:=by omega
   rw[bU (eQ (by rw[bI];omega)),bU (dU),byte_at x,dR fun h=>Wv A e x (UInt8.toNat_inj.1 (by grind))];simp only[aB,aa];rw[dh,show(i:Int)+1=((i+1:Nat):Int) by omega];exact ab9 y v d f g j l m o p q u N (i+1) (by omega) (by omega) (by omega)
  .have E:i=iV s a:=by omega
   by_cases hl:i<s.length
   .have B:s[i]=10:=by grind [SE]
    rw[bU (eQ (by rw[bI];omega)),bU (dU),byte_at hl,B,show bT (((10:UInt8).toNat:Nat):Int) 10=true from rfl];simp_all
   simp_all [gK,bI]
theorem ach {s:List UInt8} (D:s.length<1000000) {a:Nat} (E:a<=s.length) (d f:Int) (g:List Dlm) (j:Bool) (m:Int) (o:Bool) (p q u:Int) (v:Bool) (x:Int) (y:List Dlm) (z:Bool): ∀(N k:Nat),s.length-(a+k)<N->k<=kY (s.drop a)->
  Kq N s d ((a+k:Nat):Int) f g j m o p q u v x y z=a6 (.inl ((s,d,((a+kY (s.drop a):Nat):Int),()),((f,g,j,()),(m,o,()),(p,q,u,v,()),(x,y,z,()),())))
 |0,k,h,hk=>by omega
 |N+1,k,h,hk=>by
  have J:=P5 (s.drop a);have K:=aQ (i:=a) (l:=s);rw[Kq,QE];by_cases e:a+k<s.length
  .have A:k<(s.drop a).length:=by omega
   have B:(s.drop a)[k]=s[a+k]:=by simp
   obtain⟨_,_,c,G,_,I⟩:=uo s[a+k];rw[bU (eQ (by rw[bI];omega)),bU (dU),byte_at e,G,bD];simp only[I];by_cases hk2:k<kY (s.drop a)
   .have:=ES isD (s.drop a) k A hk2;rw[B]at this;rw[this,aa,dh,show((a+k:Nat):Int)+1=((a+(k+1):Nat):Int) by omega];exact ach D E d f g j m o p q u v x y z N (k+1) (by omega) (by omega)
   .obtain rfl:k=kY (s.drop a):=by omega
    have:=Ac isD (s.drop a) A;rw[show isD s[a+kY (s.drop a)]=false by rw[<-B];exact this,ac]
  .obtain rfl:k=kY (s.drop a):=by omega
   rw[dG (gK (by rw[bI];omega))]
theorem aoJ (w:bW) (d:w.length<=100000):RI w=a6 (akP w,()):=by
 have e:=(D5 w 0 fG kC).1;rw[RI,aFR w d,bD]
 grind [akP,Ho,aug]
theorem abA {s:List UInt8} {a b:Nat}:sub s (a:Int) (b:Int)=XY s a b:=by simp[sub,XY]
theorem Rl {s:List UInt8} {a b:Nat}:(XY s a b).length<=s.length:=by
 grind [XY]
theorem aow {s:List UInt8} (d:s.length<=10000) {a:Nat} (e:a<s.length):VW s (a:Int)=a6 (((uT s a:Nat):Int),()):=by
 rw[aFL s (by omega) (by omega) (by omega),aS];rfl
theorem aAQ {s:List UInt8} (q:s.length<=10000) {a:Nat} (v:a<s.length) (x:Lxg) (hp:x.2.2.1=true->x.2.1≠[]) (hl:x.2.1.length<=1000000):
  awr s a x=a6 ((mg s a x).1,((mg s a x).2,())):=by
 obtain⟨e,f,z,u⟩:=x;cases u;simp only at hp hl;unfold mg
 (rewrite [awr];delta Yq afB afA zu)
 cases z with
 |true=>
  obtain⟨d,r,rfl⟩: ∃d r,f=d::r:=by
   cases f with
   |nil=>simp_all
   |cons d r=>simp
  simp only[aa,if_true];rw[bU (dU (by omega) (by simp)),show eX (d::r) ([],(false,())) 0=d from rfl,aBH (by omega) d (by omega),bD];simp only[List.headD_cons];by_cases hh:(Dp s d.1 d.2.1 a).2=true
  rotate_left
  .rw[bg]at hh;simp only[hh,ah,if_false,show bT 0 0=true from rfl,aa,eH,gU,iG,ax]
  .have A:sub (d::r) 1 (bG (d::r))=r:=by simp[sub,bI]
   have m:iq 1 (bG (d::r))=decide (1<(d::r).length):=by
    unfold iq bG
    grind
   simp only[hh,if_true,show bT 1 0=false from rfl,ac,aa,eH,gU,iG,ax,A];have M:eU (bG (d::r)) 1 (bG (d::r))=true:=fV (by omega) (by grind [bI]) (by omega);simp_all
 |false=>
  have m:iq 0 (bG f)=decide (0<f.length):=by
   simp_all [iq,bG]
  have B:gm s (a:Int)=true:=dU;simp only[ac,ah,if_false];rw[avS (by omega) (by omega),bD];simp only;by_cases hb:xf (s.drop a)=0
  .rw[dG (kW),B,aa];by_cases h10:bY s a=10
   .rw[bU (fO h10)];simp only[eH,gU,iG,ax,aa,m,show bT 0 0=true from rfl]
    grind [dh,jQ,lJ]
   .rw[dG (dR h10)];by_cases h35:bY s a=35
    .rw[bU (fO h35),ab9 (by omega) (a:=a) (by omega) _ _ _ _ _ _ _ _ _ _ bJ a (dH) (ae _) (xE s a),bD];simp_all [dL,eH,gU,iG,jQ,lJ]
    .obtain⟨l,N⟩:=ayJ (s.drop a);obtain⟨D,o,O⟩:=Px (s.drop a);rw[aQ]at D;rw[dG (dR h35),aHH s (by omega) (by omega),bD];simp only;by_cases ho:(Ci (s.drop a)).2=0
     .have p:=o.1 ho;rw[p,dG (show iq 0 ((0:Nat):Int)=false from rfl)];have hd:=ach (s:=s) (by omega) (a:=a) (by omega) (a:Int) 0 f false 0 false 0 0 0 false e f false bJ 0 (dH) (by omega);rw[Nat.add_zero]at hd;rw[hd,bD];simp only[dL];have E:=P5 (s.drop a);rw[aQ]at E;have S:=UU (s:=s) (a:=a) (by omega);have U: ∀(j:Cf (s.drop a)=0),(bF (VW s (a:Int)) fun g=>
        bif eU (bG s) (a:Int) g.1 then
         bif !bT e 0 then
          bif oH EU f f then
           bif gI (sub s (a:Int) g.1) (sub s (a:Int) g.1)then
            bif bT e e then
             bif jr (bT e 5) (bT e 5)then
              bif dV (bM [] f) 24 then
               bif gI (sub s (a:Int) g.1) (sub s (a:Int) g.1)then
                bif bT e e then
                 bif jr (bT e 5) (bT e 5)then
                  bF (acw (sub s (a:Int) g.1)) fun i=>
                   bif oH EU f f then
                    bif gI (sub s (a:Int) g.1) (sub s (a:Int) g.1)then
                     bif bT e e then
                      bif jr (bT e 5) (bT e 5)then
                       bif((gI (sub s (a:Int) g.1) (sub s (a:Int) g.1)&&true)&&(gI i.1 i.1&&true))then
                        bif dV (bM (bM [] f) [(i.1,(bT e 5,()))]) 24 then
                         bif oH EU f f then
                          bif gI (sub s (a:Int) g.1) (sub s (a:Int) g.1)then
                           bif bT e e then
                            bif jr (bT e 5) (bT e 5)then
                             bif(gI i.1 i.1&&(jr (bT e 5) (bT e 5)&&true))then
                              bF (RI (sub s (a:Int) g.1)) fun G=>
                               bif(bT 0 0&&(jr false false&&true))then
                                a6 (((6:Int),((a:Int),(g.1,(!G.1,())))),(((0:Int),(bM (bM [] f) [(i.1,(bT e 5,()))],(false,()))),()))
                               else a7
                             else a7
                            else a7
                           else a7
                          else a7
                         else a7
                        else a7
                       else a7
                      else a7
                     else a7
                    else a7
                   else a7
                 else a7
                else a7
               else a7
              else a7
             else a7
            else a7
           else a7
          else a7
         else bF (RI (sub s (a:Int) g.1)) fun i=>
          bif(bT 0 0&&(oH EU f f&&(jr false false&&true)))then
           a6 (((6:Int),((a:Int),(g.1,(!i.1,())))),(((0:Int),(f,(false,()))),()))
          else a7
        else a7)=a6 (((6:Int),((a:Int),(((uT s a:Nat):Int),(!akP (XY s a (uT s a)),())))),(((0:Int),((if e=0 then f else f++[(Jf (XY s a (uT s a)),decide (e=5),())]),(false,()))),())):=by
       intro j;have V:=Rl (s:=s) (a:=a) (b:=uT s a);rw[aow q v,bD];simp only;rw[bU (fV (by omega) (by omega) (by rw[bI];omega)),abA];by_cases h0:e=0
       .subst h0;rw[show(!bT 0 0)=false from rfl,ac,aoJ _ (by omega),bD,am rfl];simp_all [eH,gU,iG]
       .rw[dR h0,aq h0];have I:dV (bM [] f) 24=true:=rF (by grind [bM]);have J: ∀y,dV (bM (bM [] f) [y]) 24=true:=fun y=>rF (by grind [bM]);simp only[aB,eH,pg,gU,iG,ax,aa,I];rw[aAN _ (by omega),bD];simp only[eH,pg,gU,iG,ax,aa,J];rw[aoJ _ (by omega),bD];rfl
      by_cases hg:kY (s.drop a)=0
      .simp_all [Cf,kW,jQ,lJ]
      .rw[bU (eQ)];by_cases h1:a+kY (s.drop a)<s.length
       .have K:((s.drop a).drop (kY (s.drop a))).head?=a6 s[a+kY (s.drop a)]:=by
         simp
        have L:gm s ((a+kY (s.drop a):Nat):Int)=true:=dU;rw[bU (eQ (by rw[bI];omega)),L,aa,byte_at h1];by_cases e1:s[a+kY (s.drop a)]=60
        .have j:Cf (s.drop a)=kY (s.drop a):=by unfold Cf;simp_all
         rw[e1,show bT (((60:UInt8).toNat:Nat):Int) 60=true from rfl];simp_all [eH,gU,iG,jQ,lJ]
        .rw[dG (dR fun h=>e1 (UInt8.toNat_inj.1 (by grind))),aa];by_cases e2:s[a+kY (s.drop a)]=62
         .have j:Cf (s.drop a)=kY (s.drop a):=by unfold Cf;simp_all
          rw[e2,show bT (((62:UInt8).toNat:Nat):Int) 62=true from rfl];simp_all [eH,gU,iG,jQ,lJ]
         .have j:Cf (s.drop a)=0:=by simp_all [Cf]
          rw[dG (dR fun h=>e2 (UInt8.toNat_inj.1 (by grind)))];simp_all [jQ,lJ]
       .have K:((s.drop a).drop (kY (s.drop a))).head?=a7:=by
         simp_all
        have j:Cf (s.drop a)=0:=by simp_all [Cf]
        rw[dG (kW (by rw[bI];omega))];simp_all [jQ,lJ]
     .have p:(Ci (s.drop a)).1≠0:=fun h=>ho (o.2 h);rw[bU (eQ)];have W:bZ .i64 (a:Int) (bG (O3 (Ci (s.drop a)).1))=((a+(Ci (s.drop a)).2:Nat):Int):=by
       grind [bI,dh]
      by_cases h4:(Ci (s.drop a)).1=4
      .rw[bU (fO),l,bD];simp_all [eH,gU,iG,jQ,lJ]
      .rw[dG (dR)];by_cases h5:(Ci (s.drop a)).1=5
       .rw[bU (fO),l,bD];simp_all [eH,gU,iG,jQ,lJ]
       .rw[dG (dR),l,bD];simp_all [eH,gU,iG,jQ,lJ]
  .rw[bU (eQ)];simp_all [eH,gU,iG,jQ,lJ]
end
section
open Int renaming toNat_natCast → aS
open List renaming getElem_mem → aJ
open Go.RowKit
def rW (s:bW):Nat->Nat->List Tok->Lxg->List Tok×Lxg
 |0,_,l,x=>(l,x)
 |n+1,a,l,x=>if a<s.length then rW s n (mg s a x).1.2.2.1.toNat (l++[(mg s a x).1]) (mg s a x).2 else(l,x)
def oJ (s:bW):List Tok×Lxg:=rW s (s.length+1) 0 [] (0,[],false,())
def OkX (x:Lxg):Prop:=x.2.2.1=true->x.2.1≠[]
theorem Uy (s:bW) (a:Nat) {x:Lxg} (h:OkX x):OkX (mg s a x).2/\(mg s a x).2.2.1.length<=x.2.1.length+1:=by
 obtain⟨d,e,f,u⟩:=x;unfold OkX at*;unfold mg;simp only at h ⊢;split
 .grind
 .unfold lJ
  grind
theorem MG {s:List UInt8} (d:s.length<=10000): ∀(n m a:Nat) (l:List Tok) (x:Lxg),s.length<n+a->s.length<m+a->rW s n a l x=rW s m a l x
 |0,0,a,l,x,_,_=>rfl
 |0,m+1,a,l,x,h,_=>by rw[rW,rW,aq (by omega)]
 |n+1,0,a,l,x,_,h=>by rw[rW,rW,aq (by omega)]
 |n+1,m+1,a,l,x,f,g=>by
  rw[rW,rW];split
  .rename_i e
   have:=EO d e x;exact MG d n m _ _ _ (by omega) (by omega)
  .rfl
theorem adf {s:List UInt8} (d:s.length<=10000) (f:Int) (g:Bool): ∀(N a:Nat) (l:List Tok) (x:Lxg),s.length-a<N->a<=s.length->OkX x->x.2.1.length<=a->l.length<=a->
  MK N s (a:Int) l x.1 x.2.1 x.2.2.1 f g=some (.inl ((),((rW s N a l x).1,((rW s N a l x).2.1,(rW s N a l x).2.2.1,(rW s N a l x).2.2.2.1,()),(f,g,()),())))
 |0,a,l,x,h,_,_,_,_=>by omega
 |N+1,a,l,x,h,q,i,u,v=>by
  rw[MK,abp,rW];by_cases e:a<s.length
  .have y:=EO d e x;have m:=Uy s a i;have o:(x.1,(x.2.1,(x.2.2.1,())))=x:=rfl;rw[bU (eQ (by rw[bI];omega)),o,aAQ d e x i (by omega),bD,am e];simp only;rw[bU (rF (by grind [bM]))];obtain⟨b,j⟩: ∃b:Nat,(mg s a x).1.2.2.1=(b:Int):=⟨(mg s a x).1.2.2.1.toNat,by omega⟩;have p:=adf d f g N b (l++[(mg s a x).1]) (mg s a x).2 (by omega) (by omega) m.1 (by omega) (by grind);rw[j,aS];rw[<-p];rw[<-j];rfl
  simp_all [gK,bI,aq]
theorem aFO {s:List UInt8} (d:s.length<=10000):awo s=some ((oJ s).1,((oJ s).2,())):=by
 have h:=adf d 0 false bJ 0 [] (0,[],false,()) (dH) (by omega) (fun h=>by cases h) (by simp) (by simp);have e:rW s bJ 0 [] (0,[],false,())=oJ s:=MG d _ _ _ _ _ (by have:=dH (n:=s.length) (by omega);omega) (by omega);rw[awo,show MK bJ s 0 [] 0 [] false 0 false=_ from h,bD,e];rfl
structure OkT (s:bW) (t:Tok):Prop where
 f0:0<=t.2.1
 ft:t.2.1<t.2.2.1
 t1:t.2.2.1<=s.length
theorem aiI {s:List UInt8} (g:s.length<=10000): ∀(n a:Nat) (l:List Tok) (x:Lxg),OkX x->l.length<=a->a<=s.length->(∀t∈l,OkT s t)->(∀t∈(rW s n a l x).1,OkT s t)/\OkX (rW s n a l x).2/\(rW s n a l x).1.length<=s.length
 |0,a,l,x,d,i,j,h=>⟨h,d,by grind [rW]⟩
 |n+1,a,l,x,d,i,j,h=>by
  rw[rW];split
  .rename_i e
   have o:=EO g e x;exact aiI g n _ _ _ (Uy s a d).1 (by grind) (by omega) (fun t m=>by
    rcases List.mem_append.1 m with f|f
    .exact h t f
    .rw[List.mem_singleton.1 f];exact⟨by omega,by omega,by omega⟩)
  grind
theorem JS {s:List UInt8} (d:s.length<=10000):(∀t∈(oJ s).1,OkT s t)/\OkX (oJ s).2/\(oJ s).1.length<=s.length:=
 aiI d _ _ _ _ (fun h=>by cases h) (by simp) (by omega) (fun t e=>by cases e)
def acZ (t:Tok):Bool:=decide (t.1=2)||decide (t.1=4)||decide (t.1=5)||decide (t.1=6)
def azM (s:bW) (t:Tok):Int×List UInt8×Int×Int×Unit:=(t.1,sub s t.2.1 t.2.2.1,t.2.1,t.2.2.1,())
def gJ (s:bW) (l:List Tok):List (Int×List UInt8×Int×Int×Unit):=(l.filter acZ).map (azM s)
theorem Oi {s:List UInt8} (g:s.length<=10000) (l:List Tok) (hl:l.length<=10000) (d: ∀t∈l,OkT s t): ∀(N k:Nat),l.length-k<N->k<=l.length->
  Iz N s l (k:Int) (gJ s (l.take k))=some (.inl ((),(gJ s l,())))
 |0,k,h,_=>by omega
 |N+1,k,h,hk=>by
  (rewrite [Iz,abj];delta Bh jm)
  by_cases e:k<l.length
  .have i:eX l (0,(0,(0,(false,())))) (k:Int)=l[k]:=by
    simp_all [eX]
   have j:gm l (k:Int)=true:=dU;obtain⟨m,z,A⟩:=d _ (aJ e);have o:eU (bG s) l[k].2.1 l[k].2.2.1=true:=fV m (by omega) (by rw[bI];omega);have B:(gJ s (l.take k)).length<=10000:=by
    grind [gJ]
   have p: ∀y,dV (bM (gJ s (l.take k)) [y]) 40=true:=fun y=>rF (by grind [bM]);have f:=Oi g l hl d N (k+1) (by omega) (by omega);have q:l.take (k+1)=l.take k++[l[k]]:=by simp
   have u:bZ .i64 (k:Int) 1=((k+1:Nat):Int):=by grind [dh]
   have v:acZ l[k]=true->Iz N s l ((k+1:Nat):Int) (bM (gJ s (l.take k)) [(l[k].1,(sub s l[k].2.1 l[k].2.2.1,(l[k].2.1,(l[k].2.2.1,()))))])=some (.inl ((),(gJ s l,()))):=fun x=>by
    rw[<-f];congr 1;unfold gJ;rw[q,List.filter_append,List.map_append,List.filter_cons_of_pos x];rfl
   rw[bU (eQ (by rw[bI];omega)),j];simp only[aa,i,o,p,u];unfold acZ at v;by_cases h2:l[k].1=2
   .rw[bU (fO h2)];grind
   .rw[dG (dR h2)];by_cases h4:l[k].1=4
    .rw[bU (fO h4)];grind
    .rw[dG (dR h4)];by_cases h5:l[k].1=5
     .rw[bU (fO h5)];grind
     .rw[dG (dR h5)];by_cases h6:l[k].1=6
      .rw[bU (fO h6)];grind
      .rw[dG (dR h6),<-f]
       grind [gJ,acZ]
  simp_all [gK,bI,List.take_of_length_le]
theorem aoE {s:List UInt8} (d:s.length<=10000):amI s=some (gJ s (oJ s).1,()):=by
 obtain⟨e,f,g⟩:=JS d;rw[amI,aFO d,bD];simp only;have h:=Oi d (oJ s).1 (by omega) e bJ 0 (dH) (by omega);rw[show Iz bJ s (oJ s).1 0 []=_ from h,bD];rfl
end
end Go.Proofs.YtkichehglnecnaaGreatDoor
