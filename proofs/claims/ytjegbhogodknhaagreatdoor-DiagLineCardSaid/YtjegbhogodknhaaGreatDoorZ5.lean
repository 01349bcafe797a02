/- Parts of the proof, joined and shortened by a program: the plain machine, the functions as it prints them, and the mathematics over them. -/
import Derived.Test.YtjegbhogodknhaaGreatDoorZ3
import Derived.Test.YtjegbhogodknhaaGreatDoorZ4
set_option linter.unusedVariables false
set_option linter.unusedSimpArgs false
set_option maxRecDepth 100000
set_option maxHeartbeats 4000000
namespace Go.Proofs.YtjegbhogodknhaaGreatDoor
section
open Option renaming some → a6, none → a7
open Bool renaming not_true → au, not_false → aF
open List renaming map_cons → ay, mem_cons_of_mem → aB, drop_eq_getElem_cons → aH, drop_of_length_le → aO, mem_cons_self → aU
open Nat renaming le_refl → af, lt_or_ge → ak
open Go.RowKit
def QO (n:Nat):dC:=if n=0 then []else Md.getD (n-1) []
def abU (u t:dC):Bool:=decide (t.take u.length=u)
def uI (t:dC):Nat->Nat
 |0=>0
 |n+1=>if abU (QO (n+1)) t=true/\(QO (uI t n)).length<(QO (n+1)).length then n+1 else uI t n
theorem OZ: ∀n:Fin 18,ZA ((n.val:Nat):Int)=a6 (QO n.val,()):=by decide+kernel
theorem aki: ∀n:Fin 18,(QO n.val).length<=3:=by decide+kernel
theorem ac2 (t:dC): ∀n,uI t n<=n
 |0=>af _
 |n+1=>by rw[uI];split<;>have:=ac2 t n<;>omega
theorem aeZ (s:dC) (l:s.length<1000000) {a:Nat} (m:a<=s.length): ∀(d N k:Nat),k+d=17->d<N->
  Ot N s (a:Int) ((uI (s.drop a) k:Nat):Int) ((k+1:Nat):Int)=a6 (.inl ((((uI (s.drop a) 17:Nat):Int),()),()))
 |d,0,k,_,h=>by omega
 |0,N+1,k,h,_=>by
  have hk:k=17:=by omega
  subst hk;rfl
 |d+1,N+1,k,h,u=>by
  have f:=OZ ⟨k+1,by omega⟩;have v:=ac2 (s.drop a) k;have g:=OZ ⟨uI (s.drop a) k,by omega⟩;have p:=aki ⟨k+1,by omega⟩;simp only at f g p;rw[Ot,acr,dn (ul),f,bT];simp only;rw[dD (a:=((k+1:Nat):Int)) (by omega) (by omega),show((k+1:Nat):Int)+1=((k+1+1:Nat):Int) by omega,cu,cu,iH];have i:=aeZ s l m d N (k+1) (by omega) (by omega);rw[uI]at i;by_cases e:a+(QO (k+1)).length<=s.length
  .rw[dn (ul),dD,show(a:Int)+(((QO (k+1)).length:Nat):Int)=((a+(QO (k+1)).length:Nat):Int) by omega,dn (ig (by omega) (by omega) (by omega)),DC];have q:iG ((s.drop a).take (QO (k+1)).length) (QO (k+1))=abU (QO (k+1)) (s.drop a):=by
    grind [iG,abU]
   rw[q];cases j:abU (QO (k+1)) (s.drop a)with
   |false=>simp_all
   |true=>
    rw[j]at i;rw[aa,g,bT];simp only[cu];by_cases e2:(QO (uI (s.drop a) k)).length<(QO (k+1)).length
    .rw[dn (fQ)];simp_all
    simp_all [nS]
  .rw[dY (Uy)];have j:abU (QO (k+1)) (s.drop a)=false:=by
    unfold abU
    grind
   simp_all
theorem aG1 (s:dC) (d:s.length<1000000) {a:Nat} (e:a<=s.length):arj s a=a6 (((uI (s.drop a) 17:Nat):Int),()):=by
 rw[arj];have h:=aeZ s d e 17 bY 0 rfl (di);rw[show Ot bY s (a:Int) 0 1=_ from h,bT];rfl
def opB:dC:=[38,124,59,60,62,45,40,41]
def Aw (c:UInt8):UInt8:=if opB.contains c=true then c else 0
theorem Z9: ∀(x u:dC),(∀c∈u,opB.contains c=true)->(x.map Aw=u↔x=u)
 |[],[],_=>Iff.rfl
 |[],_::_,_=>by simp
 |_::_,[],_=>by simp
 |c::x,d::u,h=>by
  have f:=h d (aU ..);have i:=Z9 x u fun c g=>h c (aB _ g);rw[ay,List.cons.injEq,List.cons.injEq,i];have:Aw c=d↔c=d:=by
   unfold Aw;split
   .exact Iff.rfl
   .rename_i g
    constructor
    .intro e;rw[<-e]at f;exact absurd f (by decide)
    grind
  rw[this]
theorem X4: ∀u∈Md,∀c∈u,opB.contains c=true:=by decide
theorem ato (x:dC):ofF (x.map Aw)=ofF x:=by
 unfold ofF;have:Md.findIdx? (· ==x.map Aw)=Md.findIdx? (· ==x):=by
  have h: ∀l:List dC,(∀u∈l,∀c∈u,opB.contains c=true)->l.findIdx? (· ==x.map Aw)=l.findIdx? (· ==x):=by
   intro l
   induction l with
   |nil=>intro _;rfl
   |cons u l d=>
    intro h;have e:(u==x.map Aw)=(u==x):=by
     have:=Z9 x u (h u (aU ..))
     grind
    grind
  exact h Md X4
 rw[this]
theorem atA (t:dC):BC t=BC ((t.take 3).map Aw):=by
 have h: ∀n,n<=3->Kq t n=Kq ((t.take 3).map Aw) n:=by
  intro n d
  induction n with
  |zero=>rfl
  |succ n e=>
   rw[Kq,Kq,<-List.map_take,List.take_take,Nat.min_eq_left d,ato,e (by omega)]
 grind [BC]
theorem SH (t:dC): ∀n,n<=17->uI t n=uI ((t.take 3).map Aw) n
 |0,_=>rfl
 |n+1,j=>by
  have f:=SH t n (by omega);have d:=aki ⟨n+1,by omega⟩;simp only at d;have e:abU (QO (n+1)) t=abU (QO (n+1)) ((t.take 3).map Aw):=by
   unfold abU;rw[<-List.map_take,List.take_take,Nat.min_eq_left d];have g: ∀c∈QO (n+1),opB.contains c=true:=by
    have:QO (n+1)∈Md:=by
     have i: ∀n:Fin 17,QO (n.val+1)∈Md:=by decide+kernel
     exact i ⟨n,by omega⟩
    exact X4 _ this
   rw[decide_eq_decide,Z9 _ _ g]
  rw[uI,uI,e,f]
def nB (n:Fin 9):UInt8:=([0,38,124,59,60,62,45,40,41]:dC).getD n.val 0
def okB (t:dC):Bool:=BC t==(uI t 17,(QO (uI t 17)).length)
theorem ok0:okB []=true:=by decide+kernel
theorem ok1: ∀a,okB [nB a]=true:=by decide+kernel
theorem ok2: ∀a b,okB [nB a,nB b]=true:=by decide+kernel
theorem ok3: ∀a b c,okB [nB a,nB b,nB c]=true:=by decide+kernel
theorem Ik (c:UInt8): ∃n,Aw c=nB n:=by
 unfold Aw;split
 .rename_i h
  have: ∀d∈opB,∃n,d=nB n:=by decide
  simp_all
 .exact⟨0,rfl⟩
theorem akj (t:dC):BC t=(uI t 17,(QO (uI t 17)).length):=by
 rw[atA,SH t 17 (af _)];have h:okB ((t.take 3).map Aw)=true:=by
  have g:(t.take 3).length<=3:=by grind
  rcases h:t.take 3 with _|⟨a,_|⟨b,_|⟨c,_|⟨d,l⟩⟩⟩⟩
  .exact ok0
  .obtain⟨x,e⟩:=Ik a;simp_all [ok1]
  .obtain⟨x,e⟩:=Ik a;obtain⟨y,f⟩:=Ik b;simp_all [ok2]
  .obtain⟨x,e⟩:=Ik a;obtain⟨y,f⟩:=Ik b;obtain⟨z,i⟩:=Ik c;simp_all [ok3]
  simp_all
 exact eq_of_beq h
theorem aG2 (s:dC) (d:s.length<1000000) {a:Nat} (e:a<=s.length):arj s a=a6 ((((BC (s.drop a)).1:Nat):Int),()):=by
 rw[aG1 s d e,akj]
theorem ayW (t:dC):ZA (((BC t).1:Nat):Int)=a6 (QO (BC t).1,())/\(QO (BC t).1).length=(BC t).2:=by
 have h:=(QZ t).2.2;refine⟨OZ ⟨(BC t).1,by omega⟩, ?_⟩;rw[akj]
theorem Qq {s:List UInt8} (p:s.length<1000000): ∀(N a:Nat),s.length-a<N->a<=s.length->
  ∃o,Oq N s (a:Int)=a6 o/\dX o (fun f=>a6 (f.1.1,())) (fun g=>a6 (g.1.1,()))=a6 ((((a+nK (s.drop a):Nat):Int)),())
 |0,a,h,_=>by omega
 |N+1,a,h,z=>by
  rw[Oq,acp];by_cases e:a<s.length
  .have hd:=aH e;have q:iy s (a:Int)=true:=fD;rw[dn (fQ (by rw[cu];omega)),q,byte_at e,hd,Ku];simp only[aa];have j: ∀m:Nat,a+m<=s.length->1<=m-> ∃o,Oq N s (dJ .i64 (a:Int) (m:Int))=a6 o/\dX o (fun f=>a6 (f.1.1,())) (fun g=>a6 (g.1.1,()))=a6 ((((a+(nK (s.drop (a+m))+m):Nat):Int)),()):=fun m u A=>by
    obtain⟨o,B,D⟩:=Qq p N (a+m) (by omega) u
    grind [dD]
   by_cases h32:s[a]=32
   .have:oW (s[a].toNat:Int)=true:=by rw[h32];rfl
    rw[this,am rfl,h32];exact j 1 (by omega) (by omega)
   .have l:cZ (s[a].toNat:Int) 32=false:=fB fun h=>h32 (UInt8.toNat_inj.1 (by grind));by_cases h9:s[a]=9
    .have:oW (s[a].toNat:Int)=true:=by rw[h9];rfl
     rw[this,am rfl,l,h9];exact j 1 (by omega) (by omega)
    .have v:cZ (s[a].toNat:Int) 9=false:=fB fun h=>h9 (UInt8.toNat_inj.1 (by grind));have x:oW (s[a].toNat:Int)=false:=by
      simp_all [oW,iT]
     rw[x,aq (by simp),l,v];simp only[ac];have i:CE (s[a]::s.drop (a+1))=false-> ∃o:abj.den⊕abR.den,a6 (.inl (((a:Int),()),()))=a6 o/\dX o (fun f=>a6 (f.1.1,())) (fun g=>a6 (g.1.1,()))=a6 ((((a+(if CE (s[a]::s.drop (a+1))=true then nK ((s.drop (a+1)).drop 1)+2 else 0):Nat):Int)),()):=fun h=>by
      rw[h,aq (by simp)];exact⟨_,rfl,rfl⟩
     by_cases h92:s[a]=92
     .rw[h92,show cZ (((92:UInt8).toNat:Nat):Int) 92=true from rfl,aa,dD,show(a:Int)+1=((a+1:Nat):Int) by omega];rw[h92]at i;by_cases e1:a+1<s.length
      .have y:=aH e1;rw[dn (fQ (by rw[cu];omega)),dn (fD),byte_at e1];by_cases h10:s[a+1]=10
       .rw[h10,show cZ (((10:UInt8).toNat:Nat):Int) 10=true from rfl,aa];have I:CE (92::s.drop (a+1))=true:=by rw[y,h10];rfl
        grind
       .rw[dY (fB fun h=>h10 (UInt8.toNat_inj.1 (by grind)))]
        grind [CE]
      .rw[dY (nS (by rw[cu];omega))];refine i ?_;rw[aO (by omega)];rfl
     .rw[dY (fB fun h=>h92 (UInt8.toNat_inj.1 (by grind)))];refine i ?_;cases s.drop (a+1)with
      |nil=>rfl
      |cons d t=>simp[CE,h92]
  .rw[dY (iL (by rw[cu];omega)),aO (by omega)];exact⟨_,rfl,rfl⟩
theorem awu {s:List UInt8} (d:s.length<1000000) {a:Nat} (e:a<=s.length):aw9 s a=a6 ((((a+nK (s.drop a):Nat):Int)),()):=by
 rw[aw9];obtain⟨o,f,g⟩:=Qq d bY a (di) e
 grind [bT]
theorem YG {s w:List UInt8} (g:s.length<1000000) {i:Nat} (hi:i<=s.length) (f:Bool): ∀(N k:Nat),i-k<N->k<=i->
  ∃d:Nat,UF N s (i:Int) (k:Int) w f=a6 (.inl ((s,(i:Int),(d:Int),()),((w,f,()),())))/\d<=i/\k<=d/\(s.take i).drop d=if f=true then((s.take i).drop k).dropWhile (· ==9)else(s.take i).drop k
 |0,k,h,_=>by omega
 |N+1,k,h,hk=>by
  rw[UF,aco];cases f with
  |false=>grind
  |true=>
   simp only[aa];by_cases e:k<i
   .have j:k<(s.take i).length:=by simp_all
    have hd:=aH j;rw[List.getElem_take]at hd;rw[dn (fQ),dn (fD),byte_at (by omega)];by_cases h9:s[k]=9
    .rw[h9,show cZ (((9:UInt8).toNat:Nat):Int) 9=true from rfl,aa,dD,show(k:Int)+1=((k+1:Nat):Int) by omega];obtain⟨d,l,m,p,q⟩:=YG g hi true N (k+1) (by omega) (by omega);exact⟨d,l,m,by omega,by simp_all⟩
    .rw[dY (fB fun h=>h9 (UInt8.toNat_inj.1 (by grind)))];exact⟨k,rfl,hk,af _,by simp_all⟩
   .rw[dY (iL)];refine⟨k,rfl,hk,af _, ?_⟩;simp_all [aO]
theorem XQ {s:List UInt8} {f i:Nat} (d:f<=i) (h2:i<iW s f) (e:i<s.length):s[i]≠10:=by
 have:=GZ (· !=10) (s.drop f) (i-f) (by grind) (by grind [iW]);simp_all
theorem UC {s:List UInt8} {f:Nat} (d:iW s f<s.length):s[iW s f]=10:=by
 have:=Cc (· !=10) (s.drop f) (by grind [iW]);simp_all [iW]
def aG5 (s:dC) (h:Nat×Bool):abh.den⊕abQ.den:=if h.2=true then .inr ((((h.1:Nat):Int),1,()),())else .inl ((s,()),())
theorem JS {s w:List UInt8} (j:s.length<1000000) (d:Bool): ∀(N f i M:Nat),s.length+1-i<N->f<=i->i<=iW s f->f<=s.length->s.length-f<M->
  Ej N s (f:Int) (i:Int) w d=a6 (aG5 s (kK s w d M f))
 |0,f,i,M,h,_,_,_,_=>by omega
 |N+1,f,i,0,h,l,A,p,u=>by omega
 |N+1,f,i,M+1,h,l,A,p,u=>by
  have I:=wQ p;have v:iG (rD s d f) w=decide (rD s d f=w):=by
   grind [iG]
  have stop: ∀N,0<N->Ej N s ((s.length+1:Nat):Int) ((s.length+1:Nat):Int) w d=a6 (.inl ((s,()),()))/\Ej N s (f:Int) ((s.length+1:Nat):Int) w d=a6 (.inl ((s,()),())):=fun N J=>by
   obtain⟨n,rfl⟩: ∃n,N=n+1:=⟨N-1,by omega⟩;constructor
   ·(rewrite [Ej,O7];delta wZ;rw[dY (Uy (by rw[cu];omega))])
   ·(rewrite [Ej,O7];delta wZ;rw[dY (Uy (by rw[cu];omega))])
  have x: ∀m,kK s w d m s.length=(s.length,false):=fun m=>by
   cases m with
   |zero=>rfl
   |succ m=>simp_all [kK]
  (rewrite [Ej,O7];delta wZ;rw[dn (ul (by rw[cu];omega))])
  by_cases e:i<iW s f
  .have g:i<s.length:=by omega
   rw[dn (fQ (by rw[cu];omega)),dn (fD),byte_at g,fB fun h=>XQ l e g (UInt8.toNat_inj.1 (by grind))];simp only[aF,aa];rw[dD,show(i:Int)+1=((i+1:Nat):Int) by omega];exact JS j d N f (i+1) (M+1) (by omega) (by omega) (by omega) p u
  .have g:i=iW s f:=by omega
   obtain⟨B,y,K,L,O⟩:=YG (w:=w) j (i:=i) (by omega) d bY f (di) l;have hT:sub s (B:Int) (i:Int)=rD s d f:=by
    simp_all [rD,sub]
   by_cases hl:i<s.length
   .have D:s[i]=10:=by subst g;exact UC hl
    have q:lS s f=i+1:=by unfold lS;grind
    rw[dn (fQ (by rw[cu];omega)),dn (fD),byte_at hl,D,show cZ (((10:UInt8).toNat:Nat):Int) 10=true from rfl];simp only[au,ac];rw[dY (fB (by rw[cu];omega)),y,bT];simp only[dX];rw[dn (ig (by omega) (by omega) (by rw[cu];omega)),hT,v,kK,am (by omega),q];rw[dn (fQ (by rw[cu];omega)),dD,show(i:Int)+1=((i+1:Nat):Int) by omega];by_cases hw:rD s d f=w
    .rw[decide_eq_true hw,aa,am hw];rfl
    .rw[decide_eq_false hw,ac,aq hw];exact JS j d N (i+1) (i+1) M (by omega) (af _) (wP s _) (by omega) (by omega)
   .have z:i=s.length:=by omega
    rw[dY (nS (by rw[cu];omega)),dn (gz (by rw[cu];omega))];by_cases hfi2:f=i
    .rw[dn (gz),dD,show(i:Int)+1=((s.length+1:Nat):Int) by omega,(stop N (by omega)).2,hfi2,z,x];rfl
    .have q:lS s f=s.length:=by simp_all [lS]
     rw[dY (fB),y,bT];simp only[dX];rw[dn (ig (by omega) (by omega) (by rw[cu];omega)),hT,v,kK,am (by omega),q];rw[dY (nS (by rw[cu];omega))];by_cases hw:rD s d f=w
     .rw[decide_eq_true hw,aa,am hw,z];rfl
     .rw[decide_eq_false hw,ac,aq hw,x,dD,show(i:Int)+1=((s.length+1:Nat):Int) by omega,(stop N (by omega)).1];rfl
theorem HY (s w:dC) (d:Bool): ∀(N a:Nat),s.length-a<N->a<=s.length->(kK s w d N a).1<=s.length/\((kK s w d N a).2=false->(kK s w d N a).1=s.length)/\(a<s.length->a<(kK s w d N a).1)
 |0,a,h,_=>by omega
 |N+1,a,h,j=>by
  rw[kK];by_cases e:a<s.length
  .have g:=UV e;rw[am e];split
   .simp_all
   .have f:=HY s w d N (lS s a) (by omega) g.2;refine⟨f.1,f.2.1,fun _=> ?_⟩;rcases ak (lS s a) s.length with i|i
    .omega
    .cases N with
     |zero=>omega
     |succ N=>simp_all [kK,aq]
  grind
theorem aBU {s:List UInt8} (e:s.length<1000000) (d:dC×Bool×Unit) {a:Nat} (f:a<=s.length):aw8 s a d=a6 ((((rC s d.1 d.2.1 a).1:Nat):Int),((if(rC s d.1 d.2.1 a).2=true then 1 else 0),())):=by
 rw[aw8,JS e d.2.1 bY a a bY (di) (af _) (wP s a) f (di),bT]
 grind [HY,di,aG5,rC,dX,cu]
theorem auI {s:gB} (d:jg s):GH s=(iG (so s) [84]||iG (so s) [84,76]):=by
 rw[auM d,alA d]
 match s,d with
 |[],d=>cases d
 |[f],d=>have h:f.1=0:=d;simp[GH,h]
 |[f,g],d=>
  have e:=d.1;have i:g.1=0:=d.2.2.2
  grind [GH]
 |f::g::h::r,d=>
  have e:=d.2.2.2.1;have j:=d.2.2.1
  grind [QM,GH]
end
section
open Option renaming some → a6, none → a7
open Tryz
open Go.RowKit
noncomputable def aFy:Code:=(f106.body).getD .skip
noncomputable def ape:Code:=cA (cA (cB (cA (cB (aFy)))))
def arN:fZ:=⟨[0,1,4,6,100002],[],[4],[],[4,5],[]⟩
def aam:SP:=⟨us [.v Xf,bL,.u,.u,ey,.u,bL] 18,[dg]⟩
def aaQ:SP:=⟨us [.u,.u,.u,.u,ey] 20,[dg]⟩
def abn:SP:=⟨us [.u,.u,.u,.u,ey,bL] 19,[dg]⟩
def Rw {f:Type} (q:(List jT)->Int->Int->Int->Int->Int->Int->Bool->Option f) (u:Int->Int->Int->Int->Bool->Option f) (v:Int->Int->Int->Int->Int->Bool->Option f) (d:List jT) (g e i j l m:Int) (p:Bool):Option f:=cond (iV e (bV d)) (cond (iy d e) (cond (cZ (gW d (0,(0,(0,(0,(false,()))))) e).2.1 g) (cond (iy d e) (v 1 (gW d (0,(0,(0,(0,(false,()))))) e).1 (gW d (0,(0,(0,(0,(false,()))))) e).2.1 (gW d (0,(0,(0,(0,(false,()))))) e).2.2.1 (gW d (0,(0,(0,(0,(false,()))))) e).2.2.2.1 (gW d (0,(0,(0,(0,(false,()))))) e).2.2.2.2.1) a7)<|q d g (dJ .i64 e 1) i j l m p) a7)<|u i j l m p
def Ia:Nat->(List jT)->Int->Int->Int->Int->Int->Int->Bool->Option (aaQ.den⊕abn.den)
 |0,_,_,_,_,_,_,_,_=>a7
 |n+1,d,e,f,g,i,j,l,m=>Rw (Ia n) (fun p q u v x=>a6 (.inl ((),((p,q,u,v,x,()),())))) (fun y z A B D I=>a6 (.inr ((y,()),((z,A,B,D,I,()),())))) d e f g i j l m
def axK (n:Nat) (v:aam.den):=Ia n v.1.1 v.1.2.1 v.1.2.2.1 v.2.1.1 v.2.1.2.1 v.2.1.2.2.1 v.2.1.2.2.2.1 v.2.1.2.2.2.2.1
noncomputable def ajK:dO:=iq arN aam aaQ abn (.exit 0) (axK bY) 6
def adw (e:List jT) (f:Int):Option (jT×Int×Unit):=bU (Ia bY e f 0 0 0 0 0 false) fun g=>dX g (fun i=>a6 ((0,(0,(0,(0,(false,()))))),(0,()))) (fun d=>a6 ((d.2.1.1,(d.2.1.2.1,(d.2.1.2.2.1,(d.2.1.2.2.2.1,(d.2.1.2.2.2.2.1,()))))),(d.1.1,())))
def ah8:Sum:=⟨[Xf,dL],[(.pair dL YI,false),(.int .i64,false)],fun x=>adw x.1 x.2.1⟩
noncomputable def af4:Env:=kU prog tt 106 [] [(2,arN)] [(2,ajK)]
def ak0 {d:Type} (a:aam.den->Option d) (b:aaQ.den->Option d) (c:abn.den->Option d) (v:aam.den):Option d:=Rw (fun e f g i j l m p=>a ((e,f,g,()),((i,j,l,m,p,()),()))) (fun q u x y z=>b ((),((q,u,x,y,z,()),()))) (fun A B D I J K=>c ((A,()),((B,D,I,J,K,()),()))) v.1.1 v.1.2.1 v.1.2.2.1 v.2.1.1 v.2.1.2.1 v.2.1.2.2.1 v.2.1.2.2.2.1 v.2.1.2.2.2.2.1
theorem ayj:eY af4 106 ape ajK:=En (ak0) (h2:=by intros;simp only[ak0,Rw,dG,dH,bT,dw,dI])
theorem aB9:eP af4 106 aFy:=tC [ape] (aD (fM (ayj)) aN)
theorem amg:gm af4:=eA f106 aN (aB9)
theorem Yp:eX prog 106 ah8:=sA amg
def gK (d:List IL):=gW d (false,(false,([],()))) (fO .i64 (bV d) 1)
def jS (d:List IL) (e:dC):=iG (bZ (gK d).2.2.1 e) (bZ (gK d).2.2.1 e)
def uh (d:List IL):=qV Xe (sub d 0 (fO .i64 (bV d) 1)) (sub d 0 (fO .i64 (bV d) 1))
def lH (d:List IL):=qV Xe d d
def xH (d:List IL) (e:dC):=bZ (bZ [] (sub d 0 (fO .i64 (bV d) 1))) [(false,(false,((bZ (gK d).2.2.1 e),())))]
def oC (d:List IL):=cZ (fO .i64 (bV d) 1) (fO .i64 (bV d) 1)
def lI (d:List IL):=iG (gK d).2.2.1 (gK d).2.2.1
def vI (d:List IL):=gy (bV d) 0 (fO .i64 (bV d) 1)
def Zp (d:List IL) (e:dC):Option ((List IL)×Unit):=cond (fG (bZ [] d) 24) (cond (fG (bZ (bZ [] d) [(false,(false,(e,())))]) 24) (a6 ((bZ (bZ [] d) [(false,(false,(e,())))]),())) a7) a7
def Xz (d:List IL) (e:dC) (f:Bool):Option ((List IL)×Unit):=cond (iV 0 (bV d)) (cond (!f) (cond (iy d (fO .i64 (bV d) 1)) (cond (vI d) (cond (jf (gK d).2.2.1 e) (cond (lH d) (cond (cZ (bV d) (bV d)) (cond (oC d) (cond (vI d) (cond (uh d) (cond (lI d) (cond (iG e e) (cond (jf (gK d).2.2.1 e) (cond (jS d e) (cond ((kV false false)&&((kV false false)&&((jS d e)&&true))) (cond (fG (bZ [] (sub d 0 (fO .i64 (bV d) 1))) 24) (cond (lH d) (cond (cZ (bV d) (bV d)) (cond (oC d) (cond (lI d) (cond (iG e e) (cond (jf (gK d).2.2.1 e) (cond (jS d e) (cond ((kV false false)&&((kV false false)&&((jS d e)&&true))) (cond (lH d) (cond (cZ (bV d) (bV d)) (cond (oC d) (cond (vI d) (cond (uh d) (cond (lI d) (cond (iG e e) (cond (jf (gK d).2.2.1 e) (cond (jS d e) (cond (fG (xH d e) 24) (cond (lH d) (cond (cZ (bV d) (bV d)) (cond (oC d) (cond (vI d) (cond (uh d) (cond (lI d) (cond (iG e e) (cond (jf (gK d).2.2.1 e) (cond (jS d e) (cond ((kV false false)&&((kV false false)&&((jS d e)&&true))) (bU (cond (lH d) (cond (cZ (bV d) (bV d)) (cond (oC d) (cond (vI d) (cond (uh d) (cond (lI d) (cond (iG e e) (cond (jf (gK d).2.2.1 e) (cond (jS d e) (cond (fG (bZ [] (sub d 0 (fO .i64 (bV d) 1))) 24) (cond (lH d) (cond (cZ (bV d) (bV d)) (cond (oC d) (cond (lI d) (cond (iG e e) (cond (jf (gK d).2.2.1 e) (cond (jS d e) (cond ((kV false false)&&((kV false false)&&((jS d e)&&true))) (cond (fG (xH d e) 24) (cond (lH d) (cond (cZ (bV d) (bV d)) (cond (oC d) (cond (vI d) (cond (uh d) (cond (lI d) (cond (iG e e) (cond (jf (gK d).2.2.1 e) (cond (jS d e) (cond ((kV false false)&&((kV false false)&&((jS d e)&&true))) (cond ((((lH d)&&((iG e e)&&((kV f f)&&((cZ (bV d) (bV d))&&((lH d)&&((cZ (bV d) (bV d))&&((cZ (bV d) (bV d))&&((kV (iV 0 (bV d)) (iV 0 (bV d)))&&((kV true true)&&((kV f f)&&((kV (!f) (!f))&&((kV (!f) (!f))&&((lH d)&&((cZ (bV d) (bV d))&&((oC d)&&(((kV (gK d).1 (gK d).1)&&((kV (gK d).2.1 (gK d).2.1)&&((lI d)&&true)))&&(((kV (gK d).1 (gK d).1)&&((kV (gK d).2.1 (gK d).2.1)&&((lI d)&&true)))&&((lH d)&&((cZ (bV d) (bV d))&&((oC d)&&((uh d)&&((lI d)&&((iG e e)&&((jS d e)&&(((kV false false)&&((kV false false)&&((jS d e)&&true)))&&true)))))))))))))))))))))))))&&(((qV Xe [(false,(false,((bZ (gK d).2.2.1 e),())))] [(false,(false,((bZ (gK d).2.2.1 e),())))])&&((qV Xe (xH d e) (xH d e))&&(((kV (gK d).1 (gK d).1)&&((kV (gK d).2.1 (gK d).2.1)&&((lI d)&&true)))&&true)))&&true))&&true) (a6 ()) (a7)) (a7)) (a7)) (a7)) (a7)) (a7)) (a7)) (a7)) (a7)) (a7)) (a7)) (a7)) (a7)) (a7)) (a7)) (a7)) (a7)) (a7)) (a7)) (a7)) (a7)) (a7)) (a7)) (a7)) (a7)) (a7)) (a7)) (a7)) (a7)) (a7)) fun g=>bU (cond (lH d) (cond (cZ (bV d) (bV d)) (cond (oC d) (cond (vI d) (cond (uh d) (cond (lI d) (cond (iG e e) (cond (jf (gK d).2.2.1 e) (cond (jS d e) (cond (lH d) (cond (cZ (bV d) (bV d)) (cond (oC d) (cond (vI d) (cond (uh d) (cond (lI d) (cond (iG e e) (cond (jf (gK d).2.2.1 e) (cond (jS d e) (cond ((kV false false)&&((kV false false)&&((jS d e)&&true))) (cond (fG (bZ [] (sub d 0 (fO .i64 (bV d) 1))) 24) (cond (lH d) (cond (cZ (bV d) (bV d)) (cond (oC d) (cond (lI d) (cond (iG e e) (cond (jf (gK d).2.2.1 e) (cond (jS d e) (cond ((kV false false)&&((kV false false)&&((jS d e)&&true))) (cond (fG (xH d e) 24) (cond (lH d) (cond (cZ (bV d) (bV d)) (cond (oC d) (cond (vI d) (cond (uh d) (cond (lI d) (cond (iG e e) (cond (jf (gK d).2.2.1 e) (cond (jS d e) (cond ((kV false false)&&((kV false false)&&((jS d e)&&true))) (cond ((((lH d)&&((iG e e)&&((kV f f)&&((cZ (bV d) (bV d))&&((lH d)&&((cZ (bV d) (bV d))&&((cZ (bV d) (bV d))&&((kV (iV 0 (bV d)) (iV 0 (bV d)))&&((kV true true)&&((kV f f)&&((kV (!f) (!f))&&((kV (!f) (!f))&&((lH d)&&((cZ (bV d) (bV d))&&((oC d)&&(((kV (gK d).1 (gK d).1)&&((kV (gK d).2.1 (gK d).2.1)&&((lI d)&&true)))&&(((kV (gK d).1 (gK d).1)&&((kV (gK d).2.1 (gK d).2.1)&&((lI d)&&true)))&&((lH d)&&((cZ (bV d) (bV d))&&((oC d)&&((uh d)&&((lI d)&&((iG e e)&&((jS d e)&&(((kV false false)&&((kV false false)&&((jS d e)&&true)))&&true)))))))))))))))))))))))))&&(((qV Xe [(false,(false,((bZ (gK d).2.2.1 e),())))] [(false,(false,((bZ (gK d).2.2.1 e),())))])&&((qV Xe (xH d e) (xH d e))&&(((kV (gK d).1 (gK d).1)&&((kV (gK d).2.1 (gK d).2.1)&&((lI d)&&true)))&&true)))&&true))&&true) (a6 ()) (a7)) (a7)) (a7)) (a7)) (a7)) (a7)) (a7)) (a7)) (a7)) (a7)) (a7)) (a7)) (a7)) (a7)) (a7)) (a7)) (a7)) (a7)) (a7)) (a7)) (a7)) (a7)) (a7)) (a7)) (a7)) (a7)) (a7)) (a7)) (a7)) (a7)) (a7)) (a7)) (a7)) (a7)) (a7)) (a7)) (a7)) (a7)) (a7)) (a7)) fun i=>a6 ((xH d e),())) a7) a7) a7) a7) a7) a7) a7) a7) a7) a7) a7) a7) a7) a7) a7) a7) a7) a7) a7) a7) a7) a7) a7) a7) a7) a7) a7) a7) a7) a7) a7) a7) a7) a7) a7) a7) a7) a7) a7) a7) a7) a7)<|Zp d e)<|Zp d e
def auP:Sum:=⟨[.list Xe,.str,.bool],[(.list Xe,true)],fun x=>Xz x.1 x.2.1 x.2.2.1⟩
theorem anW:eX prog 107 auP:=qA f107 [] aN
noncomputable def aFz:Code:=(f108.body).getD .skip
noncomputable def apf:Code:=cA (cA (cA (cB (cB (cB (cB (aFz)))))))
def arO:fZ:=⟨[0,1,3,9,10,11,100004],[(9,Xe)],[9,10],[],[8],[(8,Xe)]⟩
def aan:SP:=⟨us [bN,.v Xf,.u,bL,.u,.u,.u,.u,.u,.slc 1800009,bN,bL] 112,[.arr 1800009 Xe]⟩
def aaR:SP:=⟨us [.u,.u,.u,.u,.u,.u,.u,.u,.u,.slc 1800009,bN] 113,[.arr 1800009 Xe]⟩
def abo:SP:=⟨us [.u,.u,.u,.u,.u,.u,.u,.u,.v (.list Xe)] 115,[]⟩
def yL {f:Type} (e:dC) (d:Int) (g:dC) (i:dC->(List jT)->Int->dC->Int->(List IL)->Option f) (j:List jT) (l:Int) (m:(jT×Int×Unit)) (p:List IL):Option f:=cond (gy (bV e) (dJ .i64 d 1) (dJ .i64 d 2)) (cond (jf g (sub e (dJ .i64 d 1) (dJ .i64 d 2))) (i e j l (bZ g (sub e (dJ .i64 d 1) (dJ .i64 d 2))) m.1.2.2.1 p) a7) a7
def Iu {p:Type} (f:(jT×Int×Unit)) (e:Int) (d g:dC) (j:dC->(List jT)->Int->dC->Int->(List IL)->Option p) (l:List jT) (m:Int) (i:List IL):Option p:=cond (cZ f.1.1 13) (cond (cZ f.1.2.2.1 (dJ .i64 e 2)) (cond (iy d (dJ .i64 e 1)) (cond (cZ (dm d (dJ .i64 e 1)) 36) (yL d e g j l m f i)<|cond (cZ (dm d (dJ .i64 e 1)) 96) (yL d e g j l m f i)<|cond (cZ (dm d (dJ .i64 e 1)) 34) (yL d e g j l m f i)<|cond (cZ (dm d (dJ .i64 e 1)) 92) (yL d e g j l m f i)<|cond (!(cZ (dm d (dJ .i64 e 1)) 10)) (cond (gy (bV d) e (dJ .i64 e 2)) (cond (jf g (sub d e (dJ .i64 e 2))) (j d l m (bZ g (sub d e (dJ .i64 e 2))) f.1.2.2.1 i) a7) a7)<|j d l m g f.1.2.2.1 i) a7)<|j d l m g f.1.2.2.1 i)<|cond (!(iG g [])) (cond (fG (bZ i [(false,(true,(g,())))]) 24) (cond (gy (bV d) e f.1.2.2.1) (cond (fG (bZ (bZ i [(false,(true,(g,())))]) [(true,(true,((sub d e f.1.2.2.1),())))]) 24) (j d l m [] f.1.2.2.1 (bZ (bZ i [(false,(true,(g,())))]) [(true,(true,((sub d e f.1.2.2.1),())))])) a7) a7) a7)<|cond (gy (bV d) e f.1.2.2.1) (cond (fG (bZ i [(true,(true,((sub d e f.1.2.2.1),())))]) 24) (j d l m [] f.1.2.2.1 (bZ i [(true,(true,((sub d e f.1.2.2.1),())))])) a7) a7
def Rx {m:Type} (p:dC->(List jT)->Int->dC->Int->(List IL)->Option m) (q:dC->(List IL)->Option m) (u:(List IL)->Option m) (e:dC) (g:List jT) (i:Int) (f:dC) (d:Int) (j:List IL):Option m:=cond (iV d i) (bU (adw g d) fun l=>cond (cZ l.2.1 0) (cond (gy (bV e) d (dJ .i64 d 1)) (cond (jf f (sub e d (dJ .i64 d 1))) (p e g i (bZ f (sub e d (dJ .i64 d 1))) (dJ .i64 d 1) j) a7) a7)<|cond (cZ l.1.1 12) (cond (cZ l.1.2.2.1 (dJ .i64 d 1)) (cond (gy (bV e) d (dJ .i64 d 1)) (cond (jf f (sub e d (dJ .i64 d 1))) (p e g i (bZ f (sub e d (dJ .i64 d 1))) (dJ .i64 d 1) j) a7) a7)<|Iu l d e f p g i j)<|Iu l d e f p g i j)<|q f j
def xK:Nat->dC->(List jT)->Int->dC->Int->(List IL)->Option (aaR.den⊕abo.den)
 |0,_,_,_,_,_,_=>a7
 |n+1,d,e,f,g,i,j=>Rx (xK n) (fun l m=>a6 (.inl ((l,()),(m,())))) (fun p=>a6 (.inr ((p,()),()))) d e f g i j
def axL (n:Nat) (v:aan.den):=xK n v.1.1 v.1.2.1 v.1.2.2.1 v.1.2.2.2.1 v.1.2.2.2.2.1 v.2.1
noncomputable def ajL:dO:=iq arO aan aaR abo (.exit 0) (axL bY) 6
def PQ (e:dC) (f:List jT) (g i:Int):Option ((List IL)×Unit):=bU (xK bY e f i [] g []) fun j=>dX j (fun d=>cond (!(iG d.1.1 [])) (cond (fG (bZ d.2.1 [(false,(true,(d.1.1,())))]) 24) (a6 ((bZ d.2.1 [(false,(true,(d.1.1,())))]),())) a7)<|cond (cZ (bV d.2.1) 0) (cond (fG (bZ d.2.1 [(false,(true,(d.1.1,())))]) 24) (a6 ((bZ d.2.1 [(false,(true,(d.1.1,())))]),())) a7)<|some (d.2.1,())) (fun l=>a6 (l.1.1,()))
def auQ:Sum:=⟨[.str,Xf,dL,dL],[(.list Xe,false)],fun x=>PQ x.1 x.2.1 x.2.2.1 x.2.2.2.1⟩
noncomputable def af5:Env:=kU prog tt 108 [(106,ah8)] [(4,arO)] [(4,ajL)]
def ak1 {d:Type} (a:aan.den->Option d) (b:aaR.den->Option d) (c:abo.den->Option d) (v:aan.den):Option d:=Rx (fun e f g i j l=>a ((e,f,g,i,j,()),(l,()))) (fun m p=>b ((m,()),(p,()))) (aE c) v.1.1 v.1.2.1 v.1.2.2.1 v.1.2.2.2.1 v.1.2.2.2.2.1 v.2.1
theorem ayk:eY af5 108 apf ajL:=En (ak1) (h2:=by intros;simp only[ak1,aE,Rx,dG,dH,bT,dw,dI,yL,Iu])
theorem aCa:eP af5 108 aFz:=tC [apf] (aD (fM (ayk)) aN)
theorem amh:gm af5:=eA f108 (aD Yp aN) (aCa)
theorem anX:eX prog 108 auQ:=sA amh
noncomputable def b78:Code:=(f78.body).getD .skip
noncomputable def azD:Code:=cA (cA (cA (cB (cB (cB (cB (cB (b78))))))))
def az3:fZ:=⟨[0,3,4,5,6,100005],[(4,.pair (.list .bool) Xe)],[4],[],[2],[(2,Xe)]⟩
def akF:SP:=⟨us [bN,.u,.u,.v Xf,dv,bX,bL] 130,[.arr 1800004 Xe]⟩
def aht:SP:=⟨us [.u,.u,.u,.u,dv] 132,[.arr 1800004 Xe]⟩
def ahO:SP:=⟨us [.u,.u,.v (.list Xe)] 134,[]⟩
def GM {i:Type} (f:(jT×Int×Unit)) (e:dC) (d:Int) (j:List IL) (l:Bool) (m:dC->(List jT)->Bool->Int->(List IL)->Option i) (p:List jT):Option i:=cond (cZ f.2.1 1) (cond (gy (bV e) d f.1.2.2.1) (bU (Xz j (sub e d f.1.2.2.1) l) fun g=>m e p false f.1.2.2.1 g.1) a7)<|cond (gy (bV e) d (dJ .i64 d 1)) (bU (Xz j (sub e d (dJ .i64 d 1)) l) fun g=>m e p false (dJ .i64 d 1) g.1) a7
def Np {l:Type} (d:(jT×Int×Unit)) (e:dC) (f:List IL) (i:dC->(List jT)->Bool->Int->(List IL)->Option l) (g:List jT) (m:Bool):Option l:=cond (cZ d.1.1 13) (cond (cZ d.1.2.2.1 (dJ .i64 d.1.2.1 2)) (cond (iy e (dJ .i64 d.1.2.1 1)) (cond (!(cZ (dm e (dJ .i64 d.1.2.1 1)) 10)) (cond (gy (bV e) (dJ .i64 d.1.2.1 1) d.1.2.2.1) (cond (fG (bZ f [(false,(true,((sub e (dJ .i64 d.1.2.1 1) d.1.2.2.1),())))]) 24) (i e g true d.1.2.2.1 (bZ f [(false,(true,((sub e (dJ .i64 d.1.2.1 1) d.1.2.2.1),())))])) a7) a7)<|i e g m d.1.2.2.1 f) a7)<|i e g m d.1.2.2.1 f)<|cond (cZ d.1.1 4) (cond d.1.2.2.2.2.1 (cond (gy (bV e) (dJ .i64 d.1.2.1 1) d.1.2.2.1) (cond (fG (bZ f [(false,(true,((sub e (dJ .i64 d.1.2.1 1) d.1.2.2.1),())))]) 24) (i e g true d.1.2.2.1 (bZ f [(false,(true,((sub e (dJ .i64 d.1.2.1 1) d.1.2.2.1),())))])) a7) a7)<|cond (gy (bV e) (dJ .i64 d.1.2.1 1) (fO .i64 d.1.2.2.1 1)) (cond (fG (bZ f [(false,(true,((sub e (dJ .i64 d.1.2.1 1) (fO .i64 d.1.2.2.1 1)),())))]) 24) (i e g true d.1.2.2.1 (bZ f [(false,(true,((sub e (dJ .i64 d.1.2.1 1) (fO .i64 d.1.2.2.1 1)),())))])) a7) a7)<|cond (cZ d.1.1 5) (cond d.1.2.2.2.2.1 (bU (PQ e g (dJ .i64 d.1.2.1 1) d.1.2.2.1) fun j=>cond (fG (bZ f j.1) 24) (i e g true d.1.2.2.1 (bZ f j.1)) a7)<|bU (PQ e g (dJ .i64 d.1.2.1 1) (fO .i64 d.1.2.2.1 1)) fun j=>cond (fG (bZ f j.1) 24) (i e g true d.1.2.2.1 (bZ f j.1)) a7)<|cond (gy (bV e) d.1.2.1 d.1.2.2.1) (cond (fG (bZ f [(true,(false,((sub e d.1.2.1 d.1.2.2.1),())))]) 24) (i e g true d.1.2.2.1 (bZ f [(true,(false,((sub e d.1.2.1 d.1.2.2.1),())))])) a7) a7
def acy {m:Type} (j:dC->(List jT)->Bool->Int->(List IL)->Option m) (p q:(List IL)->Option m) (e:dC) (f:List jT) (l:Bool) (g:Int) (i:List IL):Option m:=cond (iV g (bV e)) (bU (adw f g) fun d=>cond (cZ d.2.1 0) (GM d e g i l j f)<|cond (cZ d.1.1 14) (GM d e g i l j f)<|cond (cZ d.1.1 12) (cond (cZ d.1.2.2.1 (dJ .i64 g 1)) (GM d e g i l j f)<|Np d e i j f l)<|Np d e i j f l)<|p i
def sZ:Nat->dC->(List jT)->Bool->Int->(List IL)->Option (aht.den⊕ahO.den)
 |0,_,_,_,_,_=>a7
 |n+1,d,e,f,g,i=>acy (sZ n) (fun j=>a6 (.inl ((),(j,())))) (fun l=>a6 (.inr ((l,()),()))) d e f g i
def aC0 (n:Nat) (v:akF.den):=sZ n v.1.1 v.1.2.1 v.1.2.2.1 v.1.2.2.2.1 v.2.1
noncomputable def as8:dO:=iq az3 akF aht ahO (.exit 0) (aC0 bY) 6
def axc (d:dC):Option ((List IL)×Unit):=bU (aiL d) fun e=>bU (sZ bY d e.1 true 0 []) fun f=>dX f (fun g=>a6 (g.2.1,())) (fun i=>a6 (i.1.1,()))
def aAH:Sum:=⟨[.str],[(.list Xe,false)],fun x=>axc x.1⟩
noncomputable def aqI:Env:=kU prog tt 78 [(105,auO),(106,ah8),(107,auP),(108,auQ)] [(5,az3)] [(5,as8)]
def aut {d:Type} (a:akF.den->Option d) (b:aht.den->Option d) (c:ahO.den->Option d) (v:akF.den):Option d:=acy (fun e f g i j=>a ((e,f,g,i,()),(j,()))) (fun l=>b ((),(l,()))) (aE c) v.1.1 v.1.2.1 v.1.2.2.1 v.1.2.2.2.1 v.2.1
theorem aDA:eY aqI 78 azD as8:=En (aut) (h2:=by intros;simp only[aut,aE,acy,dG,dH,bT,dw,dI,GM,Np])
theorem aGP:eP aqI 78 b78:=tC [azD] (aD (fM (aDA)) aN)
theorem aqJ:gm aqI:=eA f78 (aD anV (aD Yp (aD anW (aD anX aN)))) (aGP)
theorem avG:eX prog 78 aAH:=sA aqJ
noncomputable def b54:Code:=(f54.body).getD .skip
noncomputable def azx:Code:=cA (cA (cB (cA (cB (cB (cB (b54)))))))
def azZ:fZ:=⟨[3,4,5,100004],[],[4],[],[2],[]⟩
def akz:SP:=⟨us [.u,.u,.u,.v (.list Xe),bN,bL] 16,[]⟩
def ahn:SP:=⟨us [.u,.u,.u,.u,bN] 17,[]⟩
def ahJ:SP:=⟨us [.u,.u,bN] 19,[]⟩
def acu {f:Type} (i:(List IL)->dC->Int->Option f) (j l:dC->Option f) (d:List IL) (g:dC) (e:Int):Option f:=cond (iV e (bV d)) (cond (iy d e) (cond (jf g (gW d (false,(false,([],()))) e).2.2.1) (i d (bZ g (gW d (false,(false,([],()))) e).2.2.1) (dJ .i64 e 1)) a7) a7)<|j g
def Ov:Nat->(List IL)->dC->Int->Option (ahn.den⊕ahJ.den)
 |0,_,_,_=>a7
 |n+1,d,e,f=>acu (Ov n) (fun g=>a6 (.inl ((g,()),()))) (fun i=>a6 (.inr ((i,()),()))) d e f
def aCU (n:Nat) (v:akz.den):=Ov n v.1.1 v.1.2.1 v.1.2.2.1
noncomputable def as2:dO:=iq azZ akz ahn ahJ (.exit 0) (aCU bY) 6
def ark (d:dC):Option (dC×Unit):=bU (axc d) fun e=>bU (Ov bY e.1 [] 0) fun f=>dX f (fun g=>a6 (g.1.1,())) (fun i=>a6 (i.1.1,()))
def aAz:Sum:=⟨[.str],tzI,fun x=>ark x.1⟩
noncomputable def aqw:Env:=kU prog tt 54 [(78,aAH)] [(4,azZ)] [(4,as2)]
def aun {d:Type} (a:akz.den->Option d) (b:ahn.den->Option d) (c:ahJ.den->Option d) (v:akz.den):Option d:=acu (fun e f g=>a ((e,f,g,()),())) (aE b) (aE c) v.1.1 v.1.2.1 v.1.2.2.1
theorem aDu:eY aqw 54 azx as2:=En (aun) (h2:=by intros;simp only[aun,aE,acu,dG,dH,bT,dw,dI])
theorem aGJ:eP aqw 54 b54:=tC [azx] (aD (fM (aDu)) aN)
theorem aqx:gm aqw:=eA f54 (aD avG aN) (aGJ)
theorem avz:eX prog 54 aAz:=sA aqx
end
section
open Option renaming some → a6, none → a7
open Bool renaming and_true → aj, not_false → aF
open List renaming length_append → ae, append_assoc → ag, length_singleton → aA, append_nil → aG, drop_eq_getElem_cons → aH, drop_of_length_le → aO, nil_append → aQ, take_of_length_le → bD
open Nat renaming le_trans → aK
open Go.RowKit
abbrev Pce:=Bool×Bool×List UInt8×Unit
def dPc:Pce:=(false,(false,([],())))
def lD (l:List Pce):dC:=(l.map (·.2.2.1)).flatten
theorem zO (a b:List Pce):lD (a++b)=lD a++lD b:=by simp[lD]
theorem G5 (x y:Bool) (t:dC):lD [(x,(y,(t,())))]=t:=by simp[lD]
theorem Xy (L:List mW) (hl:L.length<1000000) (v m f t u:Int) (o:Bool): ∀(N k:Nat),L.length-k<N->k<=L.length->
  Ia N L v (k:Int) m f t u o=a6 (match(L.drop k).find? (fun p=>p.2.1==v)with
   |none=>.inl ((),((m,f,t,u,o,()),()))
   |some p=>.inr ((1,()),((p.1,p.2.1,p.2.2.1,p.2.2.2.1,p.2.2.2.2.1,()),())))
 |0,k,h,_=>by omega
 |N+1,k,h,hk=>by
  rw[Ia,Rw];by_cases e:k<L.length
  .have d:gW L (0,(0,(0,(0,(false,()))))) (k:Int)=L[k]:=by
    simp_all [gW]
   rw[dn (fQ (by rw[cu];omega)),dn (fD),d,aH e,List.find?_cons];by_cases h1:L[k].2.1=v
   .simp_all [gz,fD]
   .have:(L[k].2.1==v)=false:=by simpa using h1
    rw[dY (fB h1),dD,show(k:Int)+1=((k+1:Nat):Int) by omega,Xy L hl v m f t u o N (k+1) (by omega) (by omega),this]
  simp_all [iL,cu,aO]
theorem arb (L:List mW) (hl:L.length<1000000) (v:Int):adw L v=a6 (match zg L v with
  |none=>((0,(0,(0,(0,(false,()))))),(0,()))
  |some p=>(p,(1,()))):=by
 rw[adw];have h:=Xy L hl v 0 0 0 0 false bY 0 (di) (by omega);rw[show Ia bY L v 0 0 0 0 0 false=_ from h,bT,List.drop_zero];unfold zg;cases L.find? (fun p=>p.2.1==v)with
 |none=>rfl
 |some p=>rfl
theorem aG9 (s:dC) (a b:Int):(sub s a b).length<=(b-a).toNat:=by
 grind [sub]
theorem ah3 {a b:List UInt8} (h:a.length+b.length<=140737488355328):jf a b=true:=by
 grind [jf,nC]
theorem ug {d:Type} {l:List d} {k:Nat} (h:l.length*k<=140737488355328):fG l k=true:=by
 grind [fG,nC]
theorem Tv (s:dC) (j:s.length<=10000) {to_:Int} (u:to_<=s.length): ∀(N:Nat) (at_:Int) (d:dC) (out:List Pce),0<N->to_-at_<N->0<=at_->at_<=s.length->(d.length:Int)<=10000*at_->(out.length:Int)<=2*at_->
  ∃f g,xK N s (dB s) to_ d at_ out=a6 (.inl ((f,()),(g,())))/\lD g++f=lD out++d++uN s (dB s) to_ N at_/\(f.length:Int)<=10000*s.length/\(g.length:Int)<=2*s.length
 |0,at_,d,out,J,_,_,_,_,_=>by
  omega
 |N+1,at_,d,out,J,h,v,h1,hh,ho=>by
  (rewrite [xK,Rx];delta Iu yL;rw[uN])
  by_cases e:at_<to_
  .have ab:=EF s;have ad:= @VQ s at_;have af:=O8 s (dB s) at_;have ah: ∀(c:dC) (nx:Int),c=(jq s (dB s) at_).2.1->nx=(jq s (dB s) at_).1->nx<=s.length->
     ∃f g,xK N s (dB s) to_ (bZ d c) nx out=a6 (.inl ((f,()),(g,())))/\lD g++f=lD out++d++((jq s (dB s) at_).2.1++uN s (dB s) to_ N (jq s (dB s) at_).1)/\(f.length:Int)<=10000*s.length/\(g.length:Int)<=2*s.length:=by
    intro c nx z m q;subst z m;obtain⟨f,g,K,L,M,O⟩:=Tv s j u N (jq s (dB s) at_).1 (bZ d (jq s (dB s) at_).2.1) out (by omega) (by omega) (by omega) q (by grind [bZ]) (by omega)
    grind [bZ]
   have push: ∀(l:List Pce) (nx:Int),lD l=d++(jq s (dB s) at_).2.1->l.length<=2->nx=(jq s (dB s) at_).1->nx<=s.length->
     ∃f g,xK N s (dB s) to_ [] nx (out++l)=a6 (.inl ((f,()),(g,())))/\lD g++f=lD out++d++((jq s (dB s) at_).2.1++uN s (dB s) to_ N (jq s (dB s) at_).1)/\(f.length:Int)<=10000*s.length/\(g.length:Int)<=2*s.length:=by
    intro l nx hl ai m q;subst m;obtain⟨f,g,K,L,M,O⟩:=Tv s j u N (jq s (dB s) at_).1 [] (out++l) (by omega) (by omega) (by omega) q (by simp;omega) (by grind)
    grind [zO]
   have S: ∀c:dC,c.length<=10000->jf d c=true:=fun c z=>ah3 (by omega);have A: ∀x,fG (bZ out [x]) 24=true:=fun x=>ug (by grind [bZ]);have U: ∀x y,fG (bZ (bZ out [x]) [y]) 24=true:=fun x y=>ug (by grind [bZ]);have V: ∀a b:Int,(sub s a b).length<=10000:=fun a b=>aK (JY s a b) j;have B:dJ .i64 at_ 1=at_+1:=dD;have W:dJ .i64 at_ 2=at_+2:=dD;have X:gy (bV s) at_ (at_+1)=true:=ig v (by omega) (by rw[cu];omega);rw[dn (fQ e),am e,arb (dB s) (by omega),bT];cases hf:zg (dB s) at_ with
   |none=>
    have i:jq s (dB s) at_=(at_+1,sub s at_ (at_+1),false):=by unfold jq;rw[hf]
    simp only[B];rw[show cZ 0 0=true from rfl,aa,X,aa,S _ (V _ _),aa]
    grind
   |some p=>
    obtain⟨D,Y⟩:=zh hf;have t0:=D.t0;have t1:=D.t1;simp only[B,W];rw[show cZ 1 0=false from rfl,ac];by_cases hlone:lone p=true
    .have i:jq s (dB s) at_=(at_+1,sub s at_ (at_+1),false):=by simp_all [jq]
     simp_all [lone,gz]
    .have ak: ¬(p.1=12/\p.2.2.1=at_+1):=fun h=>hlone (by simp_all [lone]);have I:gy (bV s) at_ p.2.2.1=true:=ig v (by omega) (by rw[cu];omega);by_cases h13:p.1=13
     .have i:jq s (dB s) at_=(p.2.2.1,WF s p,false):=by simp_all [jq]
      rw[dY (fB),dn (gz h13)];by_cases hto2:p.2.2.1=at_+2
      .have Z:iy s (at_+1)=true:=fD;have al:gy (bV s) (at_+1) (at_+2)=true:=ig (by omega) (by omega) (by rw[cu];omega);have an:gy (bV s) at_ (at_+2)=true:=ig (by omega) (by omega) (by rw[cu];omega);have ao:WF s p=(if dm s (at_+1)=36\/dm s (at_+1)=96\/dm s (at_+1)=34\/dm s (at_+1)=92 then sub s (at_+1) (at_+2)
         else if dm s (at_+1)=10 then []else sub s at_ (at_+2)):=by
        simp_all [WF,qx]
       rw[dn (gz hto2),Z,aa];by_cases b1:dm s (at_+1)=36
       .simp_all [gz]
       .rw[dY (fB b1)];by_cases b2:dm s (at_+1)=96
        .simp_all [gz]
        .rw[dY (fB b2)];by_cases b3:dm s (at_+1)=34
         .simp_all [gz]
         .rw[dY (fB b3)];by_cases b4:dm s (at_+1)=92
          .simp_all [gz]
          .rw[dY (fB b4)];have au: ¬(dm s (at_+1)=36\/dm s (at_+1)=96\/dm s (at_+1)=34\/dm s (at_+1)=92):=by omega
           by_cases b5:dm s (at_+1)=10
           .simp_all [gz,bZ]
           simp_all [fB]
      simp_all [fB,WF,bZ]
     .have i:jq s (dB s) at_=(p.2.2.1,qx s p,true):=by simp_all [jq]
      have av:qx s p=sub s at_ p.2.2.1:=by unfold qx;rw[Y]
      have aw: ∃f g,(bif !iG d []then
        bif fG (bZ out [(false,(true,(d,())))]) 24 then
         bif gy (bV s) at_ p.2.2.1 then
          bif fG (bZ (bZ out [(false,(true,(d,())))]) [(true,(true,(sub s at_ p.2.2.1,())))]) 24 then
           xK N s (dB s) to_ [] p.2.2.1 (bZ (bZ out [(false,(true,(d,())))]) [(true,(true,(sub s at_ p.2.2.1,())))])
          else a7
         else a7
        else a7
       else bif gy (bV s) at_ p.2.2.1 then
        bif fG (bZ out [(true,(true,(sub s at_ p.2.2.1,())))]) 24 then
         xK N s (dB s) to_ [] p.2.2.1 (bZ out [(true,(true,(sub s at_ p.2.2.1,())))])
        else a7
       else a7)=a6 (.inl ((f,()),(g,())))/\lD g++f=lD out++d++((jq s (dB s) at_).2.1++uN s (dB s) to_ N (jq s (dB s) at_).1)/\(f.length:Int)<=10000*s.length/\(g.length:Int)<=2*s.length:=by
       by_cases he:d=[]
       .have:=push [(true,(true,(sub s at_ p.2.2.1,())))] p.2.2.1 (by simp_all [G5]) (by simp) (by rw[i]) (by omega);rw[show(!iG d [])=false by rw[he];rfl,ac,I,aa,A,aa];exact this
       .have:=push ([(false,(true,(d,())))]++[(true,(true,(sub s at_ p.2.2.1,())))]) p.2.2.1 (by grind [zO,G5]) (by simp) (by rw[i]) (by omega);rw[show(!iG d [])=true by simp_all [iG],aa,A,aa,I,aa,U,aa];rw[<-ag]at this;exact this
      by_cases h12:p.1=12
      .simp_all [fB]
      simp_all [fB]
  .rw[dY (iL e),aq e]
   grind
theorem aoQ (s:dC) (g:s.length<=10000) {from_ to_:Int} (i:0<=from_) (j:from_<=s.length) (l:to_<=s.length):
  ∃out,PQ s (dB s) from_ to_=a6 (out,())/\lD out=uN s (dB s) to_ s.length from_/\out.length<=2*s.length+1:=by
 obtain⟨d,out,m,e,q,u⟩:=Tv s g l bY from_ [] [] (by unfold bY;omega) (by have:=di (n:=s.length) (by omega);omega) i j (by simp;omega) (by simp;omega);have p:uN s (dB s) to_ bY from_=uN s (dB s) to_ s.length from_:=NT s to_ _ _ _ (by have:=di (n:=s.length) (by omega);omega) (by omega);rw[p,show lD []=([]:dC) from rfl,aQ,aQ]at e;rw[PQ,m,bT];simp only[dX];have f: ∀x,fG (bZ out [x]) 24=true:=fun x=>ug (by grind [bZ]);by_cases he:d=[]
 .rw[show(!iG d [])=false by rw[he];rfl,ac];subst he;rw[aG]at e;by_cases ho:out.length=0
  .rw[dn (gz (by rw[cu];omega)),f,aa];exact⟨_,rfl,by grind [bZ,zO,G5],by simp_all [bZ]⟩
  .rw[dY (fB (by rw[cu];omega))]
   grind
 .rw[show(!iG d [])=true by simp_all [iG],aa,f,aa];exact⟨_,rfl,by unfold bZ;rw[zO,G5,e],by grind [bZ]⟩
theorem uD (l:List Pce) (x:Pce):lD (l++[x])=lD l++x.2.2.1:=by simp[lD]
theorem atI (out:List Pce) (t:dC) (e:Bool) (f:out.length<1000000000) (g:(lD out).length+t.length<=100000000000000):
  ∃d,Xz out t e=a6 (d,())/\lD d=lD out++t/\d.length<=out.length+1:=by
 have one: ∃d,(bif fG (bZ [] out) 24 then bif fG (bZ (bZ [] out) [(false,(false,(t,())))]) 24 then a6 ((bZ (bZ [] out) [(false,(false,(t,())))]),())else a7 else a7)=a6 (d,())/\lD d=lD out++t/\d.length<=out.length+1:=by
  rw[dn (ug (by grind [bZ])),dn (ug (by grind [bZ]))];exact⟨_,rfl,by simp_all [bZ,zO,G5],by unfold bZ;simp⟩
 (rewrite [Xz];delta Zp vI lI oC xH lH uh jS gK)
 rcases List.eq_nil_or_concat out with rfl|⟨l,x,rfl⟩
 .assumption
 .rw[List.concat_eq_append]at*;cases e with
  |true=>
   simp_all
  |false=>
   rw[uD,ae]at g;rw[ae,aA]at f;have i:fO .i64 (bV (l++[x])) 1=(l.length:Int):=by grind [cu,iH]
   have j:gW (l++[x]) (false,(false,([],()))) (l.length:Int)=x:=CY rfl;have m:iy (l++[x]) (l.length:Int)=true:=fD (by omega) (by grind);have p:gy (bV (l++[x])) 0 (l.length:Int)=true:=ig (by omega) (by omega) (by grind [cu]);have q:sub (l++[x]) 0 (l.length:Int)=l:=by simp[sub]
   have u:jf x.2.2.1 t=true:=ah3 (by omega);have v:fG (bZ [] l) 24=true:=ug (by grind [bZ]);have z: ∀y,fG (bZ (bZ [] l) [y]) 24=true:=fun y=>ug (by grind [bZ]);rw[dn (fQ (by simp_all [cu]))];simp only[aF,aa,i,j,m,p,q,u,v,z,eU,rV,jl,gU,aj,bT];exact⟨_,rfl,by grind [bZ,uD],by unfold bZ;simp⟩
theorem Ql (s:dC) (u:s.length<=10000): ∀(N:Nat) (at_:Int) (j:Bool) (out:List Pce),(s.length:Int)-at_<N->0<=at_->at_<=s.length->((lD out).length:Int)<=100010000*at_->(out.length:Int)<=30000*at_->
  ∃d,sZ N s (dB s) j at_ out=a6 (.inl ((),(d,())))/\lD d=lD out++nX s (dB s) N at_/\(d.length:Int)<=30000*s.length
 |0,at_,j,out,h,_,_,_,_=>by omega
 |N+1,at_,j,out,h,B,J,ht,ho=>by
  (rewrite [sZ,acy];delta Np GM;rw[nX])
  by_cases e:at_<s.length
  .have ab:=EF s;have ad:= @VR s at_;have K:=afo (s:=s) e;have af:(stepT s (dB s) at_).2.length<=100010000:=by
    have J:=O9 s (dB s) at_;have h2:s.length*s.length<=10000*10000:=Nat.mul_le_mul u u;omega
   have go: ∀(l:List Pce) (f:Bool),lD l=lD out++(stepT s (dB s) at_).2->l.length<=out.length+20002->
     ∃d,sZ N s (dB s) f (stepT s (dB s) at_).1 l=a6 (.inl ((),(d,())))/\lD d=lD out++((stepT s (dB s) at_).2++nX s (dB s) N (stepT s (dB s) at_).1)/\(d.length:Int)<=30000*s.length:=by
    intro l f hl hn;obtain⟨d,r1,r2,r3⟩:=Ql s u N (stepT s (dB s) at_).1 f l (by omega) (by omega) K (by grind) (by omega)
    grind
   have L: ∀(t:dC) (nx:Int),t=(stepT s (dB s) at_).2->nx=(stepT s (dB s) at_).1->
     ∃d,(bU (Xz out t j) fun g=>sZ N s (dB s) false nx g.1)=a6 (.inl ((),(d,())))/\lD d=lD out++((stepT s (dB s) at_).2++nX s (dB s) N (stepT s (dB s) at_).1)/\(d.length:Int)<=30000*s.length:=by
    intro t nx v q;subst v q;obtain⟨o,M,O,p3⟩:=atI out (stepT s (dB s) at_).2 j (by omega) (by omega);rw[M,bT];exact go o false O (by omega)
   have S: ∀(x:Pce) (nx:Int),x.2.2.1=(stepT s (dB s) at_).2->nx=(stepT s (dB s) at_).1->
     ∃d,(bif fG (bZ out [x]) 24 then sZ N s (dB s) true nx (bZ out [x])else a7)=a6 (.inl ((),(d,())))/\lD d=lD out++((stepT s (dB s) at_).2++nX s (dB s) N (stepT s (dB s) at_).1)/\(d.length:Int)<=30000*s.length:=by
    intro x nx v q;subst q;rw[dn (ug (by grind [bZ]))];simp_all [bZ,uD]
   have ah: ∀(nx:Int),(stepT s (dB s) at_).2=[]->nx=(stepT s (dB s) at_).1->
     ∃d,sZ N s (dB s) j nx out=a6 (.inl ((),(d,())))/\lD d=lD out++((stepT s (dB s) at_).2++nX s (dB s) N (stepT s (dB s) at_).1)/\(d.length:Int)<=30000*s.length:=by
    intro nx v q;subst q;exact go out j (by simp_all) (by omega)
   have y:dJ .i64 at_ 1=at_+1:=dD;have U:gy (bV s) at_ (at_+1)=true:=ig B (by omega) (by rw[cu];omega);rw[dn (fQ (b:=bV s) e),am e,arb (dB s) (by omega),bT];cases hf:zg (dB s) at_ with
   |none=>
    have i:stepT s (dB s) at_=(at_+1,sub s at_ (at_+1)):=by unfold stepT;rw[hf]
    simp only[y];rw[show cZ 0 0=true from rfl,aa,show cZ 0 1=false from rfl,ac,U,aa];simp_all
   |some p=>
    obtain⟨z,A⟩:=zh hf;have t0:=z.t0;have t1:=z.t1;have V:qx s p=sub s at_ p.2.2.1:=by unfold qx;rw[A]
    have ai:gy (bV s) at_ p.2.2.1=true:=ig B (by omega) (by rw[cu];omega);have W:dJ .i64 p.2.1 1=at_+1:=by rw[A];exact y
    have X:dJ .i64 p.2.1 2=at_+2:=by grind [dD]
    have Y:fO .i64 p.2.2.1 1=p.2.2.1-1:=iH;simp only[y,W,X,Y];rw[show cZ 1 0=false from rfl,ac,show cZ 1 1=true from rfl];simp only[aa];by_cases hpl':lone p=true\/p.1=14
    .have i:stepT s (dB s) at_=(p.2.2.1,qx s p):=by simp_all [stepT]
     have:=L (sub s at_ p.2.2.1) p.2.2.1 (by rw[i,V]) (by rw[i]);by_cases D:p.1=14
     .simp_all [gz]
     simp_all [lone,gz]
    .have ak: ¬(p.1=12/\p.2.2.1=at_+1):=fun h=>hpl' (.inl (by simp_all [lone]));have D:p.1≠14:=fun h=>hpl' (.inr h);rw[dY (fB D)];by_cases h13:p.1=13
     .have i:stepT s (dB s) at_=(p.2.2.1,WG s p):=by simp_all [stepT]
      rw[dY (fB),dn (gz h13)];by_cases hto2:p.2.2.1=at_+2
      .rw[dn (gz hto2),dn (fD)];by_cases b5:dm s (at_+1)=10
       .simp_all [gz,WG]
       .rw[fB b5];simp only[aF,aa];rw[dn (ig (by omega) (by omega) (by rw[cu];omega))];simp_all [WG]
      simp_all [fB,WG]
     .have al: ∃d,(bif cZ p.1 4 then
        bif p.2.2.2.2.1 then
         bif gy (bV s) (at_+1) p.2.2.1 then
          bif fG (bZ out [(false,(true,(sub s (at_+1) p.2.2.1,())))]) 24 then
           sZ N s (dB s) true p.2.2.1 (bZ out [(false,(true,(sub s (at_+1) p.2.2.1,())))])
          else a7
         else a7
        else bif gy (bV s) (at_+1) (p.2.2.1-1)then
         bif fG (bZ out [(false,(true,(sub s (at_+1) (p.2.2.1-1),())))]) 24 then
          sZ N s (dB s) true p.2.2.1 (bZ out [(false,(true,(sub s (at_+1) (p.2.2.1-1),())))])
         else a7
        else a7
       else bif cZ p.1 5 then
        bif p.2.2.2.2.1 then
         bU (PQ s (dB s) (at_+1) p.2.2.1) fun g=>
          bif fG (bZ out g.1) 24 then sZ N s (dB s) true p.2.2.1 (bZ out g.1)else a7
        else
         bU (PQ s (dB s) (at_+1) (p.2.2.1-1)) fun g=>
          bif fG (bZ out g.1) 24 then sZ N s (dB s) true p.2.2.1 (bZ out g.1)else a7
       else bif gy (bV s) p.2.1 p.2.2.1 then
        bif fG (bZ out [(true,(false,(sub s p.2.1 p.2.2.1,())))]) 24 then
         sZ N s (dB s) true p.2.2.1 (bZ out [(true,(false,(sub s p.2.1 p.2.2.1,())))])
        else a7
       else a7)=a6 (.inl ((),(d,())))/\lD d=lD out++((stepT s (dB s) at_).2++nX s (dB s) N (stepT s (dB s) at_).1)/\(d.length:Int)<=30000*s.length:=by
       by_cases h4:p.1=4
       .have i:stepT s (dB s) at_=(p.2.2.1,sub s (p.2.1+1) (zV p)):=by simp_all [stepT]
        rw[dn (gz h4)];cases hop:p.2.2.2.2.1 with
        |true=>
         rw[aa,dn (ig (by omega) (by omega) (by rw[cu];omega))];exact S _ _ (by rw[i,A];unfold zV;rw[hop,am rfl]) (by rw[i])
        |false=>
         have:=z.sh hop (by omega);rw[ac,dn (ig (by omega) (by omega) (by rw[cu];omega))];simp_all [zV]
       .rw[dY (fB h4)];by_cases h5:p.1=5
        .have i:stepT s (dB s) at_=(p.2.2.1,uN s (dB s) (zV p) s.length (p.2.1+1)):=by simp_all [stepT]
         rw[dn (gz h5)];have I: ∀m:Int,m=zV p->m<=s.length-> ∃d,(bU (PQ s (dB s) (at_+1) m) fun g=>
           bif fG (bZ out g.1) 24 then sZ N s (dB s) true p.2.2.1 (bZ out g.1)else a7)=a6 (.inl ((),(d,())))/\lD d=lD out++((stepT s (dB s) at_).2++nX s (dB s) N (stepT s (dB s) at_).1)/\(d.length:Int)<=30000*s.length:=by
          intro m an Z;obtain⟨o,d1,d2,d3⟩:=aoQ s u (from_:=at_+1) (to_:=m) (by omega) (by omega) Z;rw[d1,bT];simp only;rw[dn (ug (by grind [bZ]))];have:=go (bZ out o) true (by simp_all [bZ,zO]) (by grind [bZ]);simp_all
         cases hop:p.2.2.2.2.1 with
         |true=>rw[aa];exact I _ (by unfold zV;rw[hop,am rfl]) (by omega)
         |false=>rw[ac];exact I _ (by simp_all [zV]) (by omega)
        .have i:stepT s (dB s) at_=(p.2.2.1,qx s p):=by simp_all [stepT]
         simp_all [fB]
      by_cases h12:p.1=12
      .simp_all [fB]
      simp_all [fB]
  .rw[dY (iL (by rw[cu];omega)),aq e]
   grind
theorem Vm (l:List Pce) (hl:l.length<1000000000) (d:(lD l).length<=100000000000000): ∀(N k:Nat),l.length-k<N->k<=l.length->
  Ov N l (lD (l.take k)) (k:Int)=a6 (.inl ((lD l,()),()))
 |0,k,h,_=>by omega
 |N+1,k,h,hk=>by
  rw[Ov,acu];by_cases e:k<l.length
  .have f:gW l (false,(false,([],()))) (k:Int)=l[k]:=by
    simp_all [gW]
   have g:lD (l.take (k+1))=lD (l.take k)++l[k].2.2.1:=by grind [List.take_add_one,uD]
   have i:(lD (l.take (k+1))).length<=(lD l).length:=by
    grind [List.take_append_drop,zO]
   rw[dn (fQ (by rw[cu];omega)),dn (fD),f,dn (ah3 (by grind)),dD,show(k:Int)+1=((k+1:Nat):Int) by omega,
    show bZ (lD (l.take k)) l[k].2.2.1=lD (l.take (k+1)) from g.symm]
   exact Vm l hl d N (k+1) (by omega) (by omega)
  simp_all [iL,cu,bD]
theorem al5 (s:dC) (d:s.length<=10000):(Kr s).length<=1000100000000:=by
 have h:=Xl s (dB s) s.length 0;have e:s.length*s.length<=10000*10000:=Nat.mul_le_mul d d;have f:s.length*(s.length*s.length+s.length)<=10000*(10000*10000+10000):=Nat.mul_le_mul d (by omega);unfold Kr;omega
theorem aAY (s:dC) (d:s.length<=10000):ark s=a6 (Kr s,()):=by
 obtain⟨out,f,g,m⟩:=Ql s d bY 0 true [] (by have:=di (n:=s.length) (by omega);omega) (by omega) (by omega) (by simp[lD]) (by simp);have i:nX s (dB s) bY 0=Kr s:=Jr s _ _ _ (by have:=di (n:=s.length) (by omega);omega) (by omega);have j:axc s=a6 (out,()):=by
  rw[axc,aIh s (by omega),bT];simp only;rw[f,bT];rfl
 have e:lD out=Kr s:=by rw[g,i];rfl
 have p:=al5 s d;rw[ark,j,bT];simp only;have l:=Vm out (by omega) (by rw[e];omega) bY 0 (di) (by omega);rw[show Ov bY out [] 0=_ from l,bT,<-e];rfl
end
section
open Option renaming some → a6, none → a7
open Tryz
open Go.RowKit
noncomputable def b27:Code:=(f27.body).getD .skip
noncomputable def apF:Code:=cA (cA (cA (cB (cA (cB (cA (cB (cB (cB (cB (cB (b27))))))))))))
noncomputable def apG:Code:=cA (cA (cA (cB (cB (cB (cB (cB (cB (cB (cB (b27)))))))))))
def ar9:fZ:=⟨[0,1,6,7,11,12,100014],[],[1,6,7,11,12],[],[6,7],[]⟩
def asa:fZ:=⟨[0,1,5,6,7,11,14,100023],[],[0,1,5,6,7,11,14],[],[6,7],[]⟩
def aaM:SP:=⟨us [bN,bL,.u,.u,.u,.u,.ptr 1000006 0,.ptr 1000007 0,.u,.u,.u,.ptr 1000011 0,bL] 173,cU⟩
def abf:SP:=⟨us [.u,bL,.u,.u,.u,.u,.ptr 1000006 0,.ptr 1000007 0,.u,.u,.u,.ptr 1000011 0,bL] 173,cU⟩
def abN:SP:=⟨us [] 186,[]⟩
def RV {e:Type} (z:dC->Int->Int->Int->DJ->Bool->Int->Bool->Int->Int->Int->Bool->Option e) (y:Int->Int->Int->DJ->Bool->Int->Bool->Int->Int->Int->Bool->Option e) (A:Option e) (f:dC) (g d i:Int) (j:DJ) (l:Bool) (m:Int) (p:Bool) (q u v:Int) (x:Bool):Option e:=cond (iV d (bV f)) (cond (iy f d) (cond (!(cZ (dm f d) 10)) (z f g (dJ .i64 d 1) i j l m p q u v x)<|y g d i j l m p q u v x) a7)<|y g d i j l m p q u v x
def LU:Nat->dC->Int->Int->Int->DJ->Bool->Int->Bool->Int->Int->Int->Bool->Option (abf.den⊕abN.den)
 |0,_,_,_,_,_,_,_,_,_,_,_,_=>a7
 |n+1,d,e,f,g,i,j,l,m,p,q,u,v=>RV (LU n) (fun x y z A B D I J K L M=>a6 (.inl ((x,y,()),((z,A,B,()),(D,I,()),(J,K,L,M,()),())))) (a6 (.inr ((),()))) d e f g i j l m p q u v
def aya (n:Nat) (v:aaM.den):=bp (LU n) v
noncomputable def akb:dO:=iq ar9 aaM abf abN (.exit 0) (aya bY) 6
def aaN:SP:=⟨cM,cI⟩
def MI:SP:=⟨cM,cI⟩
def abO:SP:=⟨us [] 186,[]⟩
def RX {f:Type} (D B:dC->Int->Int->Int->DJ->Bool->Int->Bool->Int->Int->Int->Bool->Int->DJ->Bool->Option f) (J:Option f) (d:dC) (g e i:Int) (j:DJ) (l:Bool) (m:Int) (p:Bool) (q u v:Int) (x:Bool) (y:Int) (z:DJ) (A:Bool):Option f:=cond (iV e (bV d)) (cond (iy d e) (bU (ZB (dm d e)) fun I=>cond (cZ I.1 6) (D d g (dJ .i64 e 1) i j l m p q u v x y z A)<|B d g e i j l m p q u v x y z A) a7)<|B d g e i j l m p q u v x y z A
def LV:Nat->dC->Int->Int->Int->DJ->Bool->Int->Bool->Int->Int->Int->Bool->Int->DJ->Bool->Option (MI.den⊕abO.den)
 |0,_,_,_,_,_,_,_,_,_,_,_,_,_,_,_=>a7
 |n+1,d,e,f,g,i,j,l,m,p,q,u,v,x,y,z=>RX (LV n) (fun A B D I J K L M N O S U V W X=>a6 (.inl ((A,B,D,()),((I,J,K,()),(L,M,()),(N,O,S,U,()),(V,W,X,()),())))) (a6 (.inr ((),()))) d e f g i j l m p q u v x y z
def ayb (n:Nat) (v:aaN.den):=bq (LV n) v
noncomputable def akc:dO:=iq asa aaN MI abO (.exit 2) (ayb bY) 12
def Bi (d:Int×DJ×xy):=qV EU d.2.1 d.2.1
def agz (d:Fb) (e:Int×DJ×xy) (f:Int):Option taS:=bU (ZA d.1) fun g=>cond ((cZ d.1 d.1)&&((Bi e)&&((kV false false)&&true))) (a6 ((4,(f,((dJ .i64 f (bV g.1)),(false,())))),((d.1,(e.2.1,(false,()))),()))) a7
def agA (d:MI.den):Option taS:=cond ((cZ d.2.1.1 d.2.1.1)&&((qV EU d.2.1.2.1 d.2.1.2.1)&&((kV d.2.1.2.2.1 d.2.1.2.2.1)&&true))) (a6 ((5,(d.1.2.1,(d.1.2.2.1,(false,())))),((d.2.1.1,(d.2.1.2.1,(d.2.1.2.2.1,()))),()))) a7
def Zz (d:MI.den):Option taS:=bU (am6 d.1.1 d.1.2.1) fun e=>cond (gy (bV d.1.1) d.1.2.1 e.1) (cond (!(cZ d.2.2.2.2.1.1 0)) (cond (qV EU d.2.2.2.2.1.2.1 d.2.2.2.2.1.2.1) (cond (iG (sub d.1.1 d.1.2.1 e.1) (sub d.1.1 d.1.2.1 e.1)) (cond (cZ d.2.2.2.2.1.1 d.2.2.2.2.1.1) (cond (kV (cZ d.2.2.2.2.1.1 5) (cZ d.2.2.2.2.1.1 5)) (cond (fG (bZ [] d.2.2.2.2.1.2.1) 24) (cond (iG (sub d.1.1 d.1.2.1 e.1) (sub d.1.1 d.1.2.1 e.1)) (cond (cZ d.2.2.2.2.1.1 d.2.2.2.2.1.1) (cond (kV (cZ d.2.2.2.2.1.1 5) (cZ d.2.2.2.2.1.1 5)) (bU (ark (sub d.1.1 d.1.2.1 e.1)) fun f=>cond (qV EU d.2.2.2.2.1.2.1 d.2.2.2.2.1.2.1) (cond (iG (sub d.1.1 d.1.2.1 e.1) (sub d.1.1 d.1.2.1 e.1)) (cond (cZ d.2.2.2.2.1.1 d.2.2.2.2.1.1) (cond (kV (cZ d.2.2.2.2.1.1 5) (cZ d.2.2.2.2.1.1 5)) (cond (((iG (sub d.1.1 d.1.2.1 e.1) (sub d.1.1 d.1.2.1 e.1))&&true)&&((iG f.1 f.1)&&true)) (cond (fG (bZ (bZ [] d.2.2.2.2.1.2.1) [(f.1,((cZ d.2.2.2.2.1.1 5),()))]) 24) (cond (qV EU d.2.2.2.2.1.2.1 d.2.2.2.2.1.2.1) (cond (iG (sub d.1.1 d.1.2.1 e.1) (sub d.1.1 d.1.2.1 e.1)) (cond (cZ d.2.2.2.2.1.1 d.2.2.2.2.1.1) (cond (kV (cZ d.2.2.2.2.1.1 5) (cZ d.2.2.2.2.1.1 5)) (cond ((iG f.1 f.1)&&((kV (cZ d.2.2.2.2.1.1 5) (cZ d.2.2.2.2.1.1 5))&&true)) (bU (agB (sub d.1.1 d.1.2.1 e.1)) fun g=>cond ((cZ d.2.1.1 d.2.1.1)&&((kV d.2.1.2.2.1 d.2.1.2.2.1)&&true)) (a6 ((6,(d.1.2.1,(e.1,((!g.1),())))),((d.2.1.1,((bZ (bZ [] d.2.2.2.2.1.2.1) [(f.1,((cZ d.2.2.2.2.1.1 5),()))]),(d.2.1.2.2.1,()))),()))) a7) a7) a7) a7) a7) a7) a7) a7) a7) a7) a7) a7) a7) a7) a7) a7) a7) a7) a7) a7)<|bU (agB (sub d.1.1 d.1.2.1 e.1)) fun f=>cond ((cZ d.2.1.1 d.2.1.1)&&((qV EU d.2.1.2.1 d.2.1.2.1)&&((kV d.2.1.2.2.1 d.2.1.2.2.1)&&true))) (a6 ((6,(d.1.2.1,(e.1,((!f.1),())))),((d.2.1.1,(d.2.1.2.1,(d.2.1.2.2.1,()))),()))) a7) a7
def aw5 (i:dC) (e:Int) (d:Int×DJ×xy):Option taS:=cond d.2.2.1 (cond (iy d.2.1 0) (bU (aw8 i e (gW d.2.1 ([],(false,())) 0)) fun l=>cond (cZ l.2.1 0) (cond ((cZ d.1 d.1)&&((Bi d)&&((kV d.2.2.1 d.2.2.1)&&true))) (a6 ((7,(e,(l.1,(true,())))),((d.1,(d.2.1,(d.2.2.1,()))),()))) a7)<|cond (gy (bV d.2.1) 1 (bV d.2.1)) (cond (cZ d.1 d.1) (cond (Bi d) (cond (gy (bV d.2.1) 1 (bV d.2.1)) (cond (qV EU (sub d.2.1 1 (bV d.2.1)) (sub d.2.1 1 (bV d.2.1))) (cond (Bi d) (cond (cZ (bV d.2.1) (bV d.2.1)) (cond (kV (iV 1 (bV d.2.1)) (iV 1 (bV d.2.1))) (cond ((cZ d.1 d.1)&&((qV EU (sub d.2.1 1 (bV d.2.1)) (sub d.2.1 1 (bV d.2.1)))&&((kV (iV 1 (bV d.2.1)) (iV 1 (bV d.2.1)))&&true))) (a6 ((7,(e,(l.1,(false,())))),((d.1,((sub d.2.1 1 (bV d.2.1)),((iV 1 (bV d.2.1)),()))),()))) a7) a7) a7) a7) a7) a7) a7) a7) a7) a7)<|bU (aw9 i e) fun l=>cond (iV e l.1) (cond ((cZ d.1 d.1)&&((Bi d)&&((kV d.2.2.1 d.2.2.1)&&true))) (a6 ((1,(e,(l.1,(false,())))),((d.1,(d.2.1,(d.2.2.1,()))),()))) a7)<|cond (iy i e) (cond (cZ (dm i e) 10) (cond (Bi d) (cond (Bi d) (cond (cZ (bV d.2.1) (bV d.2.1)) (cond (kV (iV 0 (bV d.2.1)) (iV 0 (bV d.2.1))) (cond ((cZ 0 0)&&((Bi d)&&((kV (iV 0 (bV d.2.1)) (iV 0 (bV d.2.1)))&&true))) (a6 ((2,(e,((dJ .i64 e 1),(false,())))),((0,(d.2.1,((iV 0 (bV d.2.1)),()))),()))) a7) a7) a7) a7) a7)<|cond (iy i e) (cond (cZ (dm i e) 35) (bU (LU bY i e e 0 d.2.1 false 0 false 0 0 0 false) fun j=>dX j (fun g=>cond ((cZ g.2.1.1 g.2.1.1)&&((qV EU g.2.1.2.1 g.2.1.2.1)&&((kV g.2.1.2.2.1 g.2.1.2.2.1)&&true))) (a6 ((3,(g.1.1,(g.1.2.1,(false,())))),((g.2.1.1,(g.2.1.2.1,(g.2.1.2.2.1,()))),()))) a7) (fun p=>a7))<|bU (arj i e) fun j=>cond (iV 0 j.1) (cond (cZ j.1 4) (agz j d e)<|cond (cZ j.1 5) (agz j d e)<|bU (ZA j.1) fun m=>cond ((cZ 0 0)&&((Bi d)&&((kV false false)&&true))) (a6 ((4,(e,((dJ .i64 e (bV m.1)),(false,())))),((0,(d.2.1,(false,()))),()))) a7)<|bU (LV bY i e e 0 d.2.1 false 0 false 0 0 0 false d.1 d.2.1 d.2.2.1) fun m=>dX m (fun f=>cond (iV f.1.2.1 f.1.2.2.1) (cond (iV f.1.2.2.1 (bV f.1.1)) (cond (iy f.1.1 f.1.2.2.1) (cond (cZ (dm f.1.1 f.1.2.2.1) 60) (agA f)<|cond (iy f.1.1 f.1.2.2.1) (cond (cZ (dm f.1.1 f.1.2.2.1) 62) (agA f)<|Zz f) a7) a7)<|Zz f)<|Zz f) (fun q=>a7)) a7) a7
def aAr:Sum:=⟨[.str,dL,.pair dL tyL],tzH,fun x=>aw5 x.1 x.2.1 x.2.2.1⟩
noncomputable def aiG:Env:=kU prog tt 27 [(52,avx),(54,aAz),(48,aAv),(49,aAw),(50,aAx),(51,alR),(53,aAy),(55,aAA)] [(14,ar9),(23,asa)] [(14,akb),(23,akc)]
def alr {d:Type} (a:aaM.den->Option d) (b:abf.den->Option d) (c:abN.den->Option d) (v:aaM.den):Option d:=bp (RV (fun e f g i j l m p q u x y=>a ((e,f,g,()),((i,j,l,()),(m,p,()),(q,u,x,y,()),()))) (fun z A B D I J K L M N O=>b ((z,A,()),((B,D,I,()),(J,K,()),(L,M,N,O,()),()))) (c ((),()))) v
theorem ayJ:eY aiG 27 apF akb:=En (alr) (h2:=by intros;simp only[alr,bp,RV,dG,dH,bT,dw,dI])
def als {d:Type} (a:aaN.den->Option d) (b:MI.den->Option d) (c:abO.den->Option d) (v:aaN.den):Option d:=bq (RX (fun e f g i j l m p q u x y z A B=>a ((e,f,g,()),((i,j,l,()),(m,p,()),(q,u,x,y,()),(z,A,B,()),()))) (fun D I J K L M N O S U V W X Y Z=>b ((D,I,J,()),((K,L,M,()),(N,O,()),(S,U,V,W,()),(X,Y,Z,()),()))) (c ((),()))) v
theorem ayK:eY aiG 27 apG akc:=En (als) (h2:=by intros;simp only[als,bq,RX,dG,dH,bT,dw,dI])
theorem aGA:eP aiG 27 b27:=tC [apF,apG] (aD (fM (ayJ)) (aD (fM (ayK)) aN))
theorem aqf:gm aiG:=eA f27 (aD Nu (aD avz (aD avu (aD avv (aD avw (aD VV (aD avy (aD avA aN)))))))) (aGA)
theorem avp:eX prog 27 aAr:=sA aqf
noncomputable def b14:Code:=(f14.body).getD .skip
noncomputable def azj:Code:=cA (cA (cA (cB (cB (cB (cB (b14)))))))
def azO:fZ:=⟨[0,3,4,5,6,100004],[(4,YI)],[3,4,5],[],[2,3],[(2,YI)]⟩
def akl:SP:=⟨us [bN,.u,.u,cR,dv,cr,bL] 23,[.arr 1800004 YI,dj,cQ]⟩
def ahd:SP:=⟨us [.u,.u,.u,cR,dv,cr] 24,[.arr 1800004 YI,dj,cQ]⟩
def ahz:SP:=⟨us [.u,.u,eJ] 27,[]⟩
def ach {e:Type} (u:dC->Int->(List DL)->Int->DJ->Bool->Int->Bool->Option e) (v:(List DL)->Int->DJ->Bool->Int->Bool->Option e) (x:(List DL)->Option e) (f:dC) (i:Int) (g:List DL) (j:Int) (l:DJ) (m:Bool) (p:Int) (q:Bool):Option e:=cond (iV i (bV f)) (bU (aw5 f i (j,(l,(m,())))) fun d=>cond (fG (bZ g [(d.1.1,(d.1.2.1,(d.1.2.2.1,(d.1.2.2.2.1,()))))]) 32) (u f d.1.2.2.1 (bZ g [(d.1.1,(d.1.2.1,(d.1.2.2.1,(d.1.2.2.2.1,()))))]) d.2.1.1 d.2.1.2.1 d.2.1.2.2.1 p q) a7)<|v g j l m p q
def Om:Nat->dC->Int->(List DL)->Int->DJ->Bool->Int->Bool->Option (ahd.den⊕ahz.den)
 |0,_,_,_,_,_,_,_,_=>a7
 |n+1,d,e,f,g,i,j,l,m=>ach (Om n) (fun p q u v x y=>a6 (.inl ((),(p,(q,u,v,()),(x,y,()),())))) (fun z=>a6 (.inr ((z,()),()))) d e f g i j l m
def aCG (n:Nat) (v:akl.den):=Om n v.1.1 v.1.2.1 v.2.1 v.2.2.1.1 v.2.2.1.2.1 v.2.2.1.2.2.1 v.2.2.2.1.1 v.2.2.2.1.2.1
noncomputable def asL:dO:=iq azO akl ahd ahz (.exit 0) (aCG bY) 6
def aw0 (e:dC):Option ((List DL)×(Int×DJ×xy)×Unit):=bU (Om bY e 0 [] 0 [] false 0 false) fun f=>dX f (fun d=>a6 (d.2.1,((d.2.2.1.1,(d.2.2.1.2.1,(d.2.2.1.2.2.1,()))),()))) (fun g=>a7)
def aAm:Sum:=⟨[.str],[(.list YI,false),(.pair dL tyL,false)],fun x=>aw0 x.1⟩
noncomputable def ap6:Env:=kU prog tt 14 [(27,aAr)] [(4,azO)] [(4,asL)]
def at7 {d:Type} (a:akl.den->Option d) (b:ahd.den->Option d) (c:ahz.den->Option d) (v:akl.den):Option d:=ach (fun e f g i j l m p=>a ((e,f,()),(g,(i,j,l,()),(m,p,()),()))) (fun q u x y z A=>b ((),(q,(u,x,y,()),(z,A,()),()))) (aE c) v.1.1 v.1.2.1 v.2.1 v.2.2.1.1 v.2.2.1.2.1 v.2.2.1.2.2.1 v.2.2.2.1.1 v.2.2.2.1.2.1
theorem aDg:eY ap6 14 azj asL:=En (at7) (h2:=by intros;simp only[at7,aE,ach,dG,dH,bT,dw,dI])
theorem aGv:eP ap6 14 b14:=tC [azj] (aD (fM (aDg)) aN)
theorem ap7:gm ap6:=eA f14 (aD avp aN) (aGv)
theorem au0:eX prog 14 aAm:=sA ap7
noncomputable def b16:Code:=(f16.body).getD .skip
noncomputable def azk:Code:=cA (cA (cB (cA (cB (cB (cB (b16)))))))
def azP:fZ:=⟨[0,3,5,6,100004],[(5,tyC)],[5],[],[2],[(2,tyC)]⟩
def akm:SP:=⟨us [bN,.u,.u,eJ,.u,c9,bL] 59,[.arr 1800005 tyC]⟩
def ahe:SP:=⟨us [.u,.u,.u,.u,.u,c9] 60,[.arr 1800005 tyC]⟩
def ahA:SP:=⟨us [.u,.u,.v rF] 63,[]⟩
def kT (d:List DL) (e:Int):=gW d (0,(0,(0,(false,())))) e
def Dy {g:Type} (d:List DL) (e:Int) (f:dC) (i:List gJ) (j:dC->(List DL)->Int->(List gJ)->Option g):Option g:=cond (iy d e) (cond (iy d e) (cond (iy d e) (cond (iy d e) (cond (gy (bV f) (kT d e).2.1 (kT d e).2.2.1) (cond (fG (bZ i [((kT d e).1,((sub f (kT d e).2.1 (kT d e).2.2.1),((kT d e).2.1,((kT d e).2.2.1,()))))]) 40) (j f d (dJ .i64 e 1) (bZ i [((kT d e).1,((sub f (kT d e).2.1 (kT d e).2.2.1),((kT d e).2.1,((kT d e).2.2.1,()))))])) a7) a7) a7) a7) a7) a7
def acj {j:Type} (g:dC->(List DL)->Int->(List gJ)->Option j) (l m:(List gJ)->Option j) (i:dC) (d:List DL) (e:Int) (f:List gJ):Option j:=cond (iV e (bV d)) (cond (iy d e) (cond (cZ (kT d e).1 2) (Dy d e i f g)<|cond (cZ (kT d e).1 4) (Dy d e i f g)<|cond (cZ (kT d e).1 5) (Dy d e i f g)<|cond (cZ (kT d e).1 6) (Dy d e i f g)<|g i d (dJ .i64 e 1) f) a7)<|l f
def JG:Nat->dC->(List DL)->Int->(List gJ)->Option (ahe.den⊕ahA.den)
 |0,_,_,_,_=>a7
 |n+1,d,e,f,g=>acj (JG n) (fun i=>a6 (.inl ((),(i,())))) (fun j=>a6 (.inr ((j,()),()))) d e f g
def aCH (n:Nat) (v:akm.den):=JG n v.1.1 v.1.2.1 v.1.2.2.1 v.2.1
noncomputable def asM:dO:=iq azP akm ahe ahA (.exit 0) (aCH bY) 6
def aBN (d:dC):Option ((List gJ)×Unit):=bU (aw0 d) fun e=>bU (JG bY d e.1 0 []) fun f=>dX f (fun g=>a6 (g.2.1,())) (fun i=>a6 (i.1.1,()))
def aHd:Sum:=⟨[.str],[(.list tyC,false)],fun x=>aBN x.1⟩
noncomputable def ap8:Env:=kU prog tt 16 [(14,aAm)] [(4,azP)] [(4,asM)]
def aua {d:Type} (a:akm.den->Option d) (b:ahe.den->Option d) (c:ahA.den->Option d) (v:akm.den):Option d:=acj (fun e f g i=>a ((e,f,g,()),(i,()))) (fun j=>b ((),(j,()))) (aE c) v.1.1 v.1.2.1 v.1.2.2.1 v.2.1
theorem aDh:eY ap8 16 azk asM:=En (aua) (h2:=by intros;simp only[aua,aE,acj,dG,dH,bT,dw,dI,kT,Dy])
theorem aGw:eP ap8 16 b16:=tC [azk] (aD (fM (aDh)) aN)
theorem ap9:gm ap8:=eA f16 (aD au0 aN) (aGw)
theorem aHe:eX prog 16 aHd:=sA ap9
end
section
open List renaming drop_eq_getElem_cons → aH, length_drop → aP
open Go.RowKit
abbrev Tok:=Int×Int×Int×Bool×Unit
abbrev Dlm:=List UInt8×Bool×Unit
abbrev NF:=Int×List Dlm×Bool×Unit
def Wy:Dlm:=([],(false,()))
def oU (s:dC) (a:Nat):Nat:=a+uH (s.drop a) a fK
def DZ (s:dC) (a b:Nat):dC:=(s.take b).drop a
def VE (w:dC):Bool:=GH (nH w 0 fK).1
theorem ND {s:List UInt8} {a:Nat} (h:a<=s.length):a<=oU s a/\oU s a<=s.length:=by
 grind [Zd,oU]
def jH (s:dC) (a:Nat):Tok:=if nK (s.drop a)≠0 then(1,a,((a+nK (s.drop a):Nat):Int),false,())else if dm s a=10 then(2,a,((a+1:Nat):Int),false,())else if dm s a=35 then(3,a,(iW s a:Nat),false,())else if(BC (s.drop a)).2≠0 then(4,a,((a+(BC (s.drop a)).2:Nat):Int),false,())else if zC (s.drop a)≠0 then(5,a,((a+zC (s.drop a):Nat):Int),false,())else(6,a,(oU s a:Nat), !VE (DZ s a (oU s a)),())
def jZ (s:dC) (a:Nat) (x:NF):NF:=if nK (s.drop a)≠0 then(x.1,x.2.1,false,())else if dm s a=10 then(0,x.2.1,decide (0<x.2.1.length),())else if dm s a=35 then(0,x.2.1,false,())else if(BC (s.drop a)).2≠0 then((if(BC (s.drop a)).1=4\/(BC (s.drop a)).1=5 then(((BC (s.drop a)).1:Nat):Int)else 0),x.2.1,false,())else if zC (s.drop a)≠0 then(0,x.2.1,false,())else(0,(if x.1=0 then x.2.1 else x.2.1++[(Kr (DZ s a (oU s a)),decide (x.1=5),())]),false,())
def iC (s:dC) (a:Nat) (x:NF):Tok×NF:=if x.2.2.1=true then(if(rC s (x.2.1.headD Wy).1 (x.2.1.headD Wy).2.1 a).2=true then((7,a,((rC s (x.2.1.headD Wy).1 (x.2.1.headD Wy).2.1 a).1:Nat),false,()),(x.1,x.2.1.tail,decide (1<x.2.1.length),()))else((7,a,((rC s (x.2.1.headD Wy).1 (x.2.1.headD Wy).2.1 a).1:Nat),true,()),x))else(jH s a,jZ s a x)
theorem atz {c:UInt8} {t:List UInt8} (h:I8 (c.toNat:Int)=true):(BC (c::t)).2≠0:=by
 have d:ofF [c]≠0:=by
  have: ∀n:Fin 256,I8 ((n.val:Nat):Int)=true->ofF [UInt8.ofNat n.val]≠0:=by decide+kernel
  have:=this ⟨c.toNat,c.toNat_lt⟩ h;simpa using this
 have e: ∀n,(Kq (c::t) (n+1)).2≠0:=by
  intro n
  induction n with
  |zero=>simp_all [Kq]
  |succ n f=>
   grind [Kq]
 grind [BC]
theorem zJ {s:List UInt8} (m:s.length<=10000) {a:Nat} (g:a<s.length) (x:NF):(a:Int)<(iC s a x).1.2.2.1/\(iC s a x).1.2.2.1<=s.length/\(iC s a x).1.2.1=a:=by
 unfold iC;split
 .have h:=HY s (x.2.1.headD Wy).1 (x.2.1.headD Wy).2.1 bY a (di) (by omega);have i:=h.2.2 g;have d:=h.1;unfold rC
  grind
 .unfold jH;have hd:=aH g;split
  .have:=YX (s.drop a)
   grind
  .split
   .grind
   .split
    .rename_i p
     have d:=wP s a;have i:=wQ (s:=s) (a:=a) (by omega);have q:iW s a≠a:=by
      intro e;have:=UC (s:=s) (f:=a) (by omega);simp_all [byte_at]
     grind
    .split
     .have:=(QZ (s.drop a)).1
      grind
     .split
      .rename_i u
       have d:=MS (s.drop a);rw[aP]at d;have:zC (s.drop a)<=lg (s.drop a):=by grind [zC]
       grind
      .rename_i v y _ z _
       have j:=ND (s:=s) (a:=a) (by omega);have:uH (s.drop a) a fK≠0:=by
        rw[hd,uH];have l:oP fK.1 (jr s[a])=false:=by
         unfold oP;have:CG (jr s[a])=false:=by
          have A:oW (s[a].toNat:Int)=false:=by
           grind [Ku]
          have B:I8 (s[a].toNat:Int)=false:=by
           grind [atz]
          simp_all [byte_at,oW,I8,CG,jr]
         rw[this];rfl
        rw[l];simp
       unfold oU at j ⊢
       grind
end
section
open Option renaming some → a6, none → a7
open Bool renaming false_eq_true → ai, and_true → aj, not_false → aF, not_eq_true → bG
open Int renaming toNat_natCast → aX
open List renaming length_drop → aP
open Nat renaming le_refl → af, add_zero → aW
open Go.RowKit
theorem ade {s:List UInt8} (z:s.length<1000000) {a:Nat} (x:a<=s.length) (d f:Int) (g:List Dlm) (j:Bool) (l:Int) (m:Bool) (p q u:Int) (v:Bool): ∀(N i:Nat),s.length-i<N->a<=i->i<=iW s a->
  LU N s d (i:Int) f g j l m p q u v=a6 (.inl ((d,((iW s a:Nat):Int),()),((f,g,j,()),(l,m,()),(p,q,u,v,()),())))
 |0,i,h,_,A=>by omega
 |N+1,i,h,B,A=>by
  have I:=wQ x;rw[LU,RV];by_cases e:i<iW s a
  .have y:i<s.length:=by omega
   rw[dn (fQ (by rw[cu];omega)),dn (fD),byte_at y,fB fun h=>XQ B e y (UInt8.toNat_inj.1 (by grind))];simp only[aF,aa];rw[dD,show(i:Int)+1=((i+1:Nat):Int) by omega];exact ade z x d f g j l m p q u v N (i+1) (by omega) (by omega) (by omega)
  .have J:i=iW s a:=by omega
   by_cases hl:i<s.length
   .have D:s[i]=10:=by grind [UC]
    rw[dn (fQ (by rw[cu];omega)),dn (fD),byte_at hl,D,show cZ (((10:UInt8).toNat:Nat):Int) 10=true from rfl];simp_all
   simp_all [iL,cu]
theorem adk {s:List UInt8} (I:s.length<1000000) {a:Nat} (J:a<=s.length) (d f:Int) (g:List Dlm) (j:Bool) (m:Int) (p:Bool) (q u v:Int) (x:Bool) (y:Int) (z:List Dlm) (A:Bool): ∀(N k:Nat),s.length-(a+k)<N->k<=lg (s.drop a)->
  LV N s d ((a+k:Nat):Int) f g j m p q u v x y z A=a6 (.inl ((s,d,((a+lg (s.drop a):Nat):Int),()),((f,g,j,()),(m,p,()),(q,u,v,x,()),(y,z,A,()),())))
 |0,k,h,hk=>by omega
 |N+1,k,h,hk=>by
  have M:=MS (s.drop a);have O:=aP (i:=a) (l:=s);rw[LV,RX];by_cases e:a+k<s.length
  .have B:k<(s.drop a).length:=by omega
   have D:(s.drop a)[k]=s[a+k]:=by simp
   obtain⟨_,_,c,K,_,L⟩:=wF s[a+k];rw[dn (fQ (by rw[cu];omega)),dn (fD),byte_at e,K,bT];simp only[L];by_cases hk2:k<lg (s.drop a)
   .have:=GZ isD (s.drop a) k B hk2;rw[D]at this;rw[this,aa,dD,show((a+k:Nat):Int)+1=((a+(k+1):Nat):Int) by omega];exact adk I J d f g j m p q u v x y z A N (k+1) (by omega) (by omega)
   .obtain rfl:k=lg (s.drop a):=by omega
    have:=Cc isD (s.drop a) B;rw[show isD s[a+lg (s.drop a)]=false by rw[<-D];exact this,ac]
  .obtain rfl:k=lg (s.drop a):=by omega
   rw[dY (iL (by rw[cu];omega))]
theorem aoY (w:dC) (d:w.length<=100000):agB w=a6 (VE w,()):=by
 have e:=(CZ w 0 fK mO).1;rw[agB,aFx w d,bT]
 grind [VE,Jd,auI]
theorem acD {s:List UInt8} {a b:Nat}:sub s (a:Int) (b:Int)=DZ s a b:=by simp[sub,DZ]
theorem Tu {s:List UInt8} {a b:Nat}:(DZ s a b).length<=s.length:=by
 grind [DZ]
theorem aoK {s:List UInt8} (d:s.length<=10000) {a:Nat} (e:a<s.length):am6 s (a:Int)=a6 (((oU s a:Nat):Int),()):=by
 rw[aFr s (by omega) (by omega) (by omega),aX];rfl
theorem aA1 {s:List UInt8} (v:s.length<=10000) {a:Nat} (z:a<s.length) (x:NF) (hp:x.2.2.1=true->x.2.1≠[]) (hl:x.2.1.length<=1000000):
  aw5 s a x=a6 ((iC s a x).1,((iC s a x).2,())):=by
 obtain⟨e,f,A,u⟩:=x;cases u;simp only at hp hl;unfold iC
 (rewrite [aw5];delta Zz agA agz Bi)
 cases A with
 |true=>
  obtain⟨d,r,rfl⟩: ∃d r,f=d::r:=by
   cases f with
   |nil=>simp_all
   |cons d r=>simp
  simp only[aa,if_true];rw[dn (fD (by omega) (by simp)),show gW (d::r) ([],(false,())) 0=d from rfl,aBU (by omega) d (by omega),bT];simp only[List.headD_cons];by_cases hh:(rC s d.1 d.2.1 a).2=true
  rotate_left
  .rw[bG]at hh;simp only[hh,ai,if_false,show cZ 0 0=true from rfl,aa,eU,gU,jl,aj]
  .have B:sub (d::r) 1 (bV (d::r))=r:=by simp[sub,cu]
   have m:iV 1 (bV (d::r))=decide (1<(d::r).length):=by
    unfold iV bV
    grind
   simp only[hh,if_true,show cZ 1 0=false from rfl,ac,aa,eU,gU,jl,aj,B];have S:gy (bV (d::r)) 1 (bV (d::r))=true:=ig (by omega) (by grind [cu]) (by omega);simp_all
 |false=>
  have m:iV 0 (bV f)=decide (0<f.length):=by
   simp_all [iV,bV]
  have D:iy s (a:Int)=true:=fD;simp only[ac,ai,if_false];rw[awu (by omega) (by omega),bT];simp only;by_cases hb:nK (s.drop a)=0
  .rw[dY (nS),D,aa];by_cases h10:dm s a=10
   .rw[dn (gz h10)];simp only[eU,gU,jl,aj,aa,m,show cZ 0 0=true from rfl]
    grind [dD,jH,jZ]
   .rw[dY (fB h10)];by_cases h35:dm s a=35
    .rw[dn (gz h35),ade (by omega) (a:=a) (by omega) _ _ _ _ _ _ _ _ _ _ bY a (di) (af _) (wP s a),bT];simp_all [dX,eU,gU,jl,jH,jZ]
    .obtain⟨l,U⟩:=ayW (s.drop a);obtain⟨I,p,V⟩:=QZ (s.drop a);rw[aP]at I;rw[dY (fB h35),aG2 s (by omega) (by omega),bT];simp only;by_cases ho:(BC (s.drop a)).2=0
     .have q:=p.1 ho;rw[q,dY (show iV 0 ((0:Nat):Int)=false from rfl)];have hd:=adk (s:=s) (by omega) (a:=a) (by omega) (a:Int) 0 f false 0 false 0 0 0 false e f false bY 0 (di) (by omega);rw[aW]at hd;rw[hd,bT];simp only[dX];have J:=MS (s.drop a);rw[aP]at J;have W:=ND (s:=s) (a:=a) (by omega);have X: ∀(j:zC (s.drop a)=0),(bU (am6 s (a:Int)) fun g=>
        bif gy (bV s) (a:Int) g.1 then
         bif !cZ e 0 then
          bif qV EU f f then
           bif iG (sub s (a:Int) g.1) (sub s (a:Int) g.1)then
            bif cZ e e then
             bif kV (cZ e 5) (cZ e 5)then
              bif fG (bZ [] f) 24 then
               bif iG (sub s (a:Int) g.1) (sub s (a:Int) g.1)then
                bif cZ e e then
                 bif kV (cZ e 5) (cZ e 5)then
                  bU (ark (sub s (a:Int) g.1)) fun i=>
                   bif qV EU f f then
                    bif iG (sub s (a:Int) g.1) (sub s (a:Int) g.1)then
                     bif cZ e e then
                      bif kV (cZ e 5) (cZ e 5)then
                       bif((iG (sub s (a:Int) g.1) (sub s (a:Int) g.1)&&true)&&(iG i.1 i.1&&true))then
                        bif fG (bZ (bZ [] f) [(i.1,(cZ e 5,()))]) 24 then
                         bif qV EU f f then
                          bif iG (sub s (a:Int) g.1) (sub s (a:Int) g.1)then
                           bif cZ e e then
                            bif kV (cZ e 5) (cZ e 5)then
                             bif(iG i.1 i.1&&(kV (cZ e 5) (cZ e 5)&&true))then
                              bU (agB (sub s (a:Int) g.1)) fun K=>
                               bif(cZ 0 0&&(kV false false&&true))then
                                a6 (((6:Int),((a:Int),(g.1,(!K.1,())))),(((0:Int),(bZ (bZ [] f) [(i.1,(cZ e 5,()))],(false,()))),()))
                               else a7
                             else a7
                            else a7
                           else a7
                          else a7
                         else a7
                        else a7
                       else a7
                      else a7
                     else a7
                    else a7
                   else a7
                 else a7
                else a7
               else a7
              else a7
             else a7
            else a7
           else a7
          else a7
         else bU (agB (sub s (a:Int) g.1)) fun i=>
          bif(cZ 0 0&&(qV EU f f&&(kV false false&&true)))then
           a6 (((6:Int),((a:Int),(g.1,(!i.1,())))),(((0:Int),(f,(false,()))),()))
          else a7
        else a7)=a6 (((6:Int),((a:Int),(((oU s a:Nat):Int),(!VE (DZ s a (oU s a)),())))),(((0:Int),((if e=0 then f else f++[(Kr (DZ s a (oU s a)),decide (e=5),())]),(false,()))),())):=by
       intro j;have Y:=Tu (s:=s) (a:=a) (b:=oU s a);rw[aoK v z,bT];simp only;rw[dn (ig (by omega) (by omega) (by rw[cu];omega)),acD];by_cases h0:e=0
       .subst h0;rw[show(!cZ 0 0)=false from rfl,ac,aoY _ (by omega),bT,am rfl];simp_all [eU,gU,jl]
       .rw[fB h0,aq h0];have L:fG (bZ [] f) 24=true:=ug (by grind [bZ]);have M: ∀y,fG (bZ (bZ [] f) [y]) 24=true:=fun y=>ug (by grind [bZ]);simp only[aF,eU,rV,gU,jl,aj,aa,L];rw[aAY _ (by omega),bT];simp only[eU,rV,gU,jl,aj,aa,M];rw[aoY _ (by omega),bT];rfl
      by_cases hg:lg (s.drop a)=0
      .simp_all [zC,nS,jH,jZ]
      .rw[dn (fQ)];by_cases h1:a+lg (s.drop a)<s.length
       .have N:((s.drop a).drop (lg (s.drop a))).head?=a6 s[a+lg (s.drop a)]:=by
         simp
        have O:iy s ((a+lg (s.drop a):Nat):Int)=true:=fD;rw[dn (fQ (by rw[cu];omega)),O,aa,byte_at h1];by_cases e1:s[a+lg (s.drop a)]=60
        .have j:zC (s.drop a)=lg (s.drop a):=by unfold zC;simp_all
         rw[e1,show cZ (((60:UInt8).toNat:Nat):Int) 60=true from rfl];simp_all [eU,gU,jl,jH,jZ]
        .rw[dY (fB fun h=>e1 (UInt8.toNat_inj.1 (by grind))),aa];by_cases e2:s[a+lg (s.drop a)]=62
         .have j:zC (s.drop a)=lg (s.drop a):=by unfold zC;simp_all
          rw[e2,show cZ (((62:UInt8).toNat:Nat):Int) 62=true from rfl];simp_all [eU,gU,jl,jH,jZ]
         .have j:zC (s.drop a)=0:=by simp_all [zC]
          rw[dY (fB fun h=>e2 (UInt8.toNat_inj.1 (by grind)))];simp_all [jH,jZ]
       .have N:((s.drop a).drop (lg (s.drop a))).head?=a7:=by
         simp_all
        have j:zC (s.drop a)=0:=by simp_all [zC]
        rw[dY (nS (by rw[cu];omega))];simp_all [jH,jZ]
     .have q:(BC (s.drop a)).1≠0:=fun h=>ho (p.2 h);rw[dn (fQ)];have Z:dJ .i64 (a:Int) (bV (QO (BC (s.drop a)).1))=((a+(BC (s.drop a)).2:Nat):Int):=by
       grind [cu,dD]
      by_cases h4:(BC (s.drop a)).1=4
      .rw[dn (gz),l,bT];simp_all [eU,gU,jl,jH,jZ]
      .rw[dY (fB)];by_cases h5:(BC (s.drop a)).1=5
       .rw[dn (gz),l,bT];simp_all [eU,gU,jl,jH,jZ]
       .rw[dY (fB),l,bT];simp_all [eU,gU,jl,jH,jZ]
  .rw[dn (fQ)];simp_all [eU,gU,jl,jH,jZ]
end
section
open Int renaming toNat_natCast → aX
open List renaming getElem_mem → aI, map_append → aZ, take_of_length_le → bD
open Go.RowKit
def jF (s:dC):Nat->Nat->List Tok->NF->List Tok×NF
 |0,_,l,x=>(l,x)
 |n+1,a,l,x=>if a<s.length then jF s n (iC s a x).1.2.2.1.toNat (l++[(iC s a x).1]) (iC s a x).2 else(l,x)
def gQ (s:dC):List Tok×NF:=jF s (s.length+1) 0 [] (0,[],false,())
def OkX (x:NF):Prop:=x.2.2.1=true->x.2.1≠[]
theorem VS (s:dC) (a:Nat) {x:NF} (h:OkX x):OkX (iC s a x).2/\(iC s a x).2.2.1.length<=x.2.1.length+1:=by
 obtain⟨d,e,f,u⟩:=x;unfold OkX at*;unfold iC;simp only at h ⊢;split
 .grind
 .unfold jZ
  grind
theorem H7 {s:List UInt8} (d:s.length<=10000): ∀(n m a:Nat) (l:List Tok) (x:NF),s.length<n+a->s.length<m+a->jF s n a l x=jF s m a l x
 |0,0,a,l,x,_,_=>rfl
 |0,m+1,a,l,x,h,_=>by rw[jF,jF,aq (by omega)]
 |n+1,0,a,l,x,_,h=>by rw[jF,jF,aq (by omega)]
 |n+1,m+1,a,l,x,f,g=>by
  rw[jF,jF];split
  .rename_i e
   have:=zJ d e x;exact H7 d n m _ _ _ (by omega) (by omega)
  .rfl
theorem aeg {s:List UInt8} (d:s.length<=10000) (f:Int) (g:Bool): ∀(N a:Nat) (l:List Tok) (x:NF),s.length-a<N->a<=s.length->OkX x->x.2.1.length<=a->l.length<=a->
  Om N s (a:Int) l x.1 x.2.1 x.2.2.1 f g=some (.inl ((),((jF s N a l x).1,((jF s N a l x).2.1,(jF s N a l x).2.2.1,(jF s N a l x).2.2.2.1,()),(f,g,()),())))
 |0,a,l,x,h,_,_,_,_=>by omega
 |N+1,a,l,x,h,u,i,v,y=>by
  rw[Om,ach,jF];by_cases e:a<s.length
  .have z:=zJ d e x;have m:=VS s a i;have p:(x.1,(x.2.1,(x.2.2.1,())))=x:=rfl;rw[dn (fQ (by rw[cu];omega)),p,aA1 d e x i (by omega),bT,am e];simp only;rw[dn (ug (by grind [bZ]))];obtain⟨b,j⟩: ∃b:Nat,(iC s a x).1.2.2.1=(b:Int):=⟨(iC s a x).1.2.2.1.toNat,by omega⟩;have q:=aeg d f g N b (l++[(iC s a x).1]) (iC s a x).2 (by omega) (by omega) m.1 (by omega) (by grind);rw[j,aX];rw[<-q];rw[<-j];rfl
  simp_all [iL,cu,aq]
theorem aFv {s:List UInt8} (d:s.length<=10000):aw0 s=some ((gQ s).1,((gQ s).2,())):=by
 have h:=aeg d 0 false bY 0 [] (0,[],false,()) (di) (by omega) (fun h=>by cases h) (by simp) (by simp);have e:jF s bY 0 [] (0,[],false,())=gQ s:=H7 d _ _ _ _ _ (by have:=di (n:=s.length) (by omega);omega) (by omega);rw[aw0,show Om bY s 0 [] 0 [] false 0 false=_ from h,bT,e];rfl
structure OkT (s:dC) (t:Tok):Prop where
 f0:0<=t.2.1
 ft:t.2.1<t.2.2.1
 t1:t.2.2.1<=s.length
theorem ajC {s:List UInt8} (g:s.length<=10000): ∀(n a:Nat) (l:List Tok) (x:NF),OkX x->l.length<=a->a<=s.length->(∀t∈l,OkT s t)->(∀t∈(jF s n a l x).1,OkT s t)/\OkX (jF s n a l x).2/\(jF s n a l x).1.length<=s.length
 |0,a,l,x,d,i,j,h=>⟨h,d,by grind [jF]⟩
 |n+1,a,l,x,d,i,j,h=>by
  rw[jF];split
  .rename_i e
   have p:=zJ g e x;exact ajC g n _ _ _ (VS s a d).1 (by grind) (by omega) (fun t m=>by
    rcases List.mem_append.1 m with f|f
    .exact h t f
    .rw[List.mem_singleton.1 f];exact⟨by omega,by omega,by omega⟩)
  grind
theorem Ee {s:List UInt8} (d:s.length<=10000):(∀t∈(gQ s).1,OkT s t)/\OkX (gQ s).2/\(gQ s).1.length<=s.length:=
 ajC d _ _ _ _ (fun h=>by cases h) (by simp) (by omega) (fun t e=>by cases e)
def xJ (t:Tok):Bool:=decide (t.1=2)||decide (t.1=4)||decide (t.1=5)||decide (t.1=6)
def qf (s:dC) (t:Tok):Int×List UInt8×Int×Int×Unit:=(t.1,sub s t.2.1 t.2.2.1,t.2.1,t.2.2.1,())
def eH (s:dC) (l:List Tok):List (Int×List UInt8×Int×Int×Unit):=(l.filter xJ).map (qf s)
theorem P8 {s:List UInt8} (g:s.length<=10000) (l:List Tok) (hl:l.length<=10000) (d: ∀t∈l,OkT s t): ∀(N k:Nat),l.length-k<N->k<=l.length->
  JG N s l (k:Int) (eH s (l.take k))=some (.inl ((),(eH s l,())))
 |0,k,h,_=>by omega
 |N+1,k,h,hk=>by
  (rewrite [JG,acj];delta Dy kT)
  by_cases e:k<l.length
  .have i:gW l (0,(0,(0,(false,())))) (k:Int)=l[k]:=by
    simp_all [gW]
   have j:iy l (k:Int)=true:=fD;obtain⟨m,A,B⟩:=d _ (aI e);have p:gy (bV s) l[k].2.1 l[k].2.2.1=true:=ig m (by omega) (by rw[cu];omega);have D:(eH s (l.take k)).length<=10000:=by
    grind [eH]
   have q: ∀y,fG (bZ (eH s (l.take k)) [y]) 40=true:=fun y=>ug (by grind [bZ]);have f:=P8 g l hl d N (k+1) (by omega) (by omega);have u:l.take (k+1)=l.take k++[l[k]]:=by simp
   have v:dJ .i64 (k:Int) 1=((k+1:Nat):Int):=by grind [dD]
   have x:xJ l[k]=true->JG N s l ((k+1:Nat):Int) (bZ (eH s (l.take k)) [(l[k].1,(sub s l[k].2.1 l[k].2.2.1,(l[k].2.1,(l[k].2.2.1,()))))])=some (.inl ((),(eH s l,()))):=fun z=>by
    rw[<-f];congr 1;unfold eH;rw[u,List.filter_append,aZ,List.filter_cons_of_pos z];rfl
   rw[dn (fQ (by rw[cu];omega)),j];simp only[aa,i,p,q,v];unfold xJ at x;by_cases h2:l[k].1=2
   .rw[dn (gz h2)];grind
   .rw[dY (fB h2)];by_cases h4:l[k].1=4
    .rw[dn (gz h4)];grind
    .rw[dY (fB h4)];by_cases h5:l[k].1=5
     .rw[dn (gz h5)];grind
     .rw[dY (fB h5)];by_cases h6:l[k].1=6
      .rw[dn (gz h6)];grind
      .rw[dY (fB h6),<-f]
       grind [eH,xJ]
  simp_all [iL,cu,bD]
theorem aFt {s:List UInt8} (d:s.length<=10000):aBN s=some (eH s (gQ s).1,()):=by
 obtain⟨e,f,g⟩:=Ee d;rw[aBN,aFv d,bT];simp only;have h:=P8 d (gQ s).1 (by omega) e bY 0 (di) (by omega);rw[show JG bY s (gQ s).1 0 []=_ from h,bT];rfl
end
end Go.Proofs.YtjegbhogodknhaaGreatDoor
