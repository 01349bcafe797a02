/- Parts of the proof, joined and shortened by a program: the plain machine, the functions as it prints them, and the mathematics over them. -/
import Derived.Test.YtdfhjhkcjecmlaaGreatDoorZ3
set_option linter.unusedVariables false
set_option linter.unusedSimpArgs false
set_option maxRecDepth 100000
set_option maxHeartbeats 4000000
namespace Go.Proofs.YtdfhjhkcjecmlaaGreatDoor
section
open Option renaming some → a6, none → a7
open Bool renaming not_true → ak, not_false → az
open List renaming mem_cons_of_mem → au, map_cons → ax, drop_eq_getElem_cons → ay, drop_of_length_le → aB, mem_cons_self → aK, getElem_take → bu
open Nat renaming le_refl → ae, lt_or_ge → aO
open Go.RowKit
def TU (n:Nat):bU:=if n=0 then []else MS.getD (n-1) []
def aeZ (u t:bU):Bool:=decide (t.take u.length=u)
def uA (t:bU):Nat->Nat
 |0=>0
 |n+1=>if aeZ (TU (n+1)) t=true/\(TU (uA t n)).length<(TU (n+1)).length then n+1 else uA t n
theorem QZ: ∀n:Fin 18,NL ((n.val:Nat):Int)=a6 (TU n.val,()):=by decide+kernel
theorem aoB: ∀n:Fin 18,(TU n.val).length<=3:=by decide+kernel
theorem agf (t:bU): ∀n,uA t n<=n
 |0=>ae _
 |n+1=>by rw[uA];split<;>have:=agf t n<;>omega
theorem aih (s:bU) (l:s.length<1000000) {a:Nat} (m:a<=s.length): ∀(d N k:Nat),k+d=17->d<N->
  I8 N s (a:Int) ((uA (s.drop a) k:Nat):Int) ((k+1:Nat):Int)=a6 (.inl ((((uA (s.drop a) 17:Nat):Int),()),()))
 |d,0,k,_,h=>by omega
 |0,N+1,k,h,_=>by
  have hk:k=17:=by omega
  subst hk;rfl
 |d+1,N+1,k,h,q=>by
  have f:=QZ ⟨k+1,by omega⟩;have u:=agf (s.drop a) k;have g:=QZ ⟨uA (s.drop a) k,by omega⟩;have o:=aoB ⟨k+1,by omega⟩;simp only at f g o;rw[I8,UZ,bW (lL),f,bJ];simp only;rw[dC (a:=((k+1:Nat):Int)) (by omega) (by omega),show((k+1:Nat):Int)+1=((k+1+1:Nat):Int) by omega,bP,bP,fV];have i:=aih s l m d N (k+1) (by omega) (by omega);rw[uA]at i;by_cases e:a+(TU (k+1)).length<=s.length
  .rw[bW (lL),dC,show(a:Int)+(((TU (k+1)).length:Nat):Int)=((a+(TU (k+1)).length:Nat):Int) by omega,bW (eU),yN];have p:gm ((s.drop a).take (TU (k+1)).length) (TU (k+1))=aeZ (TU (k+1)) (s.drop a):=by
    grind [gm,aeZ]
   rw[p];cases j:aeZ (TU (k+1)) (s.drop a)with
   |false=>simp_all
   |true=>
    rw[j]at i;rw[aa,g,bJ];simp only[bP];by_cases e2:(TU (uA (s.drop a) k)).length<(TU (k+1)).length
    .rw[bW (eX)];simp_all
    simp_all [jq]
  .rw[dD (SB)];have j:aeZ (TU (k+1)) (s.drop a)=false:=by
    unfold aeZ
    grind
   simp_all
theorem aNY (s:bU) (d:s.length<1000000) {a:Nat} (e:a<=s.length):agO s a=a6 (((uA (s.drop a) 17:Nat):Int),()):=by
 rw[agO];have h:=aih s d e 17 bV 0 rfl (dI);rw[show I8 bV s (a:Int) 0 1=_ from h,bJ];rfl
def opB:bU:=[38,124,59,60,62,45,40,41]
def AC (c:UInt8):UInt8:=if opB.contains c=true then c else 0
theorem acT: ∀(x u:bU),(∀c∈u,opB.contains c=true)->(x.map AC=u↔x=u)
 |[],[],_=>Iff.rfl
 |[],_::_,_=>by simp
 |_::_,[],_=>by simp
 |c::x,d::u,h=>by
  have f:=h d (aK ..);have i:=acT x u fun c g=>h c (au _ g);rw[ax,List.cons.injEq,List.cons.injEq,i];have:AC c=d↔c=d:=by
   unfold AC;split
   .exact Iff.rfl
   .rename_i g
    constructor
    .intro e;rw[<-e]at f;exact absurd f (by decide)
    grind
  rw[this]
theorem aaF: ∀u∈MS,∀c∈u,opB.contains c=true:=by decide
theorem azf (x:bU):Zg (x.map AC)=Zg x:=by
 unfold Zg;have:MS.findIdx? (· ==x.map AC)=MS.findIdx? (· ==x):=by
  have h: ∀l:List bU,(∀u∈l,∀c∈u,opB.contains c=true)->l.findIdx? (· ==x.map AC)=l.findIdx? (· ==x):=by
   intro l
   induction l with
   |nil=>intro _;rfl
   |cons u l d=>
    intro h;have e:(u==x.map AC)=(u==x):=by
     have:=acT x u (h u (aK ..))
     grind
    grind
  exact h MS aaF
 rw[this]
theorem azn (t:bU):EP t=EP ((t.take 3).map AC):=by
 have h: ∀n,n<=3->Ua t n=Ua ((t.take 3).map AC) n:=by
  intro n d
  induction n with
  |zero=>rfl
  |succ n e=>
   rw[Ua,Ua,<-List.map_take,List.take_take,Nat.min_eq_left d,azf,e (by omega)]
 grind [EP]
theorem VO (t:bU): ∀n,n<=17->uA t n=uA ((t.take 3).map AC) n
 |0,_=>rfl
 |n+1,i=>by
  have f:=VO t n (by omega);have d:=aoB ⟨n+1,by omega⟩;simp only at d;have e:aeZ (TU (n+1)) t=aeZ (TU (n+1)) ((t.take 3).map AC):=by
   unfold aeZ;rw[<-List.map_take,List.take_take,Nat.min_eq_left d];have g: ∀c∈TU (n+1),opB.contains c=true:=by
    have:TU (n+1)∈MS:=by
     have h: ∀n:Fin 17,TU (n.val+1)∈MS:=by decide+kernel
     exact h ⟨n,by omega⟩
    exact aaF _ this
   rw[decide_eq_decide,acT _ _ g]
  rw[uA,uA,e,f]
def nB (n:Fin 9):UInt8:=([0,38,124,59,60,62,45,40,41]:bU).getD n.val 0
def okB (t:bU):Bool:=EP t==(uA t 17,(TU (uA t 17)).length)
theorem ok0:okB []=true:=by decide+kernel
theorem ok1: ∀a,okB [nB a]=true:=by decide+kernel
theorem ok2: ∀a b,okB [nB a,nB b]=true:=by decide+kernel
theorem ok3: ∀a b c,okB [nB a,nB b,nB c]=true:=by decide+kernel
theorem Jj (c:UInt8): ∃n,AC c=nB n:=by
 unfold AC;split
 .rename_i h
  have: ∀d∈opB,∃n,d=nB n:=by decide
  simp_all
 .exact⟨0,rfl⟩
theorem aoC (t:bU):EP t=(uA t 17,(TU (uA t 17)).length):=by
 rw[azn,VO t 17 (ae _)];have h:okB ((t.take 3).map AC)=true:=by
  have g:(t.take 3).length<=3:=by grind
  rcases h:t.take 3 with _|⟨a,_|⟨b,_|⟨c,_|⟨d,l⟩⟩⟩⟩
  .exact ok0
  .obtain⟨x,e⟩:=Jj a;simp_all [ok1]
  .obtain⟨x,e⟩:=Jj a;obtain⟨y,f⟩:=Jj b;simp_all [ok2]
  .obtain⟨x,e⟩:=Jj a;obtain⟨y,f⟩:=Jj b;obtain⟨z,i⟩:=Jj c;simp_all [ok3]
  simp_all
 exact eq_of_beq h
theorem aNZ (s:bU) (d:s.length<1000000) {a:Nat} (e:a<=s.length):agO s a=a6 ((((EP (s.drop a)).1:Nat):Int),()):=by
 rw[aNY s d e,aoC]
theorem aFi (t:bU):NL (((EP t).1:Nat):Int)=a6 (TU (EP t).1,())/\(TU (EP t).1).length=(EP t).2:=by
 have h:=(Ul t).2.2;refine⟨QZ ⟨(EP t).1,by omega⟩, ?_⟩;rw[aoC]
theorem Tj {s:List UInt8} (p:s.length<1000000): ∀(N a:Nat),s.length-a<N->a<=s.length->
  ∃o,I7 N s (a:Int)=a6 o/\dO o (fun f=>a6 (f.1.1,())) (fun g=>a6 (g.1.1,()))=a6 ((((a+yT (s.drop a):Nat):Int)),())
 |0,a,h,_=>by omega
 |N+1,a,h,z=>by
  rw[I7,UY];by_cases e:a<s.length
  .have hd:=ay e;have q:fO s (a:Int)=true:=ed;rw[bW (eX (by rw[bP];omega)),q,byte_at e,hd,Nb];simp only[aa];have j: ∀m:Nat,a+m<=s.length->1<=m-> ∃o,I7 N s (bY .i64 (a:Int) (m:Int))=a6 o/\dO o (fun f=>a6 (f.1.1,())) (fun g=>a6 (g.1.1,()))=a6 ((((a+(yT (s.drop (a+m))+m):Nat):Int)),()):=fun m u A=>by
    obtain⟨o,B,D⟩:=Tj p N (a+m) (by omega) u
    grind [dC]
   by_cases h32:s[a]=32
   .have:tC (s[a].toNat:Int)=true:=by rw[h32];rfl
    rw[this,am rfl,h32];exact j 1 (by omega) (by omega)
   .have l:bZ (s[a].toNat:Int) 32=false:=dJ fun h=>h32 (UInt8.toNat_inj.1 (by grind));by_cases h9:s[a]=9
    .have:tC (s[a].toNat:Int)=true:=by rw[h9];rfl
     rw[this,am rfl,l,h9];exact j 1 (by omega) (by omega)
    .have v:bZ (s[a].toNat:Int) 9=false:=dJ fun h=>h9 (UInt8.toNat_inj.1 (by grind));have x:tC (s[a].toNat:Int)=false:=by
      simp_all [tC,iJ]
     rw[x,aq (by simp),l,v];simp only[ac];have i:CY (s[a]::s.drop (a+1))=false-> ∃o:Ux.den⊕UE.den,a6 (.inl (((a:Int),()),()))=a6 o/\dO o (fun f=>a6 (f.1.1,())) (fun g=>a6 (g.1.1,()))=a6 ((((a+(if CY (s[a]::s.drop (a+1))=true then yT ((s.drop (a+1)).drop 1)+2 else 0):Nat):Int)),()):=fun h=>by
      rw[h,aq (by simp)];exact⟨_,rfl,rfl⟩
     by_cases h92:s[a]=92
     .rw[h92,show bZ (((92:UInt8).toNat:Nat):Int) 92=true from rfl,aa,dC,show(a:Int)+1=((a+1:Nat):Int) by omega];rw[h92]at i;by_cases e1:a+1<s.length
      .have y:=ay e1;rw[bW (eX (by rw[bP];omega)),bW (ed),byte_at e1];by_cases h10:s[a+1]=10
       .rw[h10,show bZ (((10:UInt8).toNat:Nat):Int) 10=true from rfl,aa];have E:CY (92::s.drop (a+1))=true:=by rw[y,h10];rfl
        grind
       .rw[dD (dJ fun h=>h10 (UInt8.toNat_inj.1 (by grind)))]
        grind [CY]
      .rw[dD (jq (by rw[bP];omega))];refine i ?_;rw[aB (by omega)];rfl
     .rw[dD (dJ fun h=>h92 (UInt8.toNat_inj.1 (by grind)))];refine i ?_;cases s.drop (a+1)with
      |nil=>rfl
      |cons d t=>simp[CY,h92]
  .rw[dD (gB (by rw[bP];omega)),aB (by omega)];exact⟨_,rfl,rfl⟩
theorem aCA {s:List UInt8} (d:s.length<1000000) {a:Nat} (e:a<=s.length):amY s a=a6 ((((a+yT (s.drop a):Nat):Int)),()):=by
 rw[amY];obtain⟨o,f,g⟩:=Tj d bV a (dI) e
 grind [bJ]
theorem abm {s w:List UInt8} (g:s.length<1000000) {i:Nat} (hi:i<=s.length) (f:Bool): ∀(N k:Nat),i-k<N->k<=i->
  ∃d:Nat,Om N s (i:Int) (k:Int) w f=a6 (.inl ((s,(i:Int),(d:Int),()),((w,f,()),())))/\d<=i/\k<=d/\(s.take i).drop d=if f=true then((s.take i).drop k).dropWhile (· ==9)else(s.take i).drop k
 |0,k,h,_=>by omega
 |N+1,k,h,hk=>by
  rw[Om,UX];cases f with
  |false=>grind
  |true=>
   simp only[aa];by_cases e:k<i
   .have j:k<(s.take i).length:=by simp_all
    have hd:=ay j;rw[bu]at hd;rw[bW (eX),bW (ed),byte_at (by omega)];by_cases h9:s[k]=9
    .rw[h9,show bZ (((9:UInt8).toNat:Nat):Int) 9=true from rfl,aa,dC,show(k:Int)+1=((k+1:Nat):Int) by omega];obtain⟨d,l,m,o,p⟩:=abm g hi true N (k+1) (by omega) (by omega);exact⟨d,l,m,by omega,by simp_all⟩
    .rw[dD (dJ fun h=>h9 (UInt8.toNat_inj.1 (by grind)))];exact⟨k,rfl,hk,ae _,by simp_all⟩
   .rw[dD (gB)];refine⟨k,rfl,hk,ae _, ?_⟩;simp_all [aB]
theorem aat {s:List UInt8} {f i:Nat} (d:f<=i) (h2:i<jo s f) (e:i<s.length):s[i]≠10:=by
 have:=Iu (· !=10) (s.drop f) (i-f) (by grind) (by grind [jo]);simp_all
theorem Xc {s:List UInt8} {f:Nat} (d:jo s f<s.length):s[jo s f]=10:=by
 have:=CO (· !=10) (s.drop f) (by grind [jo]);simp_all [jo]
def aN3 (s:bU) (h:Nat×Bool):Uw.den⊕UD.den:=if h.2=true then .inr ((((h.1:Nat):Int),1,()),())else .inl ((s,()),())
theorem MI {s w:List UInt8} (j:s.length<1000000) (d:Bool): ∀(N f i M:Nat),s.length+1-i<N->f<=i->i<=jo s f->f<=s.length->s.length-f<M->
  xI N s (f:Int) (i:Int) w d=a6 (aN3 s (qQ s w d M f))
 |0,f,i,M,h,_,_,_,_=>by omega
 |N+1,f,i,0,h,l,z,o,q=>by omega
 |N+1,f,i,M+1,h,l,z,o,q=>by
  have D:=Dv o;have u:gm (zx s d f) w=decide (zx s d f=w):=by
   grind [gm]
  have stop: ∀N,0<N->xI N s ((s.length+1:Nat):Int) ((s.length+1:Nat):Int) w d=a6 (.inl ((s,()),()))/\xI N s (f:Int) ((s.length+1:Nat):Int) w d=a6 (.inl ((s,()),())):=fun N E=>by
   obtain⟨n,rfl⟩: ∃n,N=n+1:=⟨N-1,by omega⟩;constructor
   ·(rewrite [xI,Jz];delta sS;rw[dD (SB (by rw[bP];omega))])
   ·(rewrite [xI,Jz];delta sS;rw[dD (SB (by rw[bP];omega))])
  have v: ∀m,qQ s w d m s.length=(s.length,false):=fun m=>by
   cases m with
   |zero=>rfl
   |succ m=>simp_all [qQ]
  (rewrite [xI,Jz];delta sS;rw[bW (lL (by rw[bP];omega))])
  by_cases e:i<jo s f
  .have g:i<s.length:=by omega
   rw[bW (eX (by rw[bP];omega)),bW (ed),byte_at g,dJ fun h=>aat l e g (UInt8.toNat_inj.1 (by grind))];simp only[az,aa];rw[dC,show(i:Int)+1=((i+1:Nat):Int) by omega];exact MI j d N f (i+1) (M+1) (by omega) (by omega) (by omega) o q
  .have g:i=jo s f:=by omega
   obtain⟨A,x,G,I,J⟩:=abm (w:=w) j (i:=i) (by omega) d bV f (dI) l;have hT:sub s (A:Int) (i:Int)=zx s d f:=by
    simp_all [zx,sub]
   by_cases hl:i<s.length
   .have B:s[i]=10:=by subst g;exact Xc hl
    have p:pO s f=i+1:=by unfold pO;grind
    rw[bW (eX (by rw[bP];omega)),bW (ed),byte_at hl,B,show bZ (((10:UInt8).toNat:Nat):Int) 10=true from rfl];simp only[ak,ac];rw[dD (dJ (by rw[bP];omega)),x,bJ];simp only[dO];rw[bW (eU (by omega) (by omega) (by rw[bP];omega)),hT,u,qQ,am (by omega),p];rw[bW (eX (by rw[bP];omega)),dC,show(i:Int)+1=((i+1:Nat):Int) by omega];by_cases hw:zx s d f=w
    .rw[decide_eq_true hw,aa,am hw];rfl
    .rw[decide_eq_false hw,ac,aq hw];exact MI j d N (i+1) (i+1) M (by omega) (ae _) (zu s _) (by omega) (by omega)
   .have y:i=s.length:=by omega
    rw[dD (jq (by rw[bP];omega)),bW (dW (by rw[bP];omega))];by_cases hfi2:f=i
    .rw[bW (dW),dC,show(i:Int)+1=((s.length+1:Nat):Int) by omega,(stop N (by omega)).2,hfi2,y,v];rfl
    .have p:pO s f=s.length:=by simp_all [pO]
     rw[dD (dJ),x,bJ];simp only[dO];rw[bW (eU (by omega) (by omega) (by rw[bP];omega)),hT,u,qQ,am (by omega),p];rw[dD (jq (by rw[bP];omega))];by_cases hw:zx s d f=w
     .rw[decide_eq_true hw,aa,am hw,y];rfl
     .rw[decide_eq_false hw,ac,aq hw,v,dC,show(i:Int)+1=((s.length+1:Nat):Int) by omega,(stop N (by omega)).1];rfl
theorem Qn (s w:bU) (d:Bool): ∀(N a:Nat),s.length-a<N->a<=s.length->(qQ s w d N a).1<=s.length/\((qQ s w d N a).2=false->(qQ s w d N a).1=s.length)/\(a<s.length->a<(qQ s w d N a).1)
 |0,a,h,_=>by omega
 |N+1,a,h,j=>by
  rw[qQ];by_cases e:a<s.length
  .have g:=ahQ e;rw[am e];split
   .simp_all
   .have f:=Qn s w d N (pO s a) (by omega) g.2;refine⟨f.1,f.2.1,fun _=> ?_⟩;rcases aO (pO s a) s.length with i|i
    .omega
    .cases N with
     |zero=>omega
     |succ N=>simp_all [qQ,aq]
  grind
theorem aI2 {s:List UInt8} (e:s.length<1000000) (d:bU×Bool×Unit) {a:Nat} (f:a<=s.length):amX s a d=a6 ((((F5 s d.1 d.2.1 a).1:Nat):Int),((if(F5 s d.1 d.2.1 a).2=true then 1 else 0),())):=by
 rw[amX,MI e d.2.1 bV a a bV (dI) (ae _) (zu s a) f (dI),bJ]
 grind [Qn,dI,aN3,F5,dO,bP]
theorem aAr {s:gy} (d:iQ s):Pj s=(gm (so s) [84]||gm (so s) [84,76]):=by
 rw[aAy d,ap9 d]
 match s,d with
 |[],d=>cases d
 |[f],d=>have h:f.1=0:=d;simp[Pj,h]
 |[f,g],d=>
  have e:=d.1;have i:g.1=0:=d.2.2.2
  grind [Pj]
 |f::g::h::r,d=>
  have e:=d.2.2.2.1;have j:=d.2.2.1
  grind [Xe,Pj]
end
section
open Option renaming some → a6, none → a7
open Tryz
open Go.RowKit
noncomputable def b88:Code:=(f88.body).getD .skip
noncomputable def aGk:Code:=cA (cA (cB (cA (cB (b88)))))
def aGW:eY:=⟨[0,1,4,6,100002],[],[4],[],[4,5],[]⟩
def ao8:SP:=⟨us [.v MW,cg,.u,.u,cC,.u,cg] 18,[fY]⟩
def alj:SP:=⟨us [.u,.u,.u,.u,cC] 20,[fY]⟩
def alT:SP:=⟨us [.u,.u,.u,.u,cC,cg] 19,[fY]⟩
def afI {f:Type} (o:(List iI)->Int->Int->Int->Int->Int->Int->Bool->Option f) (p:Int->Int->Int->Int->Bool->Option f) (q:Int->Int->Int->Int->Int->Bool->Option f) (d:List iI) (g e h i j l:Int) (m:Bool):Option f:=cond (gU e (bM d)) (cond (fO d e) (cond (bZ (dQ d (0,(0,(0,(0,(false,()))))) e).2.1 g) (cond (fO d e) (q 1 (dQ d (0,(0,(0,(0,(false,()))))) e).1 (dQ d (0,(0,(0,(0,(false,()))))) e).2.1 (dQ d (0,(0,(0,(0,(false,()))))) e).2.2.1 (dQ d (0,(0,(0,(0,(false,()))))) e).2.2.2.1 (dQ d (0,(0,(0,(0,(false,()))))) e).2.2.2.2.1) a7)<|o d g (bY .i64 e 1) h i j l m) a7)<|p h i j l m
def QG:Nat->(List iI)->Int->Int->Int->Int->Int->Int->Bool->Option (alj.den⊕alT.den)
 |0,_,_,_,_,_,_,_,_=>a7
 |n+1,d,e,f,g,h,i,j,l=>afI (QG n) (fun m o p q s=>a6 (.inl ((),((m,o,p,q,s,()),())))) (fun u v x y z A=>a6 (.inr ((u,()),((v,x,y,z,A,()),())))) d e f g h i j l
def aKn (n:Nat) (v:ao8.den):=QG n v.1.1 v.1.2.1 v.1.2.2.1 v.2.1.1 v.2.1.2.1 v.2.1.2.2.1 v.2.1.2.2.2.1 v.2.1.2.2.2.2.1
noncomputable def ay1:dG:=fK aGW ao8 alj alT (.exit 0) (aKn bV) 6
def axk (e:List iI) (f:Int):Option (iI×Int×Unit):=bK (QG bV e f 0 0 0 0 0 false) fun g=>dO g (fun h=>a6 ((0,(0,(0,(0,(false,()))))),(0,()))) (fun d=>a6 ((d.2.1.1,(d.2.1.2.1,(d.2.1.2.2.1,(d.2.1.2.2.2.1,(d.2.1.2.2.2.2.1,()))))),(d.1.1,())))
def aBZ:Sum:=⟨[MW,cZ],[(.pair cZ Gp,false),(.int .i64,false)],fun x=>axk x.1 x.2.1⟩
noncomputable def awj:Env:=iW prog tt 88 [] [(2,aGW)] [(2,ay1)]
def aAe {d:Type} (a:ao8.den->Option d) (b:alj.den->Option d) (c:alT.den->Option d) (v:ao8.den):Option d:=afI (fun e f g h i j l m=>a ((e,f,g,()),((h,i,j,l,m,()),()))) (fun o p q s u=>b ((),((o,p,q,s,u,()),()))) (fun x y z A B D=>c ((x,()),((y,z,A,B,D,()),()))) v.1.1 v.1.2.1 v.1.2.2.1 v.2.1.1 v.2.1.2.1 v.2.1.2.2.1 v.2.1.2.2.2.1 v.2.1.2.2.2.2.1
theorem aK5:dY awj 88 aGk ay1:=uz (aAe) (h2:=by intros;simp only[aAe,afI,dw,dA,bJ,dh,dB])
theorem aNM:dR awj 88 b88:=oq [aGk] (aD (fM (aK5)) aN)
theorem awk:fH awj:=eA f88 aN (aNM)
theorem aiO:dX prog 88 aBZ:=sA awk
def iE (d:List Gn):=dQ d (false,(false,([],()))) (dV .i64 (bM d) 1)
def kK (d:List Gn) (e:bU):=gm (cu (iE d).2.2.1 e) (cu (iE d).2.2.1 e)
def zk (d:List Gn):=oV Y1 (sub d 0 (dV .i64 (bM d) 1)) (sub d 0 (dV .i64 (bM d) 1))
def mZ (d:List Gn):=oV Y1 d d
def Et (d:List Gn) (e:bU):=cu (cu [] (sub d 0 (dV .i64 (bM d) 1))) [(false,(false,((cu (iE d).2.2.1 e),())))]
def qJ (d:List Gn):=bZ (dV .i64 (bM d) 1) (dV .i64 (bM d) 1)
def ni (d:List Gn):=gm (iE d).2.2.1 (iE d).2.2.1
def BD (d:List Gn):=dZ (bM d) 0 (dV .i64 (bM d) 1)
def aj7 (d:List Gn) (e:bU):Option ((List Gn)×Unit):=cond (eH (cu [] d) 24) (cond (eH (cu (cu [] d) [(false,(false,(e,())))]) 24) (a6 ((cu (cu [] d) [(false,(false,(e,())))]),())) a7) a7
def arY (d:List Gn) (e:bU) (f:Bool):Option ((List Gn)×Unit):=cond (gU 0 (bM d)) (cond (!f) (cond (fO d (dV .i64 (bM d) 1)) (cond (BD d) (cond (gG (iE d).2.2.1 e) (cond (mZ d) (cond (bZ (bM d) (bM d)) (cond (qJ d) (cond (BD d) (cond (zk d) (cond (ni d) (cond (gm e e) (cond (gG (iE d).2.2.1 e) (cond (kK d e) (cond ((jP false false)&&((jP false false)&&((kK d e)&&true))) (cond (eH (cu [] (sub d 0 (dV .i64 (bM d) 1))) 24) (cond (mZ d) (cond (bZ (bM d) (bM d)) (cond (qJ d) (cond (ni d) (cond (gm e e) (cond (gG (iE d).2.2.1 e) (cond (kK d e) (cond ((jP false false)&&((jP false false)&&((kK d e)&&true))) (cond (mZ d) (cond (bZ (bM d) (bM d)) (cond (qJ d) (cond (BD d) (cond (zk d) (cond (ni d) (cond (gm e e) (cond (gG (iE d).2.2.1 e) (cond (kK d e) (cond (eH (Et d e) 24) (cond (mZ d) (cond (bZ (bM d) (bM d)) (cond (qJ d) (cond (BD d) (cond (zk d) (cond (ni d) (cond (gm e e) (cond (gG (iE d).2.2.1 e) (cond (kK d e) (cond ((jP false false)&&((jP false false)&&((kK d e)&&true))) (bK (cond (mZ d) (cond (bZ (bM d) (bM d)) (cond (qJ d) (cond (BD d) (cond (zk d) (cond (ni d) (cond (gm e e) (cond (gG (iE d).2.2.1 e) (cond (kK d e) (cond (eH (cu [] (sub d 0 (dV .i64 (bM d) 1))) 24) (cond (mZ d) (cond (bZ (bM d) (bM d)) (cond (qJ d) (cond (ni d) (cond (gm e e) (cond (gG (iE d).2.2.1 e) (cond (kK d e) (cond ((jP false false)&&((jP false false)&&((kK d e)&&true))) (cond (eH (Et d e) 24) (cond (mZ d) (cond (bZ (bM d) (bM d)) (cond (qJ d) (cond (BD d) (cond (zk d) (cond (ni d) (cond (gm e e) (cond (gG (iE d).2.2.1 e) (cond (kK d e) (cond ((jP false false)&&((jP false false)&&((kK d e)&&true))) (cond ((((mZ d)&&((gm e e)&&((jP f f)&&((bZ (bM d) (bM d))&&((mZ d)&&((bZ (bM d) (bM d))&&((bZ (bM d) (bM d))&&((jP (gU 0 (bM d)) (gU 0 (bM d)))&&((jP true true)&&((jP f f)&&((jP (!f) (!f))&&((jP (!f) (!f))&&((mZ d)&&((bZ (bM d) (bM d))&&((qJ d)&&(((jP (iE d).1 (iE d).1)&&((jP (iE d).2.1 (iE d).2.1)&&((ni d)&&true)))&&(((jP (iE d).1 (iE d).1)&&((jP (iE d).2.1 (iE d).2.1)&&((ni d)&&true)))&&((mZ d)&&((bZ (bM d) (bM d))&&((qJ d)&&((zk d)&&((ni d)&&((gm e e)&&((kK d e)&&(((jP false false)&&((jP false false)&&((kK d e)&&true)))&&true)))))))))))))))))))))))))&&(((oV Y1 [(false,(false,((cu (iE d).2.2.1 e),())))] [(false,(false,((cu (iE d).2.2.1 e),())))])&&((oV Y1 (Et d e) (Et d e))&&(((jP (iE d).1 (iE d).1)&&((jP (iE d).2.1 (iE d).2.1)&&((ni d)&&true)))&&true)))&&true))&&true) (a6 ()) (a7)) (a7)) (a7)) (a7)) (a7)) (a7)) (a7)) (a7)) (a7)) (a7)) (a7)) (a7)) (a7)) (a7)) (a7)) (a7)) (a7)) (a7)) (a7)) (a7)) (a7)) (a7)) (a7)) (a7)) (a7)) (a7)) (a7)) (a7)) (a7)) (a7)) fun g=>bK (cond (mZ d) (cond (bZ (bM d) (bM d)) (cond (qJ d) (cond (BD d) (cond (zk d) (cond (ni d) (cond (gm e e) (cond (gG (iE d).2.2.1 e) (cond (kK d e) (cond (mZ d) (cond (bZ (bM d) (bM d)) (cond (qJ d) (cond (BD d) (cond (zk d) (cond (ni d) (cond (gm e e) (cond (gG (iE d).2.2.1 e) (cond (kK d e) (cond ((jP false false)&&((jP false false)&&((kK d e)&&true))) (cond (eH (cu [] (sub d 0 (dV .i64 (bM d) 1))) 24) (cond (mZ d) (cond (bZ (bM d) (bM d)) (cond (qJ d) (cond (ni d) (cond (gm e e) (cond (gG (iE d).2.2.1 e) (cond (kK d e) (cond ((jP false false)&&((jP false false)&&((kK d e)&&true))) (cond (eH (Et d e) 24) (cond (mZ d) (cond (bZ (bM d) (bM d)) (cond (qJ d) (cond (BD d) (cond (zk d) (cond (ni d) (cond (gm e e) (cond (gG (iE d).2.2.1 e) (cond (kK d e) (cond ((jP false false)&&((jP false false)&&((kK d e)&&true))) (cond ((((mZ d)&&((gm e e)&&((jP f f)&&((bZ (bM d) (bM d))&&((mZ d)&&((bZ (bM d) (bM d))&&((bZ (bM d) (bM d))&&((jP (gU 0 (bM d)) (gU 0 (bM d)))&&((jP true true)&&((jP f f)&&((jP (!f) (!f))&&((jP (!f) (!f))&&((mZ d)&&((bZ (bM d) (bM d))&&((qJ d)&&(((jP (iE d).1 (iE d).1)&&((jP (iE d).2.1 (iE d).2.1)&&((ni d)&&true)))&&(((jP (iE d).1 (iE d).1)&&((jP (iE d).2.1 (iE d).2.1)&&((ni d)&&true)))&&((mZ d)&&((bZ (bM d) (bM d))&&((qJ d)&&((zk d)&&((ni d)&&((gm e e)&&((kK d e)&&(((jP false false)&&((jP false false)&&((kK d e)&&true)))&&true)))))))))))))))))))))))))&&(((oV Y1 [(false,(false,((cu (iE d).2.2.1 e),())))] [(false,(false,((cu (iE d).2.2.1 e),())))])&&((oV Y1 (Et d e) (Et d e))&&(((jP (iE d).1 (iE d).1)&&((jP (iE d).2.1 (iE d).2.1)&&((ni d)&&true)))&&true)))&&true))&&true) (a6 ()) (a7)) (a7)) (a7)) (a7)) (a7)) (a7)) (a7)) (a7)) (a7)) (a7)) (a7)) (a7)) (a7)) (a7)) (a7)) (a7)) (a7)) (a7)) (a7)) (a7)) (a7)) (a7)) (a7)) (a7)) (a7)) (a7)) (a7)) (a7)) (a7)) (a7)) (a7)) (a7)) (a7)) (a7)) (a7)) (a7)) (a7)) (a7)) (a7)) (a7)) fun h=>a6 ((Et d e),())) a7) a7) a7) a7) a7) a7) a7) a7) a7) a7) a7) a7) a7) a7) a7) a7) a7) a7) a7) a7) a7) a7) a7) a7) a7) a7) a7) a7) a7) a7) a7) a7) a7) a7) a7) a7) a7) a7) a7) a7) a7) a7)<|aj7 d e)<|aj7 d e
def aHH:Sum:=⟨[.list Y1,.str,.bool],[(.list Y1,true)],fun x=>arY x.1 x.2.1 x.2.2.1⟩
theorem aB0:dX prog 89 aHH:=qA f89 [] aN
noncomputable def b90:Code:=(f90.body).getD .skip
noncomputable def aGl:Code:=cA (cA (cA (cB (cB (cB (cB (b90)))))))
def aGX:eY:=⟨[0,1,3,9,10,11,100004],[(9,Y1)],[9,10],[],[8],[(8,Y1)]⟩
def ao9:SP:=⟨us [ci,.v MW,.u,cg,.u,.u,.u,.u,.u,.slc 1800009,ci,cg] 112,[.arr 1800009 Y1]⟩
def alk:SP:=⟨us [.u,.u,.u,.u,.u,.u,.u,.u,.u,.slc 1800009,ci] 113,[.arr 1800009 Y1]⟩
def alU:SP:=⟨us [.u,.u,.u,.u,.u,.u,.u,.u,ga] 115,[]⟩
def DW {f:Type} (e:bU) (d:Int) (g:bU) (h:bU->(List iI)->Int->bU->Int->(List Gn)->Option f) (i:List iI) (j:Int) (l:(iI×Int×Unit)) (m:List Gn):Option f:=cond (dZ (bM e) (bY .i64 d 1) (bY .i64 d 2)) (cond (gG g (sub e (bY .i64 d 1) (bY .i64 d 2))) (h e i j (cu g (sub e (bY .i64 d 1) (bY .i64 d 2))) l.1.2.2.1 m) a7) a7
def PE {m:Type} (f:(iI×Int×Unit)) (e:Int) (d g:bU) (i:bU->(List iI)->Int->bU->Int->(List Gn)->Option m) (j:List iI) (l:Int) (h:List Gn):Option m:=cond (bZ f.1.1 13) (cond (bZ f.1.2.2.1 (bY .i64 e 2)) (cond (fO d (bY .i64 e 1)) (cond (bZ (cO d (bY .i64 e 1)) 36) (DW d e g i j l f h)<|cond (bZ (cO d (bY .i64 e 1)) 96) (DW d e g i j l f h)<|cond (bZ (cO d (bY .i64 e 1)) 34) (DW d e g i j l f h)<|cond (bZ (cO d (bY .i64 e 1)) 92) (DW d e g i j l f h)<|cond (!(bZ (cO d (bY .i64 e 1)) 10)) (cond (dZ (bM d) e (bY .i64 e 2)) (cond (gG g (sub d e (bY .i64 e 2))) (i d j l (cu g (sub d e (bY .i64 e 2))) f.1.2.2.1 h) a7) a7)<|i d j l g f.1.2.2.1 h) a7)<|i d j l g f.1.2.2.1 h)<|cond (!(gm g [])) (cond (eH (cu h [(false,(true,(g,())))]) 24) (cond (dZ (bM d) e f.1.2.2.1) (cond (eH (cu (cu h [(false,(true,(g,())))]) [(true,(true,((sub d e f.1.2.2.1),())))]) 24) (i d j l [] f.1.2.2.1 (cu (cu h [(false,(true,(g,())))]) [(true,(true,((sub d e f.1.2.2.1),())))])) a7) a7) a7)<|cond (dZ (bM d) e f.1.2.2.1) (cond (eH (cu h [(true,(true,((sub d e f.1.2.2.1),())))]) 24) (i d j l [] f.1.2.2.1 (cu h [(true,(true,((sub d e f.1.2.2.1),())))])) a7) a7
def afJ {l:Type} (m:bU->(List iI)->Int->bU->Int->(List Gn)->Option l) (o:bU->(List Gn)->Option l) (p:(List Gn)->Option l) (e:bU) (g:List iI) (h:Int) (f:bU) (d:Int) (i:List Gn):Option l:=cond (gU d h) (bK (axk g d) fun j=>cond (bZ j.2.1 0) (cond (dZ (bM e) d (bY .i64 d 1)) (cond (gG f (sub e d (bY .i64 d 1))) (m e g h (cu f (sub e d (bY .i64 d 1))) (bY .i64 d 1) i) a7) a7)<|cond (bZ j.1.1 12) (cond (bZ j.1.2.2.1 (bY .i64 d 1)) (cond (dZ (bM e) d (bY .i64 d 1)) (cond (gG f (sub e d (bY .i64 d 1))) (m e g h (cu f (sub e d (bY .i64 d 1))) (bY .i64 d 1) i) a7) a7)<|PE j d e f m g h i)<|PE j d e f m g h i)<|o f i
def EM:Nat->bU->(List iI)->Int->bU->Int->(List Gn)->Option (alk.den⊕alU.den)
 |0,_,_,_,_,_,_=>a7
 |n+1,d,e,f,g,h,i=>afJ (EM n) (fun j l=>a6 (.inl ((j,()),(l,())))) (fun m=>a6 (.inr ((m,()),()))) d e f g h i
def aKo (n:Nat) (v:ao9.den):=EM n v.1.1 v.1.2.1 v.1.2.2.1 v.1.2.2.2.1 v.1.2.2.2.2.1 v.2.1
noncomputable def ay2:dG:=fK aGX ao9 alk alU (.exit 0) (aKo bV) 6
def ag6 (e:bU) (f:List iI) (g h:Int):Option ((List Gn)×Unit):=bK (EM bV e f h [] g []) fun i=>dO i (fun d=>cond (!(gm d.1.1 [])) (cond (eH (cu d.2.1 [(false,(true,(d.1.1,())))]) 24) (a6 ((cu d.2.1 [(false,(true,(d.1.1,())))]),())) a7)<|cond (bZ (bM d.2.1) 0) (cond (eH (cu d.2.1 [(false,(true,(d.1.1,())))]) 24) (a6 ((cu d.2.1 [(false,(true,(d.1.1,())))]),())) a7)<|some (d.2.1,())) (fun j=>a6 (j.1.1,()))
def aHI:Sum:=⟨[.str,MW,cZ,cZ],[(.list Y1,false)],fun x=>ag6 x.1 x.2.1 x.2.2.1 x.2.2.2.1⟩
noncomputable def awl:Env:=iW prog tt 90 [(88,aBZ)] [(4,aGX)] [(4,ay2)]
def aAf {d:Type} (a:ao9.den->Option d) (b:alk.den->Option d) (c:alU.den->Option d) (v:ao9.den):Option d:=afJ (fun e f g h i j=>a ((e,f,g,h,i,()),(j,()))) (fun l m=>b ((l,()),(m,()))) (aE c) v.1.1 v.1.2.1 v.1.2.2.1 v.1.2.2.2.1 v.1.2.2.2.2.1 v.2.1
theorem aK6:dY awl 90 aGl ay2:=uz (aAf) (h2:=by intros;simp only[aAf,aE,afJ,dw,dA,bJ,dh,dB,DW,PE])
theorem aNN:dR awl 90 b90:=oq [aGl] (aD (fM (aK6)) aN)
theorem awm:fH awl:=eA f90 (aD aiO aN) (aNN)
theorem aB1:dX prog 90 aHI:=sA awm
noncomputable def b55:Code:=(f55.body).getD .skip
noncomputable def aF7:Code:=cA (cA (cA (cB (cB (cB (cB (cB (b55))))))))
def aGL:eY:=⟨[0,3,4,5,6,100005],[(4,.pair (.list .bool) Y1)],[4],[],[2],[(2,Y1)]⟩
def aoU:SP:=⟨us [ci,.u,.u,.v MW,eC,co,cg] 130,[.arr 1800004 Y1]⟩
def ak5:SP:=⟨us [.u,.u,.u,.u,eC] 132,[.arr 1800004 Y1]⟩
def alF:SP:=⟨us [.u,.u,ga] 134,[]⟩
def Ie {h:Type} (f:(iI×Int×Unit)) (e:bU) (d:Int) (i:List Gn) (j:Bool) (l:bU->(List iI)->Bool->Int->(List Gn)->Option h) (m:List iI):Option h:=cond (bZ f.2.1 1) (cond (dZ (bM e) d f.1.2.2.1) (bK (arY i (sub e d f.1.2.2.1) j) fun g=>l e m false f.1.2.2.1 g.1) a7)<|cond (dZ (bM e) d (bY .i64 d 1)) (bK (arY i (sub e d (bY .i64 d 1)) j) fun g=>l e m false (bY .i64 d 1) g.1) a7
def PD {j:Type} (d:(iI×Int×Unit)) (e:bU) (f:List Gn) (h:bU->(List iI)->Bool->Int->(List Gn)->Option j) (g:List iI) (l:Bool):Option j:=cond (bZ d.1.1 13) (cond (bZ d.1.2.2.1 (bY .i64 d.1.2.1 2)) (cond (fO e (bY .i64 d.1.2.1 1)) (cond (!(bZ (cO e (bY .i64 d.1.2.1 1)) 10)) (cond (dZ (bM e) (bY .i64 d.1.2.1 1) d.1.2.2.1) (cond (eH (cu f [(false,(true,((sub e (bY .i64 d.1.2.1 1) d.1.2.2.1),())))]) 24) (h e g true d.1.2.2.1 (cu f [(false,(true,((sub e (bY .i64 d.1.2.1 1) d.1.2.2.1),())))])) a7) a7)<|h e g l d.1.2.2.1 f) a7)<|h e g l d.1.2.2.1 f)<|cond (bZ d.1.1 4) (cond d.1.2.2.2.2.1 (cond (dZ (bM e) (bY .i64 d.1.2.1 1) d.1.2.2.1) (cond (eH (cu f [(false,(true,((sub e (bY .i64 d.1.2.1 1) d.1.2.2.1),())))]) 24) (h e g true d.1.2.2.1 (cu f [(false,(true,((sub e (bY .i64 d.1.2.1 1) d.1.2.2.1),())))])) a7) a7)<|cond (dZ (bM e) (bY .i64 d.1.2.1 1) (dV .i64 d.1.2.2.1 1)) (cond (eH (cu f [(false,(true,((sub e (bY .i64 d.1.2.1 1) (dV .i64 d.1.2.2.1 1)),())))]) 24) (h e g true d.1.2.2.1 (cu f [(false,(true,((sub e (bY .i64 d.1.2.1 1) (dV .i64 d.1.2.2.1 1)),())))])) a7) a7)<|cond (bZ d.1.1 5) (cond d.1.2.2.2.2.1 (bK (ag6 e g (bY .i64 d.1.2.1 1) d.1.2.2.1) fun i=>cond (eH (cu f i.1) 24) (h e g true d.1.2.2.1 (cu f i.1)) a7)<|bK (ag6 e g (bY .i64 d.1.2.1 1) (dV .i64 d.1.2.2.1 1)) fun i=>cond (eH (cu f i.1) 24) (h e g true d.1.2.2.1 (cu f i.1)) a7)<|cond (dZ (bM e) d.1.2.1 d.1.2.2.1) (cond (eH (cu f [(true,(false,((sub e d.1.2.1 d.1.2.2.1),())))]) 24) (h e g true d.1.2.2.1 (cu f [(true,(false,((sub e d.1.2.1 d.1.2.2.1),())))])) a7) a7
def afw {l:Type} (i:bU->(List iI)->Bool->Int->(List Gn)->Option l) (m o:(List Gn)->Option l) (e:bU) (f:List iI) (j:Bool) (g:Int) (h:List Gn):Option l:=cond (gU g (bM e)) (bK (axk f g) fun d=>cond (bZ d.2.1 0) (Ie d e g h j i f)<|cond (bZ d.1.1 14) (Ie d e g h j i f)<|cond (bZ d.1.1 12) (cond (bZ d.1.2.2.1 (bY .i64 g 1)) (Ie d e g h j i f)<|PD d e h i f j)<|PD d e h i f j)<|m h
def rW:Nat->bU->(List iI)->Bool->Int->(List Gn)->Option (ak5.den⊕alF.den)
 |0,_,_,_,_,_=>a7
 |n+1,d,e,f,g,h=>afw (rW n) (fun i=>a6 (.inl ((),(i,())))) (fun j=>a6 (.inr ((j,()),()))) d e f g h
def aJ9 (n:Nat) (v:aoU.den):=bc (rW n) v
noncomputable def ayO:dG:=fK aGL aoU ak5 alF (.exit 0) (aJ9 bV) 6
def aj1 (d:bU):Option ((List Gn)×Unit):=bK (aw8 d) fun e=>bK (rW bV d e.1 true 0 []) fun f=>dO f (fun g=>a6 (g.2.1,())) (fun h=>a6 (h.1.1,()))
def aBF:Sum:=⟨[.str],[(.list Y1,false)],fun x=>aj1 x.1⟩
noncomputable def avR:Env:=iW prog tt 55 [(24,aBj),(88,aBZ),(89,aHH),(90,aHI)] [(5,aGL)] [(5,ayO)]
def az0 {d:Type} (a:aoU.den->Option d) (b:ak5.den->Option d) (c:alF.den->Option d) (v:aoU.den):Option d:=bc (afw (fun e f g h i=>a ((e,f,g,h,()),(i,()))) (fun j=>b ((),(j,()))) (aE c)) v
theorem aKQ:dY avR 55 aF7 ayO:=uz (az0) (h2:=by intros;simp only[az0,aE,bc,afw,dw,dA,bJ,dh,dB,Ie,PD])
theorem aNx:dR avR 55 b55:=oq [aF7] (aD (fM (aKQ)) aN)
theorem avS:fH avR:=eA f55 (aD aiB (aD aiO (aD aB0 (aD aB1 aN)))) (aNx)
theorem aiK:dX prog 55 aBF:=sA avS
noncomputable def b26:Code:=(f26.body).getD .skip
noncomputable def aFY:Code:=cA (cA (cB (cA (cB (cB (cB (b26)))))))
def aGD:eY:=⟨[3,4,5,100004],[],[4],[],[2],[]⟩
def aoL:SP:=⟨us [.u,.u,.u,ga,ci,cg] 16,[]⟩
def akX:SP:=⟨us [.u,.u,.u,.u,ci] 17,[]⟩
def alx:SP:=⟨us [.u,.u,ci] 19,[]⟩
def afo {f:Type} (h:(List Gn)->bU->Int->Option f) (i j:bU->Option f) (d:List Gn) (g:bU) (e:Int):Option f:=cond (gU e (bM d)) (cond (fO d e) (cond (gG g (dQ d (false,(false,([],()))) e).2.2.1) (h d (cu g (dQ d (false,(false,([],()))) e).2.2.1) (bY .i64 e 1)) a7) a7)<|i g
def Qw:Nat->(List Gn)->bU->Int->Option (akX.den⊕alx.den)
 |0,_,_,_=>a7
 |n+1,d,e,f=>afo (Qw n) (fun g=>a6 (.inl ((g,()),()))) (fun h=>a6 (.inr ((h,()),()))) d e f
def aJ0 (n:Nat) (v:aoL.den):=ba (Qw n) v
noncomputable def ayF:dG:=fK aGD aoL akX alx (.exit 0) (aJ0 bV) 6
def ajT (d:bU):Option YG:=bK (aj1 d) fun e=>bK (Qw bV e.1 [] 0) fun f=>dO f (fun g=>a6 (g.1.1,())) (fun h=>a6 (h.1.1,()))
def aqt:Sum:=⟨[.str],tzG,fun x=>ajT x.1⟩
noncomputable def avw:Env:=iW prog tt 26 [(55,aBF)] [(4,aGD)] [(4,ayF)]
def azR {d:Type} (a:aoL.den->Option d) (b:akX.den->Option d) (c:alx.den->Option d) (v:aoL.den):Option d:=ba (afo (a8 a) (aE b) (aE c)) v
theorem aKH:dY avw 26 aFY ayF:=uz (azR) (h2:=by intros;simp only[azR,a8,aE,ba,afo,dw,dA,bJ,dh,dB])
theorem aNl:dR avw 26 b26:=oq [aFY] (aD (fM (aKH)) aN)
theorem avx:fH avw:=eA f26 (aD aiK aN) (aNl)
theorem Yy:dX prog 26 aqt:=sA avx
end
section
open Option renaming some → a6, none → a7
open Bool renaming not_false → az, and_true → aA
open List renaming append_assoc → ah, length_append → ai, drop_eq_getElem_cons → ay, nil_append → aH, length_singleton → aI, drop_zero → aJ
open Nat renaming le_trans → aQ
open Go.RowKit
abbrev Pce:=Bool×Bool×List UInt8×Unit
def jV (l:List Pce):bU:=(l.map (·.2.2.1)).flatten
theorem zQ (a b:List Pce):jV (a++b)=jV a++jV b:=by simp[jV]
theorem Iw (x y:Bool) (t:bU):jV [(x,(y,(t,())))]=t:=by simp[jV]
theorem Z7 (L:List kX) (hl:L.length<1000000) (v m f t u:Int) (o:Bool): ∀(N k:Nat),L.length-k<N->k<=L.length->
  QG N L v (k:Int) m f t u o=a6 (match(L.drop k).find? (fun p=>p.2.1==v)with
   |none=>.inl ((),((m,f,t,u,o,()),()))
   |some p=>.inr ((1,()),((p.1,p.2.1,p.2.2.1,p.2.2.2.1,p.2.2.2.2.1,()),())))
 |0,k,h,_=>by omega
 |N+1,k,h,hk=>by
  rw[QG,afI];by_cases e:k<L.length
  .have d:dQ L (0,(0,(0,(0,(false,()))))) (k:Int)=L[k]:=by
    simp_all [dQ]
   rw[bW (eX (by rw[bP];omega)),bW (ed),d,ay e,List.find?_cons];by_cases h1:L[k].2.1=v
   .simp_all [dW,ed]
   .have:(L[k].2.1==v)=false:=by simpa using h1
    rw[dD (dJ h1),dC,show(k:Int)+1=((k+1:Nat):Int) by omega,Z7 L hl v m f t u o N (k+1) (by omega) (by omega),this]
  grind [gB,bP]
theorem awZ (L:List kX) (hl:L.length<1000000) (v:Int):axk L v=a6 (match uC L v with
  |none=>((0,(0,(0,(0,(false,()))))),(0,()))
  |some p=>(p,(1,()))):=by
 rw[axk];have h:=Z7 L hl v 0 0 0 0 false bV 0 (dI) (by omega);rw[show QG bV L v 0 0 0 0 0 false=_ from h,bJ,aJ];unfold uC;cases L.find? (fun p=>p.2.1==v)with
 |none=>rfl
 |some p=>rfl
theorem lq (s:bU) (a b:Int):(sub s a b).length<=(b-a).toNat:=by
 grind [sub]
theorem mg {a b:List UInt8} (h:a.length+b.length<=140737488355328:=by omega):gG a b=true:=by
 grind [gG,mD]
theorem oO {d:Type} {l:List d} {k:Nat} (h:l.length*k<=140737488355328):eH l k=true:=by
 grind [eH,mD]
theorem uy (l:List Pce) (x:Pce):jV (l++[x])=jV l++x.2.2.1:=by simp[jV]
def tJ (s:bU) (L:List kX) (to_:Int):Nat->Int->Bool
 |0,_=>false
 |n+1,at_=>if at_<to_ then(gI s L at_).2.2||tJ s L to_ n (gI s L at_).1 else false
def jA (s:bU) (L:List kX) (at_:Int):Bool:=
 match uC L at_ with
 |none=>false
 |some p=>if lone p=true\/p.1=14 then false else if p.1=13 then false else if p.1=4 then false
  else if p.1=5 then tJ s L (nK p) s.length (p.2.1+1)else true
def tN (s:bU) (L:List kX):Nat->Int->Bool
 |0,_=>false
 |n+1,at_=>if at_<s.length then jA s L at_||tN s L n (stepT s L at_).1 else false
def ajQ (s:bU):Bool:=tN s (bQ s) s.length 0
theorem P6 (s:bU) (to_:Int): ∀(n m:Nat) (at_:Int),to_-at_<=n->to_-at_<=m->tJ s (bQ s) to_ n at_=tJ s (bQ s) to_ m at_
 |0,0,_,_,_=>rfl
 |0,m+1,at_,h,_=>by rw[tJ,tJ,aq (by omega)]
 |n+1,0,at_,_,h=>by rw[tJ,tJ,aq (by omega)]
 |n+1,m+1,at_,d,e=>by
  rw[tJ,tJ];split
  .have:= @Ii s at_;rw[P6 s to_ n m _ (by omega) (by omega)]
  .rfl
theorem Qd (s:bU): ∀(n m:Nat) (at_:Int),(s.length:Int)-at_<=n->(s.length:Int)-at_<=m->tN s (bQ s) n at_=tN s (bQ s) m at_
 |0,0,_,_,_=>rfl
 |0,m+1,at_,h,_=>by rw[tN,tN,aq (by omega)]
 |n+1,0,at_,_,h=>by rw[tN,tN,aq (by omega)]
 |n+1,m+1,at_,d,e=>by
  rw[tN,tN];split
  .have:= @Ij s at_;rw[Qd s n m _ (by omega) (by omega)]
  .rfl
def exB (l:List Pce):Bool:=l.any (·.1)
theorem amT (a b:List Pce):exB (a++b)=(exB a||exB b):=by simp[exB]
theorem P7 (s:bU) (j:s.length<=10000) {to_:Int} (q:to_<=s.length): ∀(N:Nat) (at_:Int) (here:bU) (out:List Pce),0<N->to_-at_<N->0<=at_->at_<=s.length->(here.length:Int)<=10000*at_->(out.length:Int)<=2*at_->
  ∃f d,EM N s (bQ s) to_ here at_ out=a6 (.inl ((f,()),(d,())))/\jV d++f=jV out++here++qf s (bQ s) to_ N at_/\(f.length:Int)<=10000*s.length/\(d.length:Int)<=2*s.length/\exB d=(exB out||tJ s (bQ s) to_ N at_)
 |0,at_,here,out,J,_,_,_,_,_=>by
  omega
 |N+1,at_,here,out,J,h,u,Z,hh,ho=>by
  (rewrite [EM,afJ];delta PE DW;rw[qf,tJ])
  by_cases e:at_<to_
  .have ab:=rY s;have ad:= @Ii s at_;have ae:=JF s (bQ s) at_;have af: ∀(c:bU) (g:Int),c=(gI s (bQ s) at_).2.1->g=(gI s (bQ s) at_).1->g<=s.length->(gI s (bQ s) at_).2.2=false->
     ∃f d,EM N s (bQ s) to_ (cu here c) g out=a6 (.inl ((f,()),(d,())))/\jV d++f=jV out++here++((gI s (bQ s) at_).2.1++qf s (bQ s) to_ N (gI s (bQ s) at_).1)/\(f.length:Int)<=10000*s.length/\(d.length:Int)<=2*s.length/\exB d=(exB out||((gI s (bQ s) at_).2.2||tJ s (bQ s) to_ N (gI s (bQ s) at_).1)):=by
    intro c g v m o K;subst v m;obtain⟨f,d,z,L,A,B,M⟩:=P7 s j q N (gI s (bQ s) at_).1 (cu here (gI s (bQ s) at_).2.1) out (by omega) (by omega) (by omega) o (by grind [cu]) (by omega);refine⟨f,d,z,by grind [cu],A,B,by simp_all⟩
   have push: ∀(l:List Pce) (g:Int),jV l=here++(gI s (bQ s) at_).2.1->l.length<=2->g=(gI s (bQ s) at_).1->g<=s.length->(gI s (bQ s) at_).2.2=true->exB l=true->
     ∃f d,EM N s (bQ s) to_ [] g (out++l)=a6 (.inl ((f,()),(d,())))/\jV d++f=jV out++here++((gI s (bQ s) at_).2.1++qf s (bQ s) to_ N (gI s (bQ s) at_).1)/\(f.length:Int)<=10000*s.length/\(d.length:Int)<=2*s.length/\exB d=(exB out||((gI s (bQ s) at_).2.2||tJ s (bQ s) to_ N (gI s (bQ s) at_).1)):=by
    intro l g hl ag m o K aj;subst m;obtain⟨f,d,z,L,A,B,M⟩:=P7 s j q N (gI s (bQ s) at_).1 [] (out++l) (by omega) (by omega) (by omega) o (by simp;omega) (by grind)
    grind [zQ,amT]
   have O: ∀c:bU,c.length<=10000->gG here c=true:=fun c v=>mg;have D: ∀x,eH (cu out [x]) 24=true:=fun x=>oO (by grind [cu]);have S: ∀x y,eH (cu (cu out [x]) [y]) 24=true:=fun x y=>oO (by grind [cu]);have U: ∀a b:Int,(sub s a b).length<=10000:=fun a b=>aQ (FP s a b) j;have E:bY .i64 at_ 1=at_+1:=dC;have V:bY .i64 at_ 2=at_+2:=dC;have W:dZ (bM s) at_ (at_+1)=true:=eU u (by omega) (by rw[bP];omega);rw[bW (eX e),am e,am e,awZ (bQ s) (by omega),bJ];cases hf:uC (bQ s) at_ with
   |none=>
    have i:gI s (bQ s) at_=(at_+1,sub s at_ (at_+1),false):=by unfold gI;rw[hf]
    simp only[E];rw[show bZ 0 0=true from rfl,aa,W,aa,O _ (U _ _),aa]
    grind
   |some p=>
    obtain⟨G,X⟩:=tV hf;have t0:=G.t0;have t1:=G.t1;simp only[E,V];rw[show bZ 1 0=false from rfl,ac];by_cases hlone:lone p=true
    .simp_all [gI,lone,dW]
    .have ak: ¬(p.1=12/\p.2.2.1=at_+1):=fun h=>hlone (by simp_all [lone]);have I:dZ (bM s) at_ p.2.2.1=true:=eU u (by omega) (by rw[bP];omega);by_cases h13:p.1=13
     .have i:gI s (bQ s) at_=(p.2.2.1,Nw s p,false):=by simp_all [gI]
      rw[dD (dJ),bW (dW h13)];by_cases hto2:p.2.2.1=at_+2
      .have Y:fO s (at_+1)=true:=ed;have al:dZ (bM s) (at_+1) (at_+2)=true:=eU (by omega) (by omega) (by rw[bP];omega);have an:dZ (bM s) at_ (at_+2)=true:=eU (by omega) (by omega) (by rw[bP];omega);have ao:Nw s p=(if cO s (at_+1)=36\/cO s (at_+1)=96\/cO s (at_+1)=34\/cO s (at_+1)=92 then sub s (at_+1) (at_+2)
         else if cO s (at_+1)=10 then []else sub s at_ (at_+2)):=by
        simp_all [Nw,mX]
       rw[bW (dW hto2),Y,aa];by_cases b1:cO s (at_+1)=36
       .simp_all [dW]
       .rw[dD (dJ b1)];by_cases b2:cO s (at_+1)=96
        .simp_all [dW]
        .rw[dD (dJ b2)];by_cases b3:cO s (at_+1)=34
         .simp_all [dW]
         .rw[dD (dJ b3)];by_cases b4:cO s (at_+1)=92
          .simp_all [dW]
          .rw[dD (dJ b4)]
           grind [dW,cu,dJ]
      simp_all [dJ,Nw,cu]
     .have i:gI s (bQ s) at_=(p.2.2.1,mX s p,true):=by simp_all [gI]
      have au:mX s p=sub s at_ p.2.2.1:=by unfold mX;rw[X]
      have av: ∃f d,(bif !gm here []then
        bif eH (cu out [(false,(true,(here,())))]) 24 then
         bif dZ (bM s) at_ p.2.2.1 then
          bif eH (cu (cu out [(false,(true,(here,())))]) [(true,(true,(sub s at_ p.2.2.1,())))]) 24 then
           EM N s (bQ s) to_ [] p.2.2.1 (cu (cu out [(false,(true,(here,())))]) [(true,(true,(sub s at_ p.2.2.1,())))])
          else a7
         else a7
        else a7
       else bif dZ (bM s) at_ p.2.2.1 then
        bif eH (cu out [(true,(true,(sub s at_ p.2.2.1,())))]) 24 then
         EM N s (bQ s) to_ [] p.2.2.1 (cu out [(true,(true,(sub s at_ p.2.2.1,())))])
        else a7
       else a7)=a6 (.inl ((f,()),(d,())))/\jV d++f=jV out++here++((gI s (bQ s) at_).2.1++qf s (bQ s) to_ N (gI s (bQ s) at_).1)/\(f.length:Int)<=10000*s.length/\(d.length:Int)<=2*s.length/\exB d=(exB out||((gI s (bQ s) at_).2.2||tJ s (bQ s) to_ N (gI s (bQ s) at_).1)):=by
       by_cases he:here=[]
       .have:=push [(true,(true,(sub s at_ p.2.2.1,())))] p.2.2.1 (by simp_all [Iw]) (by simp) (by rw[i]) (by omega) (by rw[i]) (by simp[exB]);rw[show(!gm here [])=false by rw[he];rfl,ac,I,aa,D,aa];exact this
       .have:=push ([(false,(true,(here,())))]++[(true,(true,(sub s at_ p.2.2.1,())))]) p.2.2.1 (by grind [zQ,Iw]) (by simp) (by rw[i]) (by omega) (by rw[i]) (by simp[exB]);rw[show(!gm here [])=true by simp_all [gm],aa,D,aa,I,aa,S,aa];rw[<-ah]at this;exact this
      grind [dJ]
  .rw[dD (gB e),aq e,aq e]
   grind
theorem aqF (s:bU) (g:s.length<=10000) {from_ to_:Int} (h:0<=from_) (i:from_<=s.length) (j:to_<=s.length):
  ∃out,ag6 s (bQ s) from_ to_=a6 (out,())/\jV out=qf s (bQ s) to_ s.length from_/\out.length<=2*s.length+1/\exB out=tJ s (bQ s) to_ s.length from_:=by
 obtain⟨here,out,l,d,p,q,e⟩:=P7 s g j bV from_ [] [] (by unfold bV;omega) (by have:=dI (n:=s.length) (by omega);omega) h i (by simp;omega) (by simp;omega);have m:qf s (bQ s) to_ bV from_=qf s (bQ s) to_ s.length from_:=IJ s to_ _ _ _ (by have:=dI (n:=s.length) (by omega);omega) (by omega);have o:tJ s (bQ s) to_ bV from_=tJ s (bQ s) to_ s.length from_:=P6 s to_ _ _ _ (by have:=dI (n:=s.length) (by omega);omega) (by omega);rw[o]at e;have e:exB out=tJ s (bQ s) to_ s.length from_:=by simpa [exB] using e
 rw[m,show jV []=([]:bU) from rfl,aH,aH]at d;rw[ag6,l,bJ];simp only[dO];have f: ∀x,eH (cu out [x]) 24=true:=fun x=>oO (by grind [cu]);by_cases he:here=[]
 .rw[show(!gm here [])=false by rw[he];rfl,ac];subst he;rw[List.append_nil]at d;by_cases ho:out.length=0
  .rw[bW (dW (by rw[bP];omega)),f,aa];exact⟨_,rfl,by grind [cu,zQ,Iw],by simp_all [cu],by grind [cu,exB]⟩
  .rw[dD (dJ (by rw[bP];omega))]
   grind
 .rw[show(!gm here [])=true by simp_all [gm],aa,f,aa];exact⟨_,rfl,by unfold cu;rw[zQ,Iw,d],by grind [cu],by grind [cu,exB]⟩
theorem asE (out:List Pce) (t:bU) (e:Bool) (f:out.length<1000000000) (g:(jV out).length+t.length<=100000000000000) (h:e=false-> ∃l x,out=l++[x]/\x.1=false):
  ∃d,arY out t e=a6 (d,())/\jV d=jV out++t/\d.length<=out.length+1/\exB d=exB out/\ ∃l x,d=l++[x]/\x.1=false:=by
 have one: ∃d,(bif eH (cu [] out) 24 then bif eH (cu (cu [] out) [(false,(false,(t,())))]) 24 then a6 ((cu (cu [] out) [(false,(false,(t,())))]),())else a7 else a7)=a6 (d,())/\jV d=jV out++t/\d.length<=out.length+1/\exB d=exB out/\ ∃l x,d=l++[x]/\x.1=false:=by
  rw[bW (oO (by grind [cu])),bW (oO (by grind [cu]))];exact⟨_,rfl,by simp_all [cu,zQ,Iw],by unfold cu;simp,by simp[cu,exB],out,_,rfl,rfl⟩
 (rewrite [arY];delta aj7 BD ni qJ Et mZ zk kK iE)
 cases e with
 |true=>
  simp_all
 |false=>
  obtain⟨l,x,rfl,i⟩:=h rfl;rw[uy,ai]at g;rw[ai,aI]at f;have j:dV .i64 (bM (l++[x])) 1=(l.length:Int):=by grind [bP,fV]
  have m:dQ (l++[x]) (false,(false,([],()))) (l.length:Int)=x:=ny rfl;have o:fO (l++[x]) (l.length:Int)=true:=ed (by omega) (by grind);have p:dZ (bM (l++[x])) 0 (l.length:Int)=true:=eU (by omega) (by omega) (by grind [bP]);have q:sub (l++[x]) 0 (l.length:Int)=l:=by simp[sub]
  have s:gG x.2.2.1 t=true:=mg;have u:eH (cu [] l) 24=true:=oO (by grind [cu]);have v: ∀y,eH (cu (cu [] l) [y]) 24=true:=fun y=>oO (by grind [cu]);rw[bW (eX (by simp_all [bP]))];simp only[az,aa,j,m,o,p,q,s,u,v,fD,kZ,iM,iy,aA,bJ];exact⟨_,rfl,by grind [cu,uy],by unfold cu;simp,by simp[cu,exB,i],l,_,rfl,rfl⟩
theorem Fe (s:bU) (z:s.length<=10000): ∀(N:Nat) (at_:Int) (j:Bool) (out:List Pce),(s.length:Int)-at_<N->0<=at_->at_<=s.length->((jV out).length:Int)<=100010000*at_->(out.length:Int)<=30000*at_->(j=false-> ∃l x,out=l++[x]/\x.1=false)->
  ∃d,rW N s (bQ s) j at_ out=a6 (.inl ((),(d,())))/\jV d=jV out++kC s (bQ s) N at_/\(d.length:Int)<=30000*s.length/\exB d=(exB out||tN s (bQ s) N at_)
 |0,at_,j,out,h,_,_,_,_,_=>by omega
 |N+1,at_,j,out,h,G,J,ht,ho,I=>by
  (rewrite [rW,afw];delta PD Ie;rw[kC,tN])
  by_cases e:at_<s.length
  .have af:=rY s;have ag:= @Ij s at_;have K:=Yu (s:=s) e;have aj:(stepT s (bQ s) at_).2.length<=100010000:=by
    have J:=JG s (bQ s) at_;have h2:s.length*s.length<=10000*10000:=Nat.mul_le_mul z z;omega
   have go: ∀(l:List Pce) (f:Bool),jV l=jV out++(stepT s (bQ s) at_).2->l.length<=out.length+20002->(f=false-> ∃L x,l=L++[x]/\x.1=false)->exB l=(exB out||jA s (bQ s) at_)->
     ∃d,rW N s (bQ s) f (stepT s (bQ s) at_).1 l=a6 (.inl ((),(d,())))/\jV d=jV out++((stepT s (bQ s) at_).2++kC s (bQ s) N (stepT s (bQ s) at_).1)/\(d.length:Int)<=30000*s.length/\exB d=(exB out||(jA s (bQ s) at_||tN s (bQ s) N (stepT s (bQ s) at_).1)):=by
    intro l f hl hn v hx;obtain⟨d,r1,r2,r3,r4⟩:=Fe s z N (stepT s (bQ s) at_).1 f l (by omega) (by omega) K (by grind) (by omega) v
    grind
   have ak: ∀(t:bU) (g:Int),t=(stepT s (bQ s) at_).2->g=(stepT s (bQ s) at_).1->jA s (bQ s) at_=false->
     ∃d,(bK (arY out t j) fun i=>rW N s (bQ s) false g i.1)=a6 (.inl ((),(d,())))/\jV d=jV out++((stepT s (bQ s) at_).2++kC s (bQ s) N (stepT s (bQ s) at_).1)/\(d.length:Int)<=30000*s.length/\exB d=(exB out||(jA s (bQ s) at_||tN s (bQ s) N (stepT s (bQ s) at_).1)):=by
    intro t g A y m;subst A y;obtain⟨o,M,O,p3,p4,S⟩:=asE out (stepT s (bQ s) at_).2 j (by omega) (by omega) I;rw[M,bJ];exact go o false O (by omega) (fun _=>S) (by simp_all)
   have U: ∀(x:Pce) (g:Int),x.2.2.1=(stepT s (bQ s) at_).2->g=(stepT s (bQ s) at_).1->x.1=jA s (bQ s) at_->
     ∃d,(bif eH (cu out [x]) 24 then rW N s (bQ s) true g (cu out [x])else a7)=a6 (.inl ((),(d,())))/\jV d=jV out++((stepT s (bQ s) at_).2++kC s (bQ s) N (stepT s (bQ s) at_).1)/\(d.length:Int)<=30000*s.length/\exB d=(exB out||(jA s (bQ s) at_||tN s (bQ s) N (stepT s (bQ s) at_).1)):=by
    intro x g A y m;subst y;rw[bW (oO (by grind [cu]))];simp_all [cu,uy,exB]
   have al: ∀(g:Int),(stepT s (bQ s) at_).2=[]->g=(stepT s (bQ s) at_).1->jA s (bQ s) at_=false->
     ∃d,rW N s (bQ s) j g out=a6 (.inl ((),(d,())))/\jV d=jV out++((stepT s (bQ s) at_).2++kC s (bQ s) N (stepT s (bQ s) at_).1)/\(d.length:Int)<=30000*s.length/\exB d=(exB out||(jA s (bQ s) at_||tN s (bQ s) N (stepT s (bQ s) at_).1)):=by
    intro g A y m;subst y;exact go out j (by simp_all) (by omega) I (by simp_all)
   have B:bY .i64 at_ 1=at_+1:=dC;have V:dZ (bM s) at_ (at_+1)=true:=eU G (by omega) (by rw[bP];omega);rw[bW (eX (b:=bM s) e),am e,am e,awZ (bQ s) (by omega),bJ];cases v:uC (bQ s) at_ with
   |none=>
    have q:stepT s (bQ s) at_=(at_+1,sub s at_ (at_+1)):=by unfold stepT;rw[v]
    simp only[B];have m:jA s (bQ s) at_=false:=by unfold jA;rw[v]
    rw[show bZ 0 0=true from rfl,aa,show bZ 0 1=false from rfl,ac,V,aa];simp_all
   |some p=>
    obtain⟨D,E⟩:=tV v;have t0:=D.t0;have t1:=D.t1;have an:mX s p=sub s at_ p.2.2.1:=by unfold mX;rw[E]
    have ao:dZ (bM s) at_ p.2.2.1=true:=eU G (by omega) (by rw[bP];omega);have W:bY .i64 p.2.1 1=at_+1:=by rw[E];exact B
    have X:bY .i64 p.2.1 2=at_+2:=by grind [dC]
    have Y:dV .i64 p.2.2.1 1=p.2.2.1-1:=fV;simp only[B,W,X,Y];rw[show bZ 1 0=false from rfl,ac,show bZ 1 1=true from rfl];simp only[aa];by_cases hpl':lone p=true\/p.1=14
    .have q:stepT s (bQ s) at_=(p.2.2.1,mX s p):=by simp_all [stepT]
     have m:jA s (bQ s) at_=false:=by simp_all [jA]
     grind [dW,lone]
    .have au: ¬(p.1=12/\p.2.2.1=at_+1):=fun h=>hpl' (.inl (by simp_all [lone]));have Z:p.1≠14:=fun h=>hpl' (.inr h);have ab:jA s (bQ s) at_=(if p.1=13 then false else if p.1=4 then false else if p.1=5 then tJ s (bQ s) (nK p) s.length (p.2.1+1)else true):=by
      unfold jA;simp_all
     rw[dD (dJ Z)];by_cases h13:p.1=13
     .have q:stepT s (bQ s) at_=(p.2.2.1,Ny s p):=by simp_all [stepT]
      have m:jA s (bQ s) at_=false:=by rw[ab,am h13]
      rw[dD (dJ),bW (dW h13)];by_cases hto2:p.2.2.1=at_+2
      .rw[bW (dW hto2),bW (ed)];by_cases b5:cO s (at_+1)=10
       .simp_all [dW,Ny]
       .rw[dJ b5];simp only[az,aa];rw[bW (eU (by omega) (by omega) (by rw[bP];omega))];simp_all [Ny]
      simp_all [dJ,Ny]
     .have av: ∃d,(bif bZ p.1 4 then
        bif p.2.2.2.2.1 then
         bif dZ (bM s) (at_+1) p.2.2.1 then
          bif eH (cu out [(false,(true,(sub s (at_+1) p.2.2.1,())))]) 24 then
           rW N s (bQ s) true p.2.2.1 (cu out [(false,(true,(sub s (at_+1) p.2.2.1,())))])
          else a7
         else a7
        else bif dZ (bM s) (at_+1) (p.2.2.1-1)then
         bif eH (cu out [(false,(true,(sub s (at_+1) (p.2.2.1-1),())))]) 24 then
          rW N s (bQ s) true p.2.2.1 (cu out [(false,(true,(sub s (at_+1) (p.2.2.1-1),())))])
         else a7
        else a7
       else bif bZ p.1 5 then
        bif p.2.2.2.2.1 then
         bK (ag6 s (bQ s) (at_+1) p.2.2.1) fun i=>
          bif eH (cu out i.1) 24 then rW N s (bQ s) true p.2.2.1 (cu out i.1)else a7
        else
         bK (ag6 s (bQ s) (at_+1) (p.2.2.1-1)) fun i=>
          bif eH (cu out i.1) 24 then rW N s (bQ s) true p.2.2.1 (cu out i.1)else a7
       else bif dZ (bM s) p.2.1 p.2.2.1 then
        bif eH (cu out [(true,(false,(sub s p.2.1 p.2.2.1,())))]) 24 then
         rW N s (bQ s) true p.2.2.1 (cu out [(true,(false,(sub s p.2.1 p.2.2.1,())))])
        else a7
       else a7)=a6 (.inl ((),(d,())))/\jV d=jV out++((stepT s (bQ s) at_).2++kC s (bQ s) N (stepT s (bQ s) at_).1)/\(d.length:Int)<=30000*s.length/\exB d=(exB out||(jA s (bQ s) at_||tN s (bQ s) N (stepT s (bQ s) at_).1)):=by
       by_cases h4:p.1=4
       .have q:stepT s (bQ s) at_=(p.2.2.1,sub s (p.2.1+1) (nK p)):=by simp_all [stepT]
        have m:jA s (bQ s) at_=false:=by simp_all
        rw[bW (dW h4)];cases hop:p.2.2.2.2.1 with
        |true=>
         rw[aa,bW (eU (by omega) (by omega) (by rw[bP];omega))];exact U _ _ (by rw[q,E];unfold nK;rw[hop,am rfl]) (by rw[q]) (by rw[m])
        |false=>
         have:=D.sh hop (by omega);rw[ac,bW (eU (by omega) (by omega) (by rw[bP];omega))];simp_all [nK]
       .rw[dD (dJ h4)];by_cases h5:p.1=5
        .have q:stepT s (bQ s) at_=(p.2.2.1,qf s (bQ s) (nK p) s.length (p.2.1+1)):=by simp_all [stepT]
         rw[bW (dW h5)];have ad: ∀u:Int,u=nK p->u<=s.length-> ∃d,(bK (ag6 s (bQ s) (at_+1) u) fun i=>
           bif eH (cu out i.1) 24 then rW N s (bQ s) true p.2.2.1 (cu out i.1)else a7)=a6 (.inl ((),(d,())))/\jV d=jV out++((stepT s (bQ s) at_).2++kC s (bQ s) N (stepT s (bQ s) at_).1)/\(d.length:Int)<=30000*s.length/\exB d=(exB out||(jA s (bQ s) at_||tN s (bQ s) N (stepT s (bQ s) at_).1)):=by
          intro u aw ae;have m:jA s (bQ s) at_=tJ s (bQ s) (nK p) s.length (p.2.1+1):=by simp_all
          obtain⟨o,d1,d2,d3,d4⟩:=aqF s z (from_:=at_+1) (to_:=u) (by omega) (by omega) ae;rw[d1,bJ];simp only;rw[bW (oO (by grind [cu]))];have:=go (cu out o) true (by simp_all [cu,zQ]) (by grind [cu]) (fun h=>by cases h) (by simp_all [cu,amT])
          grind
         cases hop:p.2.2.2.2.1 with
         |true=>rw[aa];exact ad _ (by unfold nK;rw[hop,am rfl]) (by omega)
         |false=>rw[ac];grind [nK]
        .have q:stepT s (bQ s) at_=(p.2.2.1,mX s p):=by simp_all [stepT]
         simp_all [dJ]
      grind [dJ]
  .rw[dD (gB (by rw[bP];omega)),aq e,aq e]
   grind
theorem XX (l:List Pce) (hl:l.length<1000000000) (d:(jV l).length<=100000000000000): ∀(N k:Nat),l.length-k<N->k<=l.length->
  Qw N l (jV (l.take k)) (k:Int)=a6 (.inl ((jV l,()),()))
 |0,k,h,_=>by omega
 |N+1,k,h,hk=>by
  rw[Qw,afo];by_cases e:k<l.length
  .have f:dQ l (false,(false,([],()))) (k:Int)=l[k]:=by
    simp_all [dQ]
   have g:jV (l.take (k+1))=jV (l.take k)++l[k].2.2.1:=by grind [List.take_add_one,uy]
   have i:(jV (l.take (k+1))).length<=(jV l).length:=by
    grind [List.take_append_drop,zQ]
   rw[bW (eX (by rw[bP];omega)),bW (ed),f,bW (mg (by grind)),dC,show(k:Int)+1=((k+1:Nat):Int) by omega,
    show cu (jV (l.take k)) l[k].2.2.1=jV (l.take (k+1)) from g.symm]
   exact XX l hl d N (k+1) (by omega) (by omega)
  grind [gB,bP]
theorem aqL (s:bU) (d:s.length<=10000):(CW s).length<=1000100000000:=by
 have h:=ZH s (bQ s) s.length 0;have e:s.length*s.length<=10000*10000:=Nat.mul_le_mul d d;have f:s.length*(s.length*s.length+s.length)<=10000*(10000*10000+10000):=Nat.mul_le_mul d (by omega);unfold CW;omega
theorem ai2 (s:bU) (d:s.length<=10000):ajT s=a6 (CW s,()):=by
 obtain⟨out,f,g,m,_⟩:=Fe s d bV 0 true [] (by have:=dI (n:=s.length) (by omega);omega) (by omega) (by omega) (by simp[jV]) (by simp) (fun h=>by cases h);have i:kC s (bQ s) bV 0=CW s:=D9 s _ _ _ (by have:=dI (n:=s.length) (by omega);omega) (by omega);have j:aj1 s=a6 (out,()):=by
  rw[aj1,aH7 s (by omega),bJ];simp only;rw[f,bJ];rfl
 have e:jV out=CW s:=by rw[g,i];rfl
 have o:=aqL s d;rw[ajT,j,bJ];simp only;have l:=XX out (by omega) (by rw[e];omega) bV 0 (dI) (by omega);rw[show Qw bV out [] 0=_ from l,bJ,<-e];rfl
end
section
open Option renaming some → a6, none → a7
open Tryz
open Go.RowKit
noncomputable def b82:Code:=(f82.body).getD .skip
noncomputable def auX:Code:=cA (cA (cA (cB (cA (cB (cA (cB (cB (cB (cB (cB (b82))))))))))))
noncomputable def auY:Code:=cA (cA (cA (cB (cB (cB (cB (cB (cB (cB (cB (b82)))))))))))
def ayb:eY:=⟨[0,1,6,7,11,12,100014],[],[1,6,7,11,12],[],[6,7],[]⟩
def ayc:eY:=⟨[0,1,5,6,7,11,14,100023],[],[0,1,5,6,7,11,14],[],[6,7],[]⟩
def adL:SP:=⟨us [ci,cg,.u,.u,.u,.u,cL,.ptr 1000007 0,.u,.u,.u,dy,cg] 173,ec⟩
def ael:SP:=⟨us [.u,cg,.u,.u,.u,.u,cL,.ptr 1000007 0,.u,.u,.u,dy,cg] 173,ec⟩
def aeU:SP:=⟨us [] 186,[]⟩
def Vr {e:Type} (v:bU->Int->Int->Int->J3->Bool->Int->Bool->Int->Int->Int->Bool->Option e) (u:Int->Int->Int->J3->Bool->Int->Bool->Int->Int->Int->Bool->Option e) (x:Option e) (f:bU) (g d h:Int) (i:J3) (j:Bool) (l:Int) (m:Bool) (o p q:Int) (s:Bool):Option e:=cond (gU d (bM f)) (cond (fO f d) (cond (!(bZ (cO f d) 10)) (v f g (bY .i64 d 1) h i j l m o p q s)<|u g d h i j l m o p q s) a7)<|u g d h i j l m o p q s
def OD:Nat->bU->Int->Int->Int->J3->Bool->Int->Bool->Int->Int->Int->Bool->Option (ael.den⊕aeU.den)
 |0,_,_,_,_,_,_,_,_,_,_,_,_=>a7
 |n+1,d,e,f,g,h,i,j,l,m,o,p,q=>Vr (OD n) (fun s u v x y z A B D E G=>a6 (.inl ((s,u,()),((v,x,y,()),(z,A,()),(B,D,E,G,()),())))) (a6 (.inr ((),()))) d e f g h i j l m o p q
def aEp (n:Nat) (v:adL.den):=be (OD n) v
noncomputable def aou:dG:=fK ayb adL ael aeU (.exit 0) (aEp bV) 6
def adM:SP:=⟨eN,dt⟩
def OZ:SP:=⟨eN,dt⟩
def aeV:SP:=⟨us [] 186,[]⟩
def Vs {f:Type} (z y:bU->Int->Int->Int->J3->Bool->Int->Bool->Int->Int->Int->Bool->Int->J3->Bool->Option f) (B:Option f) (d:bU) (g e h:Int) (i:J3) (j:Bool) (l:Int) (m:Bool) (o p q:Int) (s:Bool) (u:Int) (v:J3) (x:Bool):Option f:=cond (gU e (bM d)) (cond (fO d e) (bK (Qg (cO d e)) fun A=>cond (bZ A.1 6) (z d g (bY .i64 e 1) h i j l m o p q s u v x)<|y d g e h i j l m o p q s u v x) a7)<|y d g e h i j l m o p q s u v x
def OE:Nat->bU->Int->Int->Int->J3->Bool->Int->Bool->Int->Int->Int->Bool->Int->J3->Bool->Option (OZ.den⊕aeV.den)
 |0,_,_,_,_,_,_,_,_,_,_,_,_,_,_,_=>a7
 |n+1,d,e,f,g,h,i,j,l,m,o,p,q,s,u,v=>Vs (OE n) (fun x y z A B D E G I J K L M N O=>a6 (.inl ((x,y,z,()),((A,B,D,()),(E,G,()),(I,J,K,L,()),(M,N,O,()),())))) (a6 (.inr ((),()))) d e f g h i j l m o p q s u v
def aEq (n:Nat) (v:adM.den):=bh (OE n) v
noncomputable def aov:dG:=fK ayc adM OZ aeV (.exit 2) (aEq bV) 12
def BC (d:Int×J3×oJ):=oV Iy d.2.1 d.2.1
def aj3 (d:zN) (e:Int×J3×oJ) (f:Int):Option taV:=bK (NL d.1) fun g=>cond ((bZ d.1 d.1)&&((BC e)&&((jP false false)&&true))) (a6 ((4,(f,((bY .i64 f (bM g.1)),(false,())))),((d.1,(e.2.1,(false,()))),()))) a7
def aj6 (d:OZ.den):Option taV:=cond ((bZ d.2.1.1 d.2.1.1)&&((oV Iy d.2.1.2.1 d.2.1.2.1)&&((jP d.2.1.2.2.1 d.2.1.2.2.1)&&true))) (a6 ((5,(d.1.2.1,(d.1.2.2.1,(false,())))),((d.2.1.1,(d.2.1.2.1,(d.2.1.2.2.1,()))),()))) a7
def aco (d:OZ.den):Option taV:=bK (aab d.1.1 d.1.2.1) fun e=>cond (dZ (bM d.1.1) d.1.2.1 e.1) (cond (!(bZ d.2.2.2.2.1.1 0)) (cond (oV Iy d.2.2.2.2.1.2.1 d.2.2.2.2.1.2.1) (cond (gm (sub d.1.1 d.1.2.1 e.1) (sub d.1.1 d.1.2.1 e.1)) (cond (bZ d.2.2.2.2.1.1 d.2.2.2.2.1.1) (cond (jP (bZ d.2.2.2.2.1.1 5) (bZ d.2.2.2.2.1.1 5)) (cond (eH (cu [] d.2.2.2.2.1.2.1) 24) (cond (gm (sub d.1.1 d.1.2.1 e.1) (sub d.1.1 d.1.2.1 e.1)) (cond (bZ d.2.2.2.2.1.1 d.2.2.2.2.1.1) (cond (jP (bZ d.2.2.2.2.1.1 5) (bZ d.2.2.2.2.1.1 5)) (bK (ajT (sub d.1.1 d.1.2.1 e.1)) fun f=>cond (oV Iy d.2.2.2.2.1.2.1 d.2.2.2.2.1.2.1) (cond (gm (sub d.1.1 d.1.2.1 e.1) (sub d.1.1 d.1.2.1 e.1)) (cond (bZ d.2.2.2.2.1.1 d.2.2.2.2.1.1) (cond (jP (bZ d.2.2.2.2.1.1 5) (bZ d.2.2.2.2.1.1 5)) (cond (((gm (sub d.1.1 d.1.2.1 e.1) (sub d.1.1 d.1.2.1 e.1))&&true)&&((gm f.1 f.1)&&true)) (cond (eH (cu (cu [] d.2.2.2.2.1.2.1) [(f.1,((bZ d.2.2.2.2.1.1 5),()))]) 24) (cond (oV Iy d.2.2.2.2.1.2.1 d.2.2.2.2.1.2.1) (cond (gm (sub d.1.1 d.1.2.1 e.1) (sub d.1.1 d.1.2.1 e.1)) (cond (bZ d.2.2.2.2.1.1 d.2.2.2.2.1.1) (cond (jP (bZ d.2.2.2.2.1.1 5) (bZ d.2.2.2.2.1.1 5)) (cond ((gm f.1 f.1)&&((jP (bZ d.2.2.2.2.1.1 5) (bZ d.2.2.2.2.1.1 5))&&true)) (bK (WC (sub d.1.1 d.1.2.1 e.1)) fun g=>cond ((bZ d.2.1.1 d.2.1.1)&&((jP d.2.1.2.2.1 d.2.1.2.2.1)&&true)) (a6 ((6,(d.1.2.1,(e.1,((!g.1),())))),((d.2.1.1,((cu (cu [] d.2.2.2.2.1.2.1) [(f.1,((bZ d.2.2.2.2.1.1 5),()))]),(d.2.1.2.2.1,()))),()))) a7) a7) a7) a7) a7) a7) a7) a7) a7) a7) a7) a7) a7) a7) a7) a7) a7) a7) a7) a7)<|bK (WC (sub d.1.1 d.1.2.1 e.1)) fun f=>cond ((bZ d.2.1.1 d.2.1.1)&&((oV Iy d.2.1.2.1 d.2.1.2.1)&&((jP d.2.1.2.2.1 d.2.1.2.2.1)&&true))) (a6 ((6,(d.1.2.1,(e.1,((!f.1),())))),((d.2.1.1,(d.2.1.2.1,(d.2.1.2.2.1,()))),()))) a7) a7
def axj (h:bU) (e:Int) (d:Int×J3×oJ):Option taV:=cond d.2.2.1 (cond (fO d.2.1 0) (bK (amX h e (dQ d.2.1 ([],(false,())) 0)) fun j=>cond (bZ j.2.1 0) (cond ((bZ d.1 d.1)&&((BC d)&&((jP d.2.2.1 d.2.2.1)&&true))) (a6 ((7,(e,(j.1,(true,())))),((d.1,(d.2.1,(d.2.2.1,()))),()))) a7)<|cond (dZ (bM d.2.1) 1 (bM d.2.1)) (cond (bZ d.1 d.1) (cond (BC d) (cond (dZ (bM d.2.1) 1 (bM d.2.1)) (cond (oV Iy (sub d.2.1 1 (bM d.2.1)) (sub d.2.1 1 (bM d.2.1))) (cond (BC d) (cond (bZ (bM d.2.1) (bM d.2.1)) (cond (jP (gU 1 (bM d.2.1)) (gU 1 (bM d.2.1))) (cond ((bZ d.1 d.1)&&((oV Iy (sub d.2.1 1 (bM d.2.1)) (sub d.2.1 1 (bM d.2.1)))&&((jP (gU 1 (bM d.2.1)) (gU 1 (bM d.2.1)))&&true))) (a6 ((7,(e,(j.1,(false,())))),((d.1,((sub d.2.1 1 (bM d.2.1)),((gU 1 (bM d.2.1)),()))),()))) a7) a7) a7) a7) a7) a7) a7) a7) a7) a7)<|bK (amY h e) fun j=>cond (gU e j.1) (cond ((bZ d.1 d.1)&&((BC d)&&((jP d.2.2.1 d.2.2.1)&&true))) (a6 ((1,(e,(j.1,(false,())))),((d.1,(d.2.1,(d.2.2.1,()))),()))) a7)<|cond (fO h e) (cond (bZ (cO h e) 10) (cond (BC d) (cond (BC d) (cond (bZ (bM d.2.1) (bM d.2.1)) (cond (jP (gU 0 (bM d.2.1)) (gU 0 (bM d.2.1))) (cond ((bZ 0 0)&&((BC d)&&((jP (gU 0 (bM d.2.1)) (gU 0 (bM d.2.1)))&&true))) (a6 ((2,(e,((bY .i64 e 1),(false,())))),((0,(d.2.1,((gU 0 (bM d.2.1)),()))),()))) a7) a7) a7) a7) a7)<|cond (fO h e) (cond (bZ (cO h e) 35) (bK (OD bV h e e 0 d.2.1 false 0 false 0 0 0 false) fun i=>dO i (fun g=>cond ((bZ g.2.1.1 g.2.1.1)&&((oV Iy g.2.1.2.1 g.2.1.2.1)&&((jP g.2.1.2.2.1 g.2.1.2.2.1)&&true))) (a6 ((3,(g.1.1,(g.1.2.1,(false,())))),((g.2.1.1,(g.2.1.2.1,(g.2.1.2.2.1,()))),()))) a7) (fun m=>a7))<|bK (agO h e) fun i=>cond (gU 0 i.1) (cond (bZ i.1 4) (aj3 i d e)<|cond (bZ i.1 5) (aj3 i d e)<|bK (NL i.1) fun l=>cond ((bZ 0 0)&&((BC d)&&((jP false false)&&true))) (a6 ((4,(e,((bY .i64 e (bM l.1)),(false,())))),((0,(d.2.1,(false,()))),()))) a7)<|bK (OE bV h e e 0 d.2.1 false 0 false 0 0 0 false d.1 d.2.1 d.2.2.1) fun l=>dO l (fun f=>cond (gU f.1.2.1 f.1.2.2.1) (cond (gU f.1.2.2.1 (bM f.1.1)) (cond (fO f.1.1 f.1.2.2.1) (cond (bZ (cO f.1.1 f.1.2.2.1) 60) (aj6 f)<|cond (fO f.1.1 f.1.2.2.1) (cond (bZ (cO f.1.1 f.1.2.2.1) 62) (aj6 f)<|aco f) a7) a7)<|aco f)<|aco f) (fun o=>a7)) a7) a7
def aBW:Sum:=⟨[.str,cZ,.pair cZ tyN],tzI,fun x=>axj x.1 x.2.1 x.2.2.1⟩
noncomputable def amS:Env:=iW prog tt 82 [(30,aiE),(26,aqt),(126,aAO),(127,aAP),(128,aAQ),(129,afN),(130,aAS),(131,aAT)] [(14,ayb),(23,ayc)] [(14,aou),(23,aov)]
def ap3 {d:Type} (a:adL.den->Option d) (b:ael.den->Option d) (c:aeU.den->Option d) (v:adL.den):Option d:=be (Vr (fun e f g h i j l m o p q s=>a ((e,f,g,()),((h,i,j,()),(l,m,()),(o,p,q,s,()),()))) (fun u x y z A B D E G I J=>b ((u,x,()),((y,z,A,()),(B,D,()),(E,G,I,J,()),()))) (c ((),()))) v
theorem aFa:dY amS 82 auX aou:=uz (ap3) (h2:=by intros;simp only[ap3,be,Vr,dw,dA,bJ,dh,dB])
def ap4 {d:Type} (a:adM.den->Option d) (b:OZ.den->Option d) (c:aeV.den->Option d) (v:adM.den):Option d:=bh (Vs (fun e f g h i j l m o p q s u x y=>a ((e,f,g,()),((h,i,j,()),(l,m,()),(o,p,q,s,()),(u,x,y,()),()))) (fun z A B D E G I J K L M N O S U=>b ((z,A,B,()),((D,E,G,()),(I,J,()),(K,L,M,N,()),(O,S,U,()),()))) (c ((),()))) v
theorem aFb:dY amS 82 auY aov:=uz (ap4) (h2:=by intros;simp only[ap4,bh,Vs,dw,dA,bJ,dh,dB])
theorem aNK:dR amS 82 b82:=oq [auX,auY] (aD (fM (aFa)) (aD (fM (aFb)) aN))
theorem awg:fH amS:=eA f82 (aD zK (aD Yy (aD asW (aD asX (aD asY (aD Ri (aD asZ (aD as1 aN)))))))) (aNK)
theorem aiM:dX prog 82 aBW:=sA awg
noncomputable def b81:Code:=(f81.body).getD .skip
noncomputable def aGi:Code:=cA (cA (cA (cB (cB (cB (cB (b81)))))))
def aGV:eY:=⟨[0,3,4,5,6,100004],[(4,Gp)],[3,4,5],[],[2,3],[(2,Gp)]⟩
def ao6:SP:=⟨us [ci,.u,.u,cw,eC,cK,cg] 23,[.arr 1800004 Gp,er,d7]⟩
def alh:SP:=⟨us [.u,.u,.u,cw,eC,cK] 24,[.arr 1800004 Gp,er,d7]⟩
def alR:SP:=⟨us [.u,.u,eJ] 27,[]⟩
def afG {e:Type} (p:bU->Int->(List oG)->Int->J3->Bool->Int->Bool->Option e) (q:(List oG)->Int->J3->Bool->Int->Bool->Option e) (s:(List oG)->Option e) (f:bU) (h:Int) (g:List oG) (i:Int) (j:J3) (l:Bool) (m:Int) (o:Bool):Option e:=cond (gU h (bM f)) (bK (axj f h (i,(j,(l,())))) fun d=>cond (eH (cu g [(d.1.1,(d.1.2.1,(d.1.2.2.1,(d.1.2.2.2.1,()))))]) 32) (p f d.1.2.2.1 (cu g [(d.1.1,(d.1.2.1,(d.1.2.2.1,(d.1.2.2.2.1,()))))]) d.2.1.1 d.2.1.2.1 d.2.1.2.2.1 m o) a7)<|q g i j l m o
def QE:Nat->bU->Int->(List oG)->Int->J3->Bool->Int->Bool->Option (alh.den⊕alR.den)
 |0,_,_,_,_,_,_,_,_=>a7
 |n+1,d,e,f,g,h,i,j,l=>afG (QE n) (fun m o p q s u=>a6 (.inl ((),(m,(o,p,q,()),(s,u,()),())))) (fun v=>a6 (.inr ((v,()),()))) d e f g h i j l
def aKl (n:Nat) (v:ao6.den):=QE n v.1.1 v.1.2.1 v.2.1 v.2.2.1.1 v.2.2.1.2.1 v.2.2.1.2.2.1 v.2.2.2.1.1 v.2.2.2.1.2.1
noncomputable def ayZ:dG:=fK aGV ao6 alh alR (.exit 0) (aKl bV) 6
def aDk (e:bU):Option ((List oG)×(Int×J3×oJ)×Unit):=bK (QE bV e 0 [] 0 [] false 0 false) fun f=>dO f (fun d=>a6 (d.2.1,((d.2.2.1.1,(d.2.2.1.2.1,(d.2.2.1.2.2.1,()))),()))) (fun g=>a7)
def aHG:Sum:=⟨[.str],[(.list Gp,false),(.pair cZ tyN,false)],fun x=>aDk x.1⟩
noncomputable def awe:Env:=iW prog tt 81 [(82,aBW)] [(4,aGV)] [(4,ayZ)]
def aAc {d:Type} (a:ao6.den->Option d) (b:alh.den->Option d) (c:alR.den->Option d) (v:ao6.den):Option d:=afG (fun e f g h i j l m=>a ((e,f,()),(g,(h,i,j,()),(l,m,()),()))) (fun o p q s u x=>b ((),(o,(p,q,s,()),(u,x,()),()))) (aE c) v.1.1 v.1.2.1 v.2.1 v.2.2.1.1 v.2.2.1.2.1 v.2.2.1.2.2.1 v.2.2.2.1.1 v.2.2.2.1.2.1
theorem aK3:dY awe 81 aGi ayZ:=uz (aAc) (h2:=by intros;simp only[aAc,aE,afG,dw,dA,bJ,dh,dB])
theorem aNJ:dR awe 81 b81:=oq [aGi] (aD (fM (aK3)) aN)
theorem awf:fH awe:=eA f81 (aD aiM aN) (aNJ)
theorem aBV:dX prog 81 aHG:=sA awf
end
section
open List renaming drop_eq_getElem_cons → ay, length_drop → aU
open Go.RowKit
abbrev Tok:=Int×Int×Int×Bool×Unit
abbrev Dlm:=List UInt8×Bool×Unit
abbrev Lxg:=Int×List Dlm×Bool×Unit
def dDl:Dlm:=([],(false,()))
def xq (s:bU) (a:Nat):Nat:=a+Gh (s.drop a) a eQ
def abU (s:bU) (a b:Nat):bU:=(s.take b).drop a
def ap6 (w:bU):Bool:=Pj (ja w 0 eQ).1
theorem YT {s:List UInt8} {a:Nat} (h:a<=s.length):a<=xq s a/\xq s a<=s.length:=by
 grind [amL,xq]
def kJ (s:bU) (a:Nat):Tok:=if yT (s.drop a)≠0 then(1,a,((a+yT (s.drop a):Nat):Int),false,())else if cO s a=10 then(2,a,((a+1:Nat):Int),false,())else if cO s a=35 then(3,a,(jo s a:Nat),false,())else if(EP (s.drop a)).2≠0 then(4,a,((a+(EP (s.drop a)).2:Nat):Int),false,())else if EO (s.drop a)≠0 then(5,a,((a+EO (s.drop a):Nat):Int),false,())else(6,a,(xq s a:Nat), !ap6 (abU s a (xq s a)),())
def mO (s:bU) (a:Nat) (x:Lxg):Lxg:=if yT (s.drop a)≠0 then(x.1,x.2.1,false,())else if cO s a=10 then(0,x.2.1,decide (0<x.2.1.length),())else if cO s a=35 then(0,x.2.1,false,())else if(EP (s.drop a)).2≠0 then((if(EP (s.drop a)).1=4\/(EP (s.drop a)).1=5 then(((EP (s.drop a)).1:Nat):Int)else 0),x.2.1,false,())else if EO (s.drop a)≠0 then(0,x.2.1,false,())else(0,(if x.1=0 then x.2.1 else x.2.1++[(CW (abU s a (xq s a)),decide (x.1=5),())]),false,())
def ku (s:bU) (a:Nat) (x:Lxg):Tok×Lxg:=if x.2.2.1=true then(if(F5 s (x.2.1.headD dDl).1 (x.2.1.headD dDl).2.1 a).2=true then((7,a,((F5 s (x.2.1.headD dDl).1 (x.2.1.headD dDl).2.1 a).1:Nat),false,()),(x.1,x.2.1.tail,decide (1<x.2.1.length),()))else((7,a,((F5 s (x.2.1.headD dDl).1 (x.2.1.headD dDl).2.1 a).1:Nat),true,()),x))else(kJ s a,mO s a x)
theorem azm {c:UInt8} {t:List UInt8} (h:Ku (c.toNat:Int)=true):(EP (c::t)).2≠0:=by
 have d:Zg [c]≠0:=by
  have: ∀n:Fin 256,Ku ((n.val:Nat):Int)=true->Zg [UInt8.ofNat n.val]≠0:=by decide+kernel
  have:=this ⟨c.toNat,c.toNat_lt⟩ h;simpa using this
 have e: ∀n,(Ua (c::t) (n+1)).2≠0:=by
  intro n
  induction n with
  |zero=>simp_all [Ua]
  |succ n f=>
   grind [Ua]
 grind [EP]
theorem uw {s:List UInt8} (m:s.length<=10000) {a:Nat} (g:a<s.length) (x:Lxg):(a:Int)<(ku s a x).1.2.2.1/\(ku s a x).1.2.2.1<=s.length/\(ku s a x).1.2.1=a:=by
 unfold ku;split
 .have h:=Qn s (x.2.1.headD dDl).1 (x.2.1.headD dDl).2.1 bV a (dI) (by omega);have i:=h.2.2 g;have d:=h.1;unfold F5
  grind
 .unfold kJ;have hd:=ay g;split
  .have:=abJ (s.drop a)
   grind
  .split
   .grind
   .split
    .rename_i o
     have d:=zu s a;have i:=Dv (s:=s) (a:=a) (by omega);have p:jo s a≠a:=by
      intro e;have:=Xc (s:=s) (f:=a) (by omega);simp_all [byte_at]
     grind
    .split
     .have:=(Ul (s.drop a)).1
      grind
     .split
      .rename_i q
       have d:=UO (s.drop a);rw[aU]at d;have:EO (s.drop a)<=lF (s.drop a):=by grind [EO]
       grind
      .rename_i u v _ y _
       have j:=YT (s:=s) (a:=a) (by omega);have:Gh (s.drop a) a eQ≠0:=by
        rw[hd,Gh];have l:uB eQ.1 (jI s[a])=false:=by
         unfold uB;have:FV (jI s[a])=false:=by
          have z:tC (s[a].toNat:Int)=false:=by
           grind [Nb]
          have A:Ku (s[a].toNat:Int)=false:=by
           grind [azm]
          simp_all [byte_at,tC,Ku,FV,jI]
         rw[this];rfl
        rw[l];simp
       unfold xq at j ⊢
       grind
end
section
open Option renaming some → a6, none → a7
open Bool renaming false_eq_true → ag, not_false → az, and_true → aA, not_eq_true → bg
open Int renaming toNat_natCast → aX
open List renaming length_drop → aU
open Nat renaming le_refl → ae
open Go.RowKit
theorem agp {s:List UInt8} (y:s.length<1000000) {a:Nat} (v:a<=s.length) (d f:Int) (g:List Dlm) (j:Bool) (l:Int) (m:Bool) (o p q:Int) (u:Bool): ∀(N i:Nat),s.length-i<N->a<=i->i<=jo s a->
  OD N s d (i:Int) f g j l m o p q u=a6 (.inl ((d,((jo s a:Nat):Int),()),((f,g,j,()),(l,m,()),(o,p,q,u,()),())))
 |0,i,h,_,z=>by omega
 |N+1,i,h,A,z=>by
  have D:=Dv v;rw[OD,Vr];by_cases e:i<jo s a
  .have x:i<s.length:=by omega
   rw[bW (eX (by rw[bP];omega)),bW (ed),byte_at x,dJ fun h=>aat A e x (UInt8.toNat_inj.1 (by grind))];simp only[az,aa];rw[dC,show(i:Int)+1=((i+1:Nat):Int) by omega];exact agp y v d f g j l m o p q u N (i+1) (by omega) (by omega) (by omega)
  .have E:i=jo s a:=by omega
   by_cases hl:i<s.length
   .have B:s[i]=10:=by grind [Xc]
    rw[bW (eX (by rw[bP];omega)),bW (ed),byte_at hl,B,show bZ (((10:UInt8).toNat:Nat):Int) 10=true from rfl];simp_all
   simp_all [gB,bP]
theorem agy {s:List UInt8} (D:s.length<1000000) {a:Nat} (E:a<=s.length) (d f:Int) (g:List Dlm) (j:Bool) (m:Int) (o:Bool) (p q u:Int) (v:Bool) (x:Int) (y:List Dlm) (z:Bool): ∀(N k:Nat),s.length-(a+k)<N->k<=lF (s.drop a)->
  OE N s d ((a+k:Nat):Int) f g j m o p q u v x y z=a6 (.inl ((s,d,((a+lF (s.drop a):Nat):Int),()),((f,g,j,()),(m,o,()),(p,q,u,v,()),(x,y,z,()),())))
 |0,k,h,hk=>by omega
 |N+1,k,h,hk=>by
  have J:=UO (s.drop a);have K:=aU (i:=a) (l:=s);rw[OE,Vs];by_cases e:a+k<s.length
  .have A:k<(s.drop a).length:=by omega
   have B:(s.drop a)[k]=s[a+k]:=by simp
   obtain⟨_,_,c,G,_,I⟩:=qN s[a+k];rw[bW (eX (by rw[bP];omega)),bW (ed),byte_at e,G,bJ];simp only[I];by_cases hk2:k<lF (s.drop a)
   .have:=Iu TR (s.drop a) k A hk2;rw[B]at this;rw[this,aa,dC,show((a+k:Nat):Int)+1=((a+(k+1):Nat):Int) by omega];exact agy D E d f g j m o p q u v x y z N (k+1) (by omega) (by omega)
   .obtain rfl:k=lF (s.drop a):=by omega
    have:=CO TR (s.drop a) A;rw[show TR s[a+lF (s.drop a)]=false by rw[<-B];exact this,ac]
  .obtain rfl:k=lF (s.drop a):=by omega
   rw[dD (gB (by rw[bP];omega))]
theorem atY (w:bU) (d:w.length<=100000):WC w=a6 (ap6 w,()):=by
 have e:=(zl w 0 eQ jQ).1;rw[WC,aFM w d,bJ]
 grind [ap6,JX,aAr]
theorem afM {s:List UInt8} {a b:Nat}:sub s (a:Int) (b:Int)=abU s a b:=by simp[sub,abU]
theorem V5 {s:List UInt8} {a b:Nat}:(abU s a b).length<=s.length:=by
 grind [abU]
theorem atH {s:List UInt8} (d:s.length<=10000) {a:Nat} (e:a<s.length):aab s (a:Int)=a6 (((xq s a:Nat):Int),()):=by
 rw[aMm s (by omega) (by omega) (by omega),aX];rfl
theorem at6 {s:List UInt8} (q:s.length<=10000) {a:Nat} (v:a<s.length) (x:Lxg) (hp:x.2.2.1=true->x.2.1≠[]) (hl:x.2.1.length<=1000000):
  axj s a x=a6 ((ku s a x).1,((ku s a x).2,())):=by
 obtain⟨e,f,z,u⟩:=x;cases u;simp only at hp hl;unfold ku
 (rewrite [axj];delta aco aj6 aj3 BC)
 cases z with
 |true=>
  obtain⟨d,r,rfl⟩: ∃d r,f=d::r:=by
   cases f with
   |nil=>simp_all
   |cons d r=>simp
  simp only[aa,if_true];rw[bW (ed (by omega) (by simp)),show dQ (d::r) ([],(false,())) 0=d from rfl,aI2 (by omega) d (by omega),bJ];simp only[List.headD_cons];by_cases hh:(F5 s d.1 d.2.1 a).2=true
  rotate_left
  .rw[bg]at hh;simp only[hh,ag,if_false,show bZ 0 0=true from rfl,aa,fD,iy,iM,aA]
  .have A:sub (d::r) 1 (bM (d::r))=r:=by simp[sub,bP]
   have m:gU 1 (bM (d::r))=decide (1<(d::r).length):=by
    unfold gU bM
    grind
   simp only[hh,if_true,show bZ 1 0=false from rfl,ac,aa,fD,iy,iM,aA,A];have M:dZ (bM (d::r)) 1 (bM (d::r))=true:=eU (by omega) (by grind [bP]) (by omega);simp_all
 |false=>
  have m:gU 0 (bM f)=decide (0<f.length):=by
   simp_all [gU,bM]
  have B:fO s (a:Int)=true:=ed;simp only[ac,ag,if_false];rw[aCA (by omega) (by omega),bJ];simp only;by_cases hb:yT (s.drop a)=0
  .rw[dD (jq),B,aa];by_cases h10:cO s a=10
   .rw[bW (dW h10)];simp only[fD,iy,iM,aA,aa,m,show bZ 0 0=true from rfl]
    grind [dC,kJ,mO]
   .rw[dD (dJ h10)];by_cases h35:cO s a=35
    .rw[bW (dW h35),agp (by omega) (a:=a) (by omega) _ _ _ _ _ _ _ _ _ _ bV a (dI) (ae _) (zu s a),bJ];simp_all [dO,fD,iy,iM,kJ,mO]
    .obtain⟨l,N⟩:=aFi (s.drop a);obtain⟨D,o,O⟩:=Ul (s.drop a);rw[aU]at D;rw[dD (dJ h35),aNZ s (by omega) (by omega),bJ];simp only;by_cases ho:(EP (s.drop a)).2=0
     .have p:=o.1 ho;rw[p,dD (show gU 0 ((0:Nat):Int)=false from rfl)];have hd:=agy (s:=s) (by omega) (a:=a) (by omega) (a:Int) 0 f false 0 false 0 0 0 false e f false bV 0 (dI) (by omega);rw[Nat.add_zero]at hd;rw[hd,bJ];simp only[dO];have E:=UO (s.drop a);rw[aU]at E;have S:=YT (s:=s) (a:=a) (by omega);have word: ∀(j:EO (s.drop a)=0),(bK (aab s (a:Int)) fun g=>
        bif dZ (bM s) (a:Int) g.1 then
         bif !bZ e 0 then
          bif oV Iy f f then
           bif gm (sub s (a:Int) g.1) (sub s (a:Int) g.1)then
            bif bZ e e then
             bif jP (bZ e 5) (bZ e 5)then
              bif eH (cu [] f) 24 then
               bif gm (sub s (a:Int) g.1) (sub s (a:Int) g.1)then
                bif bZ e e then
                 bif jP (bZ e 5) (bZ e 5)then
                  bK (ajT (sub s (a:Int) g.1)) fun i=>
                   bif oV Iy f f then
                    bif gm (sub s (a:Int) g.1) (sub s (a:Int) g.1)then
                     bif bZ e e then
                      bif jP (bZ e 5) (bZ e 5)then
                       bif((gm (sub s (a:Int) g.1) (sub s (a:Int) g.1)&&true)&&(gm i.1 i.1&&true))then
                        bif eH (cu (cu [] f) [(i.1,(bZ e 5,()))]) 24 then
                         bif oV Iy f f then
                          bif gm (sub s (a:Int) g.1) (sub s (a:Int) g.1)then
                           bif bZ e e then
                            bif jP (bZ e 5) (bZ e 5)then
                             bif(gm i.1 i.1&&(jP (bZ e 5) (bZ e 5)&&true))then
                              bK (WC (sub s (a:Int) g.1)) fun G=>
                               bif(bZ 0 0&&(jP false false&&true))then
                                a6 (((6:Int),((a:Int),(g.1,(!G.1,())))),(((0:Int),(cu (cu [] f) [(i.1,(bZ e 5,()))],(false,()))),()))
                               else a7
                             else a7
                            else a7
                           else a7
                          else a7
                         else a7
                        else a7
                       else a7
                      else a7
                     else a7
                    else a7
                   else a7
                 else a7
                else a7
               else a7
              else a7
             else a7
            else a7
           else a7
          else a7
         else bK (WC (sub s (a:Int) g.1)) fun i=>
          bif(bZ 0 0&&(oV Iy f f&&(jP false false&&true)))then
           a6 (((6:Int),((a:Int),(g.1,(!i.1,())))),(((0:Int),(f,(false,()))),()))
          else a7
        else a7)=a6 (((6:Int),((a:Int),(((xq s a:Nat):Int),(!ap6 (abU s a (xq s a)),())))),(((0:Int),((if e=0 then f else f++[(CW (abU s a (xq s a)),decide (e=5),())]),(false,()))),())):=by
       intro j;have U:=V5 (s:=s) (a:=a) (b:=xq s a);rw[atH q v,bJ];simp only;rw[bW (eU (by omega) (by omega) (by rw[bP];omega)),afM];by_cases h0:e=0
       .subst h0;rw[show(!bZ 0 0)=false from rfl,ac,atY _ (by omega),bJ,am rfl];simp_all [fD,iy,iM]
       .rw[dJ h0,aq h0];have I:eH (cu [] f) 24=true:=oO (by grind [cu]);have J: ∀y,eH (cu (cu [] f) [y]) 24=true:=fun y=>oO (by grind [cu]);simp only[az,fD,kZ,iy,iM,aA,aa,I];rw[ai2 _ (by omega),bJ];simp only[fD,kZ,iy,iM,aA,aa,J];rw[atY _ (by omega),bJ];rfl
      by_cases hg:lF (s.drop a)=0
      .simp_all [EO,jq,kJ,mO]
      .rw[bW (eX)];by_cases h1:a+lF (s.drop a)<s.length
       .have K:((s.drop a).drop (lF (s.drop a))).head?=a6 s[a+lF (s.drop a)]:=by
         simp
        have L:fO s ((a+lF (s.drop a):Nat):Int)=true:=ed;rw[bW (eX (by rw[bP];omega)),L,aa,byte_at h1];by_cases e1:s[a+lF (s.drop a)]=60
        .have j:EO (s.drop a)=lF (s.drop a):=by unfold EO;simp_all
         rw[e1,show bZ (((60:UInt8).toNat:Nat):Int) 60=true from rfl];simp_all [fD,iy,iM,kJ,mO]
        .rw[dD (dJ fun h=>e1 (UInt8.toNat_inj.1 (by grind))),aa];by_cases e2:s[a+lF (s.drop a)]=62
         .have j:EO (s.drop a)=lF (s.drop a):=by unfold EO;simp_all
          rw[e2,show bZ (((62:UInt8).toNat:Nat):Int) 62=true from rfl];simp_all [fD,iy,iM,kJ,mO]
         .have j:EO (s.drop a)=0:=by simp_all [EO]
          rw[dD (dJ fun h=>e2 (UInt8.toNat_inj.1 (by grind)))];simp_all [kJ,mO]
       .have K:((s.drop a).drop (lF (s.drop a))).head?=a7:=by
         simp_all
        have j:EO (s.drop a)=0:=by simp_all [EO]
        rw[dD (jq (by rw[bP];omega))];simp_all [kJ,mO]
     .have p:(EP (s.drop a)).1≠0:=fun h=>ho (o.2 h);rw[bW (eX)];have V:bY .i64 (a:Int) (bM (TU (EP (s.drop a)).1))=((a+(EP (s.drop a)).2:Nat):Int):=by
       grind [bP,dC]
      by_cases h4:(EP (s.drop a)).1=4
      .rw[bW (dW),l,bJ];simp_all [fD,iy,iM,kJ,mO]
      .rw[dD (dJ)];by_cases h5:(EP (s.drop a)).1=5
       .rw[bW (dW),l,bJ];simp_all [fD,iy,iM,kJ,mO]
       .rw[dD (dJ),l,bJ];simp_all [fD,iy,iM,kJ,mO]
  .rw[bW (eX)];simp_all [fD,iy,iM,kJ,mO]
end
section
open Int renaming toNat_natCast → aX
open Go.RowKit
def uQ (s:bU):Nat->Nat->List Tok->Lxg->List Tok×Lxg
 |0,_,l,x=>(l,x)
 |n+1,a,l,x=>if a<s.length then uQ s n (ku s a x).1.2.2.1.toNat (l++[(ku s a x).1]) (ku s a x).2 else(l,x)
def rV (s:bU):List Tok×Lxg:=uQ s (s.length+1) 0 [] (0,[],false,())
def OkX (x:Lxg):Prop:=x.2.2.1=true->x.2.1≠[]
theorem Yv (s:bU) (a:Nat) {x:Lxg} (h:OkX x):OkX (ku s a x).2/\(ku s a x).2.2.1.length<=x.2.1.length+1:=by
 obtain⟨d,e,f,u⟩:=x;unfold OkX at*;unfold ku;simp only at h ⊢;split
 .grind
 .unfold mO
  grind
theorem Qp {s:List UInt8} (d:s.length<=10000): ∀(n m a:Nat) (l:List Tok) (x:Lxg),s.length<n+a->s.length<m+a->uQ s n a l x=uQ s m a l x
 |0,0,a,l,x,_,_=>rfl
 |0,m+1,a,l,x,h,_=>by rw[uQ,uQ,aq (by omega)]
 |n+1,0,a,l,x,_,h=>by rw[uQ,uQ,aq (by omega)]
 |n+1,m+1,a,l,x,f,g=>by
  rw[uQ,uQ];split
  .rename_i e
   have:=uw d e x;exact Qp d n m _ _ _ (by omega) (by omega)
  .rfl
theorem ahA {s:List UInt8} (d:s.length<=10000) (f:Int) (g:Bool): ∀(N a:Nat) (l:List Tok) (x:Lxg),s.length-a<N->a<=s.length->OkX x->x.2.1.length<=a->l.length<=a->
  QE N s (a:Int) l x.1 x.2.1 x.2.2.1 f g=some (.inl ((),((uQ s N a l x).1,((uQ s N a l x).2.1,(uQ s N a l x).2.2.1,(uQ s N a l x).2.2.2.1,()),(f,g,()),())))
 |0,a,l,x,h,_,_,_,_=>by omega
 |N+1,a,l,x,h,q,i,u,v=>by
  rw[QE,afG,uQ];by_cases e:a<s.length
  .have y:=uw d e x;have m:=Yv s a i;have o:(x.1,(x.2.1,(x.2.2.1,())))=x:=rfl;rw[bW (eX (by rw[bP];omega)),o,at6 d e x i (by omega),bJ,am e];simp only;rw[bW (oO (by grind [cu]))];obtain⟨b,j⟩: ∃b:Nat,(ku s a x).1.2.2.1=(b:Int):=⟨(ku s a x).1.2.2.1.toNat,by omega⟩;have p:=ahA d f g N b (l++[(ku s a x).1]) (ku s a x).2 (by omega) (by omega) m.1 (by omega) (by grind);rw[j,aX];rw[<-p];rw[<-j];rfl
  simp_all [gB,bP,aq]
theorem aMo {s:List UInt8} (d:s.length<=10000):aDk s=some ((rV s).1,((rV s).2,())):=by
 have h:=ahA d 0 false bV 0 [] (0,[],false,()) (dI) (by omega) (fun h=>by cases h) (by simp) (by simp);have e:uQ s bV 0 [] (0,[],false,())=rV s:=Qp d _ _ _ _ _ (by have:=dI (n:=s.length) (by omega);omega) (by omega);rw[aDk,show QE bV s 0 [] 0 [] false 0 false=_ from h,bJ,e];rfl
structure OkT (s:bU) (t:Tok):Prop where
 f0:0<=t.2.1
 ft:t.2.1<t.2.2.1
 t1:t.2.2.1<=s.length
theorem anL {s:List UInt8} (g:s.length<=10000): ∀(n a:Nat) (l:List Tok) (x:Lxg),OkX x->l.length<=a->a<=s.length->(∀t∈l,OkT s t)->(∀t∈(uQ s n a l x).1,OkT s t)/\OkX (uQ s n a l x).2/\(uQ s n a l x).1.length<=s.length
 |0,a,l,x,d,i,j,h=>⟨h,d,by grind [uQ]⟩
 |n+1,a,l,x,d,i,j,h=>by
  rw[uQ];split
  .rename_i e
   have o:=uw g e x;exact anL g n _ _ _ (Yv s a d).1 (by grind) (by omega) (fun t m=>by
    rcases List.mem_append.1 m with f|f
    .exact h t f
    .rw[List.mem_singleton.1 f];exact⟨by omega,by omega,by omega⟩)
  grind
theorem Uj {s:List UInt8} (d:s.length<=10000):(∀t∈(rV s).1,OkT s t)/\OkX (rV s).2/\(rV s).1.length<=s.length:=
 anL d _ _ _ _ (fun h=>by cases h) (by simp) (by omega) (fun t e=>by cases e)
def ahj (t:Tok):Bool:=decide (t.1=2)||decide (t.1=4)||decide (t.1=5)||decide (t.1=6)
def aGZ (s:bU) (t:Tok):Int×List UInt8×Int×Int×Unit:=(t.1,sub s t.2.1 t.2.2.1,t.2.1,t.2.2.1,())
def jD (s:bU) (l:List Tok):List (Int×List UInt8×Int×Int×Unit):=(l.filter ahj).map (aGZ s)
end
end Go.Proofs.YtdfhjhkcjecmlaaGreatDoor
