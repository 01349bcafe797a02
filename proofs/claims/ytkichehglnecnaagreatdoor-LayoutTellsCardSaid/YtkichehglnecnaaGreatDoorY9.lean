/- Parts of the proof, joined and shortened by a program: the plain machine, the functions as it prints them, and the mathematics over them. -/
import Derived.Test.YtkichehglnecnaaGreatDoorY4
import Derived.Test.YtkichehglnecnaaGreatDoorY5
import Derived.Test.YtkichehglnecnaaGreatDoorY6
set_option linter.unusedVariables false
set_option linter.unusedSimpArgs false
set_option maxRecDepth 100000
set_option maxHeartbeats 4000000
namespace Go.Proofs.YtkichehglnecnaaGreatDoor
section
open Option renaming some → a6, none → a7
open Bool renaming not_false → aB
open Int renaming toNat_natCast → aS, eq_ofNat_of_zero_le → aY
open List renaming append_assoc → ag, length_append → ai, nil_append → aA, drop_eq_getElem_cons → aF, drop_of_length_le → aK, append_nil → aV
open Go.RowKit
theorem alh (t:bW):(dn t).length=t.length:=by simp[dn]
theorem MR (t:bW):ofBytes (dn t)=t:=by simp[ofBytes,dn,Function.comp_def]
theorem wJ (a b:bW):bM (dn a) (dn b)=dn (a++b):=by simp[bM,dn]
theorem aIH:dn []=([]:List Int):=rfl
theorem abO {s:List UInt8} {i:Int} (e:0<=i) (h:i<s.length):[bY s i]=dn (sub s i (i+1)):=by
 obtain⟨n,rfl⟩:=aY e;have d:n<s.length:=by omega
 rw[show(n:Int)+1=((n+1:Nat):Int) by omega,Bo,aF d,List.take_succ_cons,List.take_zero,byte_at d];rfl
theorem alm (M:List uP) (a b c:Int):qH (vz M a b) c=if c=a then b else qH M c:=by
 unfold qH
 induction M with
 |nil=>
  unfold vz Eg;by_cases h:c=a
  .simp_all [fO]
  .rw[dG (dR h),aq h];rfl
 |cons e M d=>
  obtain⟨k,v⟩:=e;unfold vz;by_cases h1:a=k
  .rw[bU (fO h1)];subst h1;unfold Eg;by_cases h:c=a
   .simp_all [fO]
   simp_all [dR]
  .rw[dG (dR h1)];unfold Eg;by_cases h:c=k
   .grind
   simp_all [dR]
def Oy (M:List uP):Nat->List jW->List uP
 |_,[]=>M
 |k,p::l=>Oy (vz M p.2.1 ((k+1:Nat):Int)) (k+1) l
theorem IQ (c:Int): ∀(l:List jW) (M:List uP) (k:Nat),l.Pairwise (fun p q=>p.2.1<q.2.1)->
  (ve l c=a7/\qH (Oy M k l) c=qH M c)\/(∃p,ve l c=a6 p/\ ∃j,l[j]? =a6 p/\qH (Oy M k l) c=((k+j+1:Nat):Int))
 |[],M,k,_=>.inl ⟨rfl,rfl⟩
 |p::l,M,k,h=>by
  obtain⟨o,i⟩:=List.pairwise_cons.1 h;have g:=IQ c l (vz M p.2.1 ((k+1:Nat):Int)) (k+1) i;rw[Oy];unfold ve at*;rw[List.find?_cons];by_cases e:p.2.1=c
  .rw[show(p.2.1==c)=true by simpa using e];refine .inr ⟨p,rfl,0,rfl, ?_⟩;rcases g with ⟨d,f⟩|⟨q,d,j,f,m⟩
   .simp_all [alm]
   grind
  .rw[show(p.2.1==c)=false by simpa using e];rcases g with ⟨d,f⟩|⟨q,d,j,f,m⟩
   .exact .inl ⟨d,by rw[f,alm,aq (fun h=>e h.symm)]⟩
   .exact .inr ⟨q,d,j+1,f,by omega⟩
def Pv (s:bW):List uP:=Oy [] 0 (bQ s)
theorem adA {s:List UInt8} {c:Int} (h:ve (bQ s) c=a7):qH (Pv s) c=0:=by
 rcases IQ c (bQ s) [] 0 (WN s)with ⟨_,h2⟩|⟨p,h1,_⟩
 .exact h2
 simp_all
theorem adB {s:List UInt8} (d:s.length<=10000) {c:Int} {p:jW} (h:ve (bQ s) c=a6 p):
  bT (qH (Pv s) c) 0=false/\gm (bQ s) (eF .i64 (qH (Pv s) c) 1)=true/\eX (bQ s) (0,(0,(0,(0,(false,()))))) (eF .i64 (qH (Pv s) c) 1)=p:=by
 rcases IQ c (bQ s) [] 0 (WN s)with ⟨h1,_⟩|⟨q,h1,j,h2,h3⟩
 .simp_all
 .rw[h]at h1;cases h1;obtain⟨e,f⟩:=List.getElem?_eq_some_iff.1 h2
  grind [CP,Pv,iy,dR,dU,eX]
theorem WU (L:List jW) (hl:L.length<1000000) (a b c d:bW) (e:List jW) (f:List Int): ∀(N k:Nat) (M:List uP),L.length-k<N->k<=L.length->
  rY N L (bG L) (k:Int) a b c d e M f=a6 (.inl ((),((a,b,c,()),(),()),((d,e,()),Oy M k (L.drop k),(),f,())))
 |0,k,M,h,_=>by omega
 |N+1,k,M,h,hk=>by
  rw[rY,Df];by_cases e1:k<L.length
  .have g:eX L (0,(0,(0,(0,(false,()))))) (k:Int)=L[k]:=by
    simp_all [eX]
   rw[bU (eQ (by rw[bI];omega)),bU (dU),g,dh,show(k:Int)+1=((k+1:Nat):Int) by omega,
    WU L hl a b c d e f N (k+1) _ (by omega) (by omega),aF e1,Oy]
  .rw[dG (gK (by rw[bI];omega)),aK (by omega)];rfl
theorem asb {p:jW} (d:0<=p.2.1) (e:p.2.1<1000000):acy (p.1,(p.2.1,(p.2.2.1,(p.2.2.2.1,(p.2.2.2.2.1,())))))=a6 (lone p,()):=by
 rw[acy,lone];simp only;rw[dh];by_cases h:p.1=12
 .rw[bU (fO h)]
  grind [fO,dR]
 simp_all [dR]
theorem acX {s:List UInt8} (v:s.length<=10000) {p:jW} (d:PF s p) (h:p.1=4\/p.1=5):
  ah6 (p.1,(p.2.1,(p.2.2.1,(p.2.2.2.1,(p.2.2.2.2.1,())))))=a6 (p.2.1+1,(uU p,())):=by
 have g:=d.f0;have i:=d.f1;have j:=d.t0;have l:=d.t1;have e:=d.sh;obtain⟨m,f,t,u,o,⟨⟩⟩:=p;have q:ah6 (m,(f,(t,(u,(o,())))))=bif o then a6 (bZ .i64 f 1,(su (eF .i64 t 0) (bZ .i64 f 1),()))else a6 (bZ .i64 f 1,(su (eF .i64 t 1) (bZ .i64 f 1),())):=by
  rcases h with h|h
  .simp only at h;subst h;rfl
  .simp only at h;subst h;rfl
 simp only at g i j l e h ⊢;rw[q];unfold uU su;cases o with
 |true=>rw[aa,dh,iy,Int.sub_zero,aq (by omega)];rfl
 |false=>
  have:=e rfl (by omega);rw[ac,dh,iy,aq (by omega)];rfl
theorem JB {a:List UInt8} (h:a.length<=140737488355328):dV (dn a) 1=true:=rF (by rw[alh];omega)
theorem WH (h:bW):(h=[]/\bG (dn h)=0)\/(h≠[]/\0<bG (dn h)):=by
 rw[bI,alh];cases h with
 |nil=>simp
 |cons a l=>simp
theorem LQ (s:bW) (M:s.length<=10000) {to_:Int} (U:to_<=s.length) (B:Int) (V:B<=10000000000000) (i:Int) (j m:Bool) (q:jW) (u:bW) (v x y z:Int) (A:Bool) (D:List Int) (E:bW):
  ∀(N:Nat) (at_:Int) (J:Bool) (h o:bW),0<N->to_-at_<N->0<=at_->at_<=s.length->(o.length:Int)+h.length<=B+10000*at_->
  ∃G d o',kV N to_ J at_ i j m q u (dn h) v x y z A D s (bQ s) (Pv s) E (dn o)=
   a6 (.inl ((G,()),((i,j,m,q,()),(u,()),(),(),()),(dn d,(v,x,y,z,A,()),D,(),(),(s,bQ s,()),Pv s,(),(E,()),dn o',(),())))/\
   o'++d=o++h++rO s (bQ s) to_ N at_/\(o'.length:Int)+d.length<=B+10000*s.length
 |0,at_,J,h,o,hN,_,_,_,_=>by omega
 |N+1,at_,J,h,o,hN,ak,K,h1,hh=>by
  (rewrite [kV,zf];delta nC nz jV iK eu;rw[rO])
  by_cases e:at_<to_
  .have al:= @Lp s at_;have an:=Nq s (bQ s) at_;have W: ∀(c:bW) (g:Int),c=(gY s (bQ s) at_).2.1->g=(gY s (bQ s) at_).1->g<=s.length->
     ∃G d o',(bif dV (dn (h++c)) 1 then kV N to_ J g i j m q u (dn (h++c)) v x y z A D s (bQ s) (Pv s) E (dn o)else a7)=
      a6 (.inl ((G,()),((i,j,m,q,()),(u,()),(),(),()),(dn d,(v,x,y,z,A,()),D,(),(),(s,bQ s,()),Pv s,(),(E,()),dn o',(),())))/\
      o'++d=o++h++((gY s (bQ s) at_).2.1++rO s (bQ s) to_ N (gY s (bQ s) at_).1)/\(o'.length:Int)+d.length<=B+10000*s.length:=by
    intro c g hc O S;subst hc O;rw[bU (JB (by grind))];obtain⟨G,d,o',X,r2,Y⟩:=LQ s M U B V i j m q u v x y z A D E N (gY s (bQ s) at_).1 J (h++(gY s (bQ s) at_).2.1) o (by omega) (by omega) (by omega) S (by grind)
    grind
   have push: ∀(l:bW) (g:Int),l=o++h++(gY s (bQ s) at_).2.1->g=(gY s (bQ s) at_).1->g<=s.length->
     ∃G d o',(bif dV (dn l) 1 then kV N to_ true g i j m q u [] v x y z A D s (bQ s) (Pv s) E (dn l)else a7)=
      a6 (.inl ((G,()),((i,j,m,q,()),(u,()),(),(),()),(dn d,(v,x,y,z,A,()),D,(),(),(s,bQ s,()),Pv s,(),(E,()),dn o',(),())))/\
      o'++d=o++h++((gY s (bQ s) at_).2.1++rO s (bQ s) to_ N (gY s (bQ s) at_).1)/\(o'.length:Int)+d.length<=B+10000*s.length:=by
    intro l g L O S;subst L O;rw[bU (JB (by grind))];obtain⟨G,d,o',X,r2,Y⟩:=LQ s M U B V i j m q u v x y z A D E N (gY s (bQ s) at_).1 true [] (o++h++(gY s (bQ s) at_).2.1) (by omega) (by omega) (by omega) S (by grind);refine⟨G,d,o',X, ?_,Y⟩;simp_all
   have Z:bZ .i64 at_ 1=at_+1:=dh;rw[bU (eQ e),am e];cases hf:ve (bQ s) at_ with
   |none=>
    have f:gY s (bQ s) at_=(at_+1,sub s at_ (at_+1),false):=by unfold gY;rw[hf]
    rw[adA hf,show bT 0 0=true from rfl,aa,bU (dU K (by omega)),abO K (by omega),wJ,Z]
    grind
   |some p=>
    obtain⟨I,ao⟩:=xn hf;have t0:=I.t0;have t1:=I.t1;obtain⟨m1,m2,m3⟩:=adB M hf;rw[m1,ac,m2,aa];simp only[m3];rw[asb I.f0 (by omega),bD];by_cases hlone:lone p=true
    .have f:gY s (bQ s) at_=(at_+1,sub s at_ (at_+1),false):=by simp_all [gY]
     rw[hlone,aa,bU (dU K (by omega)),abO K (by omega),wJ,Z]
     grind
    .rw[show lone p=false by simpa using hlone,ac];have ab:eF .i64 p.2.2.1 p.2.1=p.2.2.1-p.2.1:=iy;have ad:bZ .i64 p.2.1 1=p.2.1+1:=dh;simp only[ab,ad,wJ];by_cases h13:p.1=13
     .have au:=I.es h13;have f:gY s (bQ s) at_=(p.2.2.1,U4 s p,false):=by simp_all [gY]
      rw[bU (fO h13)];by_cases hto2:p.2.2.1=p.2.1+2
      .rw[dG (kW),bU (dU)];have ae:U4 s p=(if bY s (p.2.1+1)=36\/bY s (p.2.1+1)=96\/bY s (p.2.1+1)=34\/bY s (p.2.1+1)=92 then sub s (p.2.1+1) p.2.2.1
         else if bY s (p.2.1+1)=10 then []else nT s p):=by
        simp_all [U4]
       have af:ofBytes [bY s (p.2.1+1)]=sub s (p.2.1+1) p.2.2.1:=by
        grind [abO,MR]
       simp only[af];by_cases b1:bY s (p.2.1+1)=36
       .simp_all [fO]
       .rw[dG (dR b1)];by_cases b2:bY s (p.2.1+1)=96
        .simp_all [fO]
        .rw[dG (dR b2)];by_cases b3:bY s (p.2.1+1)=34
         .simp_all [fO]
         .rw[dG (dR b3)];by_cases b4:bY s (p.2.1+1)=92
          .simp_all [fO]
          .rw[dG (dR b4)];have ah: ¬(bY s (p.2.1+1)=36\/bY s (p.2.1+1)=96\/bY s (p.2.1+1)=34\/bY s (p.2.1+1)=92):=by omega
           by_cases b5:bY s (p.2.1+1)=10
           .rw[bU (fO b5)]
            grind
           .rw[dG (dR b5),bU (fV I.f0 (by omega) (by rw[bI];omega))];exact W _ _ (by rw[f,ae,aq ah,aq b5];rfl) (by rw[f]) (by omega)
      .rw[bU (eQ)];exact W _ _ (by simp_all [U4]) (by rw[f]) (by omega)
     .have f:gY s (bQ s) at_=(p.2.2.1,nT s p,true):=by simp_all [gY]
      rw[dG (dR h13)];have aj:eU (bG s) p.2.1 p.2.2.1=true:=fV I.f0 (by omega) (by rw[bI];omega);simp only[MR,wJ,aj,aa];rcases WH h with ⟨he,L⟩|⟨he,L⟩
      .subst he;rw[dG (kW)];exact push _ _ (by rw[f,aV];rfl) (by rw[f]) (by omega)
      .rw[bU (eQ L),bU (JB (by grind))];exact push _ _ (by rw[f];rfl) (by rw[f]) (by omega)
  .rw[dG (gK e),aq e]
   grind
theorem Rq (s:bW) (z:s.length<=10000) (f i:bW): ∀(N:Nat) (at_:Int) (h o:bW),(s.length:Int)-at_<N->0<=at_->at_<=s.length->(o.length:Int)+h.length<=200000000*at_->
  ∃d o',jh N at_ f (dn h) s (bQ s) (Pv s) i (dn o)=
   a6 (.inl ((),((f,()),(),(),()),(dn d,(),(),(s,bQ s,()),Pv s,(),(i,()),dn o',(),())))/\
   o'++d=o++h++lC s (bQ s) N at_/\(o'.length:Int)+d.length<=200000000*s.length
 |0,at_,h,o,hN,_,_,_=>by omega
 |N+1,at_,h,o,hN,h0,h1,hh=>by
  (rewrite [jh,yZ];delta tY tX tV tN tK iE jU jT pK dm;rw[lC])
  by_cases e:at_<s.length
  .have aw:= @Lr s at_;have ae:=aep (s:=s) e;have ax:(stepT s (bQ s) at_).2.length<=100010000:=by
    have h1:=Nr s (bQ s) at_;have h2:s.length*s.length<=10000*10000:=Nat.mul_le_mul z z;omega
   have go: ∀(g l:bW) (J:Int),l++g=o++h++(stepT s (bQ s) at_).2->J=(stepT s (bQ s) at_).1->
     ∃d o',jh N J f (dn g) s (bQ s) (Pv s) i (dn l)=
      a6 (.inl ((),((f,()),(),(),()),(dn d,(),(),(s,bQ s,()),Pv s,(),(i,()),dn o',(),())))/\
      o'++d=o++h++((stepT s (bQ s) at_).2++lC s (bQ s) N (stepT s (bQ s) at_).1)/\(o'.length:Int)+d.length<=200000000*s.length:=by
    intro g l J E G;subst G;have K:=congrArg List.length E;simp only[ai]at K;obtain⟨d,o',B,D,r3⟩:=Rq s z f i N (stepT s (bQ s) at_).1 g l (by omega) (by omega) ae (by omega)
    grind
   have af: ∀x:bW,x.length<=200000000->dV (dn (h++x)) 1=true:=fun x L=>JB (by grind);have W: ∀x:bW,x.length<=200000000->dV (dn (o++x)) 1=true:=fun x L=>JB (by grind);have ah:dV (dn (o++h)) 1=true:=JB (by grind);have X: ∀x:bW,x.length<=200000000->dV (dn (o++h++x)) 1=true:=fun x L=>JB (by grind);have ay:bZ .i64 at_ 1=at_+1:=dh;have v: ∀a b,(sub s a b).length<=200000000:=fun a b=>by grind [IY]
   rw[bU (eQ (b:=bG s) e),am e];cases hf:ve (bQ s) at_ with
   |none=>
    have j:stepT s (bQ s) at_=(at_+1,sub s at_ (at_+1)):=by unfold stepT;rw[hf]
    rw[adA hf,show bT 0 0=true from rfl,aa];simp_all [abO,wJ,dU,pg,eH]
   |some p=>
    obtain⟨u,az⟩:=xn hf;have t0:=u.t0;have t1:=u.t1;obtain⟨m1,m2,m3⟩:=adB z hf;have aj:eU (bG s) p.2.1 p.2.2.1=true:=fV u.f0 (by omega) (by rw[bI];omega);have ak:eU (bG s) (p.2.1+1) p.2.2.1=true:=fV (by omega) (by omega) (by rw[bI];omega);have al:bZ .i64 p.2.1 1=p.2.1+1:=dh;rw[m1,ac,m2,aa];simp only[m3];rw[asb u.f0 (by omega),bD];simp only[al,aj,ak,MR,wJ,aa,af _ (v _ _),W _ (v _ _),X _ (v _ _),ah];have M: ∀(x:bW),x.length<=200000000->x=(stepT s (bQ s) at_).2->p.2.2.1=(stepT s (bQ s) at_).1->
     ∃d o',(bif gI h []then jh N p.2.2.1 f [] s (bQ s) (Pv s) i (dn (o++x))
      else jh N p.2.2.1 f [] s (bQ s) (Pv s) i (dn (o++h++x)))=
      a6 (.inl ((),((f,()),(),(),()),(dn d,(),(),(s,bQ s,()),Pv s,(),(i,()),dn o',(),())))/\
      o'++d=o++h++((stepT s (bQ s) at_).2++lC s (bQ s) N (stepT s (bQ s) at_).1)/\(o'.length:Int)+d.length<=200000000*s.length:=by
     intro x L Y G;by_cases y:h=[]
     .subst y;rw[bU (by rfl)];exact go [] _ _ (by rw[<-Y];simp) G
     .rw[dG (by simpa [gI] using y)];exact go [] _ _ (by rw[<-Y];simp) G
    by_cases hpl':lone p=true\/p.1=14
    .have j:stepT s (bQ s) at_=(p.2.2.1,nT s p):=by simp_all [stepT]
     have:=go (h++sub s p.2.1 p.2.2.1) o p.2.2.1 (by rw[j,ag];rfl) (by rw[j]);by_cases I:lone p=true
     .simp_all
     .have O:p.1=14:=hpl'.resolve_left I;simp only[show lone p=false by simpa using I,O,show bT 14 14=true from rfl,aa,ac];exact this
    .have I:lone p=false:=by
      simp_all
     have O:p.1≠14:=fun h=>hpl' (.inr h);simp only[I,dR O,ac];by_cases h13:p.1=13
     .have aG:=u.es h13;have j:stepT s (bQ s) at_=(p.2.2.1,U5 s p):=by simp_all [stepT]
      simp only[fO h13,dR (show p.1≠4 by omega),aa,ac];by_cases hto2:p.2.2.1=p.2.1+2
      .have S:sub s (p.2.1+1) p.2.2.1=[s.getD (p.2.1+1).toNat 0]:=by
        obtain⟨n,hn⟩:=aY (show 0<=p.2.1+1 by omega);have Z:n<s.length:=by omega
        rw[hn,show p.2.2.1=((n+1:Nat):Int) by omega,Bo,aF Z,List.take_succ_cons,List.take_zero,aS,List.getD_eq_getElem?_getD,List.getElem?_eq_getElem Z];rfl
       have an:gI (sub s (p.2.1+1) p.2.2.1) []=false:=by rw[S];simp[gI]
       rw[an,aB,aa];by_cases b5:bY s (p.2.1+1)=10
       .have:gI (sub s (p.2.1+1) p.2.2.1) [10]=true:=by
         rw[S];unfold bY at b5;have ao:s.getD (p.2.1+1).toNat 0=10:=UInt8.toNat_inj.1 (by show _=10;omega);rw[ao];rfl
        simp_all [U5]
       .have:gI (sub s (p.2.1+1) p.2.2.1) [10]=false:=by
         rw[S];have hq:s.getD (p.2.1+1).toNat 0≠10:=fun h=>b5 (by unfold bY;rw[h];rfl);simpa [gI] using hq
        rw[this,aB,aa];exact M _ (v _ _) (by simp_all [U5]) (by rw[j])
      .have au:sub s (p.2.1+1) p.2.2.1=[]:=by
        grind [sub]
       rw[au,show(!gI ([]:bW) [])=false from rfl,ac];simp_all [U5]
     .simp only[dR h13,ac];by_cases h4:p.1=4
      .have j:stepT s (bQ s) at_=(p.2.2.1,sub s (p.2.1+1) (uU p)):=by simp_all [stepT]
       have ab:p.2.1+1<=uU p/\uU p<=p.2.2.1:=by
        unfold uU;by_cases A:p.2.2.2.2.1=true
        .grind
        .rw[aq A];have:=u.sh (by simpa using A) (by omega);omega
       simp only[fO h4,aa];rw[acX z u (.inl h4),bD];simp only[fV (n:=bG s) (lo:=p.2.1+1) (hi:=uU p) (by omega) ab.1 (by rw[bI];omega),aa,W _ (v _ _),X _ (v _ _)];exact M _ (v _ _) (by rw[j]) (by rw[j])
      .simp only[dR h4,ac];by_cases h5:p.1=5
       .have j:stepT s (bQ s) at_=(p.2.2.1,rO s (bQ s) (uU p) s.length (p.2.1+1)):=by simp_all [stepT]
        have ab:p.2.1+1<=uU p/\uU p<=p.2.2.1:=by
         unfold uU;by_cases A:p.2.2.2.2.1=true
         .grind
         .rw[aq A];have:=u.sh (by simpa using A) (by omega);omega
        simp only[fO h5,aa,acX z u (.inr h5),bD];have ad: ∀(q:bW),q=o++h-> ∃m d o',kV bJ (uU p) false (p.2.1+1) p.2.2.1 true true (p.1,(p.2.1,(p.2.2.1,(p.2.2.2.1,(p.2.2.2.2.1,()))))) f [] p.1 p.2.1 p.2.2.1 p.2.2.2.1 p.2.2.2.2.1 (dn h) s (bQ s) (Pv s) i (dn q)=
          a6 (.inl ((m,()),((p.2.2.1,true,true,(p.1,(p.2.1,(p.2.2.1,(p.2.2.2.1,(p.2.2.2.2.1,()))))),()),(f,()),(),(),()),(dn d,(p.1,p.2.1,p.2.2.1,p.2.2.2.1,p.2.2.2.2.1,()),dn h,(),(),(s,bQ s,()),Pv s,(),(i,()),dn o',(),())))/\
          o'++d=o++h++(stepT s (bQ s) at_).2:=by
         intro q hq;obtain⟨m,d,o',B,D,r3⟩:=LQ s z (to_:=uU p) (by omega) 10000000000000 (by omega) p.2.2.1 true true (p.1,(p.2.1,(p.2.2.1,(p.2.2.2.1,(p.2.2.2.2.1,()))))) f p.1 p.2.1 p.2.2.1 p.2.2.2.1 p.2.2.2.2.1 (dn h) i bJ (p.2.1+1) false [] q (by unfold bJ;omega) (by have:=dH (n:=s.length) (by omega);omega) (by omega) (by omega) (by grind);refine⟨m,d,o',B, ?_⟩
         grind [LU,bJ]
        have tail: ∀(m:Bool) (d o':bW),o'++d=o++h++(stepT s (bQ s) at_).2->
          ∃U V,(bif bT (bG (dn d)) 0 then
            bif m then jh N p.2.2.1 f [] s (bQ s) (Pv s) i (dn o')
            else bif dV (dn (o'++d)) 1 then jh N p.2.2.1 f [] s (bQ s) (Pv s) i (dn (o'++d))else a7
           else bif dV (dn (o'++d)) 1 then jh N p.2.2.1 f [] s (bQ s) (Pv s) i (dn (o'++d))else a7)=
           a6 (.inl ((),((f,()),(),(),()),(dn U,(),(),(s,bQ s,()),Pv s,(),(i,()),dn V,(),())))/\
           V++U=o++h++((stepT s (bQ s) at_).2++lC s (bQ s) N (stepT s (bQ s) at_).1)/\(V.length:Int)+U.length<=200000000*s.length:=by
         intro m d o' A;have K:=congrArg List.length A;simp only[ai]at K;have av:dV (dn (o'++d)) 1=true:=JB (by grind);have g1:=go [] (o'++d) p.2.2.1 (by simp_all) (by rw[j]);rw[av,aa];rcases WH d with ⟨y,E⟩|⟨y,E⟩
         .rw[bU (fO E)];rw[y,aV]at g1 ⊢;cases m<;>exact g1
         .rw[dG (dR)];exact g1
        by_cases y:h=[]
        .rw[bU (by rw[y];rfl)];obtain⟨m,d,o',B,D⟩:=ad o (by simp_all);rw[B,bD];simp only[dL,aa,MR,wJ];exact tail m d o' D
        .rw[dG (by simpa [gI] using y)];obtain⟨m,d,o',B,D⟩:=ad (o++h) rfl;rw[B,bD];simp only[dL,aa,MR,wJ];exact tail m d o' D
       .have j:stepT s (bQ s) at_=(p.2.2.1,nT s p):=by simp_all [stepT]
        simp only[dR h5,ac];exact M _ (v _ _) (by rw[j];rfl) (by rw[j])
  .rw[dG (gK (by rw[bI];omega)),aq e]
   grind
theorem aAM (s:bW) (e:s.length<=10000):aic s=a6 (Jf s,()):=by
 have j:=CP s;rw[aic,aIM s (by omega),bD];simp only;have f:=WU (bQ s) (by omega) s [] s s (bQ s) [] bJ 0 [] (dH) (by omega);rw[show rY bJ (bQ s) (bG (bQ s)) 0 s [] s s (bQ s) [] []=_ from f,bD];simp only[dL,List.drop_zero];obtain⟨g,l,h,d,m⟩:=Rq s e [] [] bJ 0 [] [] (by have:=dH (n:=s.length) (by omega);omega) (by omega) (by omega) (by simp);rw[show jh bJ 0 [] [] s (bQ s) (Oy [] 0 (bQ s)) [] []=_ from h,bD];have i:lC s (bQ s) bJ 0=Jf s:=Ie s _ _ _ (by have:=dH (n:=s.length) (by omega);omega) (by omega);rw[i,aA,aA]at d;simp only[dL,MR,wJ,eH,aa];rw[bU (JB (by grind)),d];by_cases he:g=[]
 .simp_all
 simp_all [dG,gI]
end
section
open Bool renaming false_eq_true → ah, and_true → ax, not_true → ay, not_false → aB, not_eq_true → bg
open Int renaming toNat_natCast → aS
open List renaming drop_eq_getElem_cons → aF, length_cons → aH, length_drop → aQ
open Go.RowKit
theorem ahH {l:List Dlm} (h:l.length<=1000000):rJ l=some (l,()):=by
 grind [rJ,wM,rF]
theorem aov {s:List UInt8} (d:s.length<=10000) {a:Nat} (e:a<s.length):acH s (a:Int)=some (((uT s a:Nat):Int),()):=by
 grind [aFK,uT]
theorem aoS {s:List UInt8} {a:Nat} (d:a<s.length):xf (s.drop a)≠0↔qP (bY s a)=true\/Aj (s.drop a)=true:=by
 grind [byte_at,aF,Jh]
theorem aoK (t:bW): ∀n,(O8 t n).2≠0->ofF (t.take (O8 t n).2)=(O8 t n).1
 |0,h=>absurd rfl h
 |n+1,h=>by
  rw[O8]at h ⊢;split
  .rfl
  .rename_i d
   rw[aq d]at h;exact aoK t n h
theorem avw {s:List UInt8} (f:s.length<=10000) {a:Nat} (d:a<s.length):ahZ s (a:Int)=some (jQ s a,()):=by
 have e:gm s (a:Int)=true:=dU;obtain⟨k,g,h,p⟩:=aCZ (lS s a);have q:=aoS d
 (rewrite [ahZ];delta Yi;rw[aIJ (by omega) d,bD,bU e,g,bD])
 simp only[h,e,aa,apD (show a<=s.length by omega),bD,avR (show s.length<1000000 by omega) (show a<=s.length by omega)];by_cases hb:xf (s.drop a)≠0
 .have u:jQ s a=(1,(a:Int),((a+xf (s.drop a):Nat):Int),false,()):=by simp_all [jQ]
  grind
 .have i:qP (bY s (a:Int))=false:=by
   simp_all
  have j:Aj (s.drop a)=false:=by
   simp_all
  rw[i,j,ac,ac];unfold jQ;rw[aq hb];by_cases h10:bY s (a:Int)=10
  .rw[bU (fO h10),am h10,dh];rfl
  .rw[dG (dR h10),aq h10];by_cases h35:bY s (a:Int)=35
   .rw[bU (fO h35),am h35,ar8 (by omega) (by omega),bD]
   .rw[dG (dR h35),aq h35];have l:=(Px (s.drop a)).1;rw[aQ]at l;by_cases hop:(Ci (s.drop a)).2≠0
    .rw[bU (eQ),am hop]
     grind [dh]
    .rw[dG (kW),aq hop,asQ (by omega) (by omega),bD];by_cases hn:Cf (s.drop a)≠0
     .rw[bU (eQ),am hn,bD]
     .rw[dG (kW),aq hn,aov f d,bD];have v:=UU (s:=s) (a:=a) (by omega);have x:=Rl (s:=s) (a:=a) (b:=uT s a);obtain⟨t,m,o⟩:=alp (XY s a (uT s a)) (by omega);simp only;rw[bU (fV (by omega) (by omega) (by rw[bI];omega)),abA,m,bD];simp only;rw[o];rfl
theorem aoQ {s:List UInt8} (g:s.length<=10000) {a:Nat} (h:a<s.length) {x:Lxg} (hl:x.2.1.length<=100000):
  ah0 (sub s (jQ s a).2.1 (jQ s a).2.2.1) (jQ s a).1 (x.1,(x.2.1,(x.2.2.1,())))=some (lJ s a x,()):=by
 rw[ah0];simp only[ahH (show x.2.1.length<=1000000 by omega),bD];unfold jQ lJ;by_cases hb:xf (s.drop a)≠0
 .rw[am hb,am hb];rfl
 .rw[aq hb,aq hb];by_cases h10:bY s (a:Int)=10
  .have d:iq 0 (bG x.2.1)=decide (0<x.2.1.length):=by
    simp_all [iq,bG]
   rw[am h10,am h10,<-d];rfl
  .rw[aq h10,aq h10];by_cases h35:bY s (a:Int)=35
   .rw[am h35,am h35];rfl
   .rw[aq h35,aq h35];by_cases hop:(Ci (s.drop a)).2≠0
    .rw[am hop,am hop];simp only;rw[show bT 4 1=false from rfl,ac,show bT 4 2=false from rfl,ac,show bT 4 4=true from rfl,aa,Bo,asU,bD];have:ofF ((s.drop a).take (Ci (s.drop a)).2)=(Ci (s.drop a)).1:=aoK _ _ hop;rw[this];simp only;by_cases h4:(Ci (s.drop a)).1=4
     .simp_all [fO]
     .rw[dG (dR)];by_cases e:(Ci (s.drop a)).1=5
      .simp_all [fO]
      .rw[dG (dR),aq (by omega)]
    .rw[aq hop,aq hop];by_cases hn:Cf (s.drop a)≠0
     .rw[am hn,am hn];rfl
     .rw[aq hn,aq hn];have i:=Rl (s:=s) (a:=a) (b:=uT s a);simp only;rw[show bT 6 1=false from rfl,ac,show bT 6 2=false from rfl,ac,show bT 6 4=false from rfl,ac,show bT 6 6=true from rfl,aa,abA];by_cases h0:x.1=0
      .simp_all [fO]
      .have e:bT x.1 5=decide (x.1=5):=rfl;have f: ∀y,dV (bM x.2.1 [y]) 24=true:=fun y=>rF (by grind [bM]);rw[dR h0,aB,aa,aq h0,aAM _ (by omega),bD];simp only[pg,eH,iG,f,aa,ax];rfl
theorem aAP {s:List UInt8} (g:s.length<=10000) {a:Nat} (h:a<s.length) (x:Lxg) (hp:x.2.2.1=true->x.2.1≠[]) (hl:x.2.1.length<=100000):
  ahU s (a:Int) x=some ((mg s a x).1,((mg s a x).2,())):=by
 obtain⟨f,e,l,u⟩:=x;cases u;simp only at hp hl
 (rewrite [ahU];delta Yg Yf;rw[dG (kW),dG (D9 (by rw[bI];omega))])
 unfold mg;cases l with
 |true=>
  obtain⟨d,r,rfl⟩: ∃d r,e=d::r:=by
   cases e with
   |nil=>simp_all
   |cons d r=>simp
  simp only[aa,if_true];rw[bU (eQ (by simp_all [bI])),aqY];simp only;rw[bU (dU (by omega) (by simp)),show eX (d::r) ([],(false,())) 0=d from rfl,aBG (by omega) d (by omega),bD];simp only[List.headD_cons];by_cases hh:(Dp s d.1 d.2.1 a).2=true
  rotate_left
  .rw[bg]at hh;simp only[hh,ah,if_false,aB,aa,eH,gU,iG,ax,bD]
  .have m:sub (d::r) 1 (bG (d::r))=r:=by simp[sub,bI]
   have o:iq 0 (bG r)=decide (1<(d::r).length):=by
    simp_all [iq,bG]
   have i:eU (bG (d::r)) 1 (bG (d::r))=true:=fV (by omega) (by grind [bI]) (by omega);rw[aH]at hl;simp only[hh,if_true,ay,ac,i,m,aa,ahH (show r.length<=1000000 by omega),bD,eH,iG,ax,o];rfl
 |false=>
  simp only[ac,ah,if_false];have j:=EO g h (f,(e,(false,())));have p:mg s a (f,(e,(false,())))=(jQ s a,lJ s a (f,(e,(false,())))):=by rfl
  rw[p]at j;simp only at j;rw[avw g h,bD];simp only;have i:eU (bG s) (jQ s a).2.1 (jQ s a).2.2.1=true:=fV (by omega) (by omega) (by rw[bI];omega);rw[i,aa,aoQ g h (x:=(f,(e,(false,())))) hl,bD];simp only[pg,eH,iG,gU,aa,ax]
theorem Wu {s:List UInt8} (d:s.length<=10000) (f:Int) (g:Bool): ∀(N a:Nat) (l:List Tok) (x:Lxg) (t:Tok),s.length-a<N->a<=s.length->OkX x->x.2.1.length<=a->l.length<=a->
  rZ N (a:Int) t.1 t.2.1 t.2.2.1 t.2.2.2.1 x.1 x.2.1 x.2.2.1 s l x.1 x.2.1 x.2.2.1 f g=
   some (.inl ((),((),(),(),()),((s,()),(),(rW s N a l x).1,((rW s N a l x).2.1,(rW s N a l x).2.2.1,(rW s N a l x).2.2.2.1,()),(),(f,g,()),())))
 |0,a,l,x,t,h,_,_,_,_=>by omega
 |N+1,a,l,x,t,h,u,i,v,z=>by
  rw[rZ,Dh,rW];by_cases e:a<s.length
  .have A:=EO d e x;have o:=Uy s a i;have p:(x.1,(x.2.1,(x.2.2.1,())))=x:=rfl;rw[bU (eQ (by rw[bI];omega)),p,aAP d e x i (by omega),bD,am e];have q: ∀y,dV (bM l [y]) 32=true:=fun y=>rF (by grind [bM]);simp only[q,eH,iG,gU,aa,ax];obtain⟨b,j⟩: ∃b:Nat,(mg s a x).1.2.2.1=(b:Int):=⟨(mg s a x).1.2.2.1.toNat,by omega⟩;have m:=Wu d f g N b (l++[(mg s a x).1]) (mg s a x).2 (mg s a x).1 (by omega) (by omega) o.1 (by omega) (by grind);rw[j]at m ⊢;rw[aS,<-m];rw[<-j];rfl
  simp_all [gK,bI,aq]
theorem aFN {s:List UInt8} (d:s.length<=10000):awm s=some ((oJ s).1,((oJ s).2,())):=by
 have h:=Wu d 0 false bJ 0 [] (0,[],false,()) (0,0,0,false,()) (dH) (by omega) (fun h=>by cases h) (by simp) (by simp);have e:rW s bJ 0 [] (0,[],false,())=oJ s:=MG d _ _ _ _ _ (by have:=dH (n:=s.length) (by omega);omega) (by omega);rw[awm,show rZ bJ 0 0 0 0 false 0 [] false s [] 0 [] false 0 false=_ from h,bD,e];rfl
end
section
open Bool renaming and_true → ax
open Int renaming toNat_natCast → aS
open List renaming length_append → ai, length_map → aI, getElem_mem → aJ, length_singleton → aO
open Go.RowKit
theorem JR {s:List UInt8} (u:s.length<=10000) (l:List Tok) (hl:l.length<=10000) (g: ∀t∈l,OkT s t): ∀(N k:Nat),l.length-k<N->k<=l.length->
  Ec N s l (bG l) (k:Int) (gJ s (l.take k))=some (.inl ((),(gJ s l,())))
 |0,k,h,_=>by omega
 |N+1,k,h,hk=>by
  (rewrite [Ec,abo];delta Bl uN dX)
  by_cases e:k<l.length
  .have v:eX l (0,(0,(0,(false,())))) (k:Int)=l[k]:=by
    unfold eX;rw[aS,List.getD_eq_getElem?_getD,List.getElem?_eq_getElem e];rfl
   have x:gm l (k:Int)=true:=dU;obtain⟨z,G,I⟩:=g _ (aJ e);have A:eU (bG s) l[k].2.1 l[k].2.2.1=true:=fV z (by omega) (by rw[bI];omega);have J:(gJ s (l.take k)).length<=10000:=by
    unfold gJ;rw[aI];have:=List.length_filter_le acZ (l.take k);rw[List.length_take]at this;omega
   have B: ∀y,dV (bM (gJ s (l.take k)) [y]) 40=true:=fun y=>rF (by unfold bM;simp only[ai,aO];omega);have i:=JR u l hl g N (k+1) (by omega) (by omega);have j:l.take (k+1)=l.take k++[l[k]]:=by rw[List.take_add_one,List.getElem?_eq_getElem e];rfl
   have D:bZ .i64 (k:Int) 1=((k+1:Nat):Int):=by rw[dh];omega
   have m:iq l[k].2.1 0=false:=kW;have o:iq l[k].2.2.1 l[k].2.1=false:=kW;have p:iq (bG s) l[k].2.2.1=false:=kW (by rw[bI];omega);have E:awq s (l[k].1,(l[k].2.1,(l[k].2.2.1,(l[k].2.2.2.1,()))))=some (sub s l[k].2.1 l[k].2.2.1,()):=by
    rw[awq];simp only[m,o,p,A,aa,ac]
   have d:acZ l[k]=true->Ec N s l (bG l) ((k+1:Nat):Int) (bM (gJ s (l.take k)) [(l[k].1,(sub s l[k].2.1 l[k].2.2.1,(l[k].2.1,(l[k].2.2.1,()))))])=some (.inl ((),(gJ s l,()))):=fun f=>by
    rw[<-i];congr 1;unfold gJ;rw[j,List.filter_append,List.map_append,List.filter_cons_of_pos f];rfl
   have q:acZ l[k]=false->Ec N s l (bG l) ((k+1:Nat):Int) (gJ s (l.take k))=some (.inl ((),(gJ s l,()))):=fun f=>by
    rw[<-i];congr 1;unfold gJ;rw[j,List.filter_append,List.filter_cons_of_neg (by rw[f];simp)];simp
   rw[bU (eQ (by rw[bI];omega)),x,aa];simp only[v,m,o,p,ac,D,E,bD,eH,pg,iG,ax,aa,B];unfold acZ at d q;by_cases h4:l[k].1=4
   .simp only[fO h4,aa];exact d (by simp[h4])
   .by_cases h5:l[k].1=5
    .simp only[dR h4,fO h5,aa,ac];exact d (by simp[h5])
    .by_cases h6:l[k].1=6
     .simp only[dR h4,dR h5,fO h6,aa,ac];exact d (by simp[h6])
     .by_cases h2:l[k].1=2
      .simp only[dR h4,dR h5,dR h6,fO h2,aa,ac];exact d (by simp[h2])
      .simp only[dR h4,dR h5,dR h6,dR h2,aa,ac];exact q (by simp[h2,h4,h5,h6])
  .rw[dG (gK (by rw[bI];omega)),List.take_of_length_le (by omega)]
theorem aoD {s:List UInt8} (d:s.length<=10000):awn s (oJ s).1=some (gJ s (oJ s).1,()):=by
 obtain⟨e,f,g⟩:=JS d;have h:=JR d (oJ s).1 (by omega) e bJ 0 (dH) (by omega);rw[awn,show Ec bJ s (oJ s).1 (bG (oJ s).1) 0 []=_ from h,bD];rfl
end
section
open List renaming length_append → ai, length_singleton → aO, length_nil → aX
open Go.RowKit
def Wp (l:List Tok):Tok:=l.getLastD (0,(0,(0,(false,()))))
theorem aG1:Wp []=(0,(0,(0,(false,())))):=rfl
theorem ar5 (r:List Tok) (t:Tok):Wp (r++[t])=t:=by simp[Wp]
theorem aG0 (r:List Tok) (t:Tok) (h:r.length<1000000):iq 0 (bG (r++[t]))=true/\gm (r++[t]) (eF .i64 (bG (r++[t])) 1)=true/\eX (r++[t]) (0,(0,(0,(false,())))) (eF .i64 (bG (r++[t])) 1)=t:=by
 have d:eF .i64 (bG (r++[t])) 1=(r.length:Int):=by
  rw[bI,iy (by simp only[ai,aO];omega) (by simp only[ai,aO];omega)];simp
 rw[d];exact⟨eQ (by rw[bI];simp only[ai,aO];omega),dU (by omega) (by simp only[ai,aO];omega),AB rfl⟩
theorem aFl {u:List UInt8} (f:u.length<=10000):(Wp (oJ u).1).1≠0->0<=(Wp (oJ u).1).2.1/\(Wp (oJ u).1).2.1<=u.length/\u≠[]:=by
 intro h;rcases List.eq_nil_or_concat (oJ u).1 with e|⟨r,t,e⟩
 .rw[e]at h;exact absurd rfl h
 .rw[List.concat_eq_append]at e;have d:=(JS f).1 t (by rw[e];simp);rw[e,ar5];have g:=d.f0;have j:=d.ft;have i:=d.t1;refine⟨g,by omega, ?_⟩;rintro rfl;simp only[aX]at i;omega
end
end Go.Proofs.YtkichehglnecnaaGreatDoor
