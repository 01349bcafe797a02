/- Parts of the proof, joined and shortened by a program: the plain machine, the functions as it prints them, and the mathematics over them. -/
import Derived.Test.YtjegbhogodknhaaGreatDoorZ4
import Derived.Test.YtjegbhogodknhaaGreatDoorZ5
import Derived.Test.YtjegbhogodknhaaGreatDoorZ6
set_option linter.unusedVariables false
set_option linter.unusedSimpArgs false
set_option maxRecDepth 100000
set_option maxHeartbeats 4000000
namespace Go.Proofs.YtjegbhogodknhaaGreatDoor
section
open Option renaming some → a6, none → a7
open Bool renaming not_false → aF
open Int renaming toNat_natCast → aX
open List renaming length_append → ae, append_assoc → ag, append_nil → aG, drop_eq_getElem_cons → aH, drop_of_length_le → aO, nil_append → aQ
open Go.RowKit
theorem alV (t:dC):(dR t).length=t.length:=by simp[dR]
theorem OC (t:dC):ofBytes (dR t)=t:=by simp[ofBytes,dR,Function.comp_def]
theorem yA (a b:dC):bZ (dR a) (dR b)=dR (a++b):=by simp[bZ,dR]
theorem aIc:dR []=([]:List Int):=rfl
theorem acO {s:List UInt8} {i:Int} (e:0<=i) (h:i<s.length):[dm s i]=dR (sub s i (i+1)):=by
 obtain⟨n,rfl⟩:=Int.eq_ofNat_of_zero_le e;have d:n<s.length:=by omega
 rw[show(n:Int)+1=((n+1:Nat):Int) by omega,DC,aH d,List.take_succ_cons,List.take_zero,byte_at d];rfl
theorem alZ (M:List xf) (a b c:Int):tV (xx M a b) c=if c=a then b else tV M c:=by
 unfold tV
 induction M with
 |nil=>
  unfold xx F6;by_cases h:c=a
  .simp_all [gz]
  .rw[dY (fB h),aq h];rfl
 |cons e M d=>
  obtain⟨k,v⟩:=e;unfold xx;by_cases h1:a=k
  .rw[dn (gz h1)];subst h1;unfold F6;by_cases h:c=a
   .simp_all [gz]
   simp_all [fB]
  .rw[dY (fB h1)];unfold F6;by_cases h:c=k
   .grind
   simp_all [fB]
def Qm (M:List xf):Nat->List mW->List xf
 |_,[]=>M
 |k,p::l=>Qm (xx M p.2.1 ((k+1:Nat):Int)) (k+1) l
theorem JP (c:Int): ∀(l:List mW) (M:List xf) (k:Nat),l.Pairwise (fun p q=>p.2.1<q.2.1)->
  (zg l c=a7/\tV (Qm M k l) c=tV M c)\/(∃p,zg l c=a6 p/\ ∃j,l[j]? =a6 p/\tV (Qm M k l) c=((k+j+1:Nat):Int))
 |[],M,k,_=>.inl ⟨rfl,rfl⟩
 |p::l,M,k,h=>by
  obtain⟨u,i⟩:=List.pairwise_cons.1 h;have g:=JP c l (xx M p.2.1 ((k+1:Nat):Int)) (k+1) i;rw[Qm];unfold zg at*;rw[List.find?_cons];by_cases e:p.2.1=c
  .rw[show(p.2.1==c)=true by simpa using e];refine .inr ⟨p,rfl,0,rfl, ?_⟩;rcases g with ⟨d,f⟩|⟨q,d,j,f,m⟩
   .simp_all [alZ]
   grind
  .rw[show(p.2.1==c)=false by simpa using e];rcases g with ⟨d,f⟩|⟨q,d,j,f,m⟩
   .exact .inl ⟨d,by rw[f,alZ,aq (fun h=>e h.symm)]⟩
   .exact .inr ⟨q,d,j+1,f,by omega⟩
def QY (s:dC):List xf:=Qm [] 0 (dB s)
theorem aeA {s:List UInt8} {c:Int} (h:zg (dB s) c=a7):tV (QY s) c=0:=by
 rcases JP c (dB s) [] 0 (X6 s)with ⟨_,h2⟩|⟨p,h1,_⟩
 .exact h2
 simp_all
theorem aeB {s:List UInt8} (d:s.length<=10000) {c:Int} {p:mW} (h:zg (dB s) c=a6 p):
  cZ (tV (QY s) c) 0=false/\iy (dB s) (fO .i64 (tV (QY s) c) 1)=true/\gW (dB s) (0,(0,(0,(0,(false,()))))) (fO .i64 (tV (QY s) c) 1)=p:=by
 rcases JP c (dB s) [] 0 (X6 s)with ⟨h1,_⟩|⟨q,h1,j,h2,h3⟩
 .simp_all
 .rw[h]at h1;cases h1;obtain⟨e,f⟩:=List.getElem?_eq_some_iff.1 h2
  grind [EF,QY,iH,fB,fD,gW]
theorem Yd (L:List mW) (hl:L.length<1000000) (a b c d:dC) (e:List mW) (f:List Int): ∀(N k:Nat) (M:List xf),L.length-k<N->k<=L.length->
  tK N L (bV L) (k:Int) a b c d e M f=a6 (.inl ((),((a,b,c,()),(),()),((d,e,()),Qm M k (L.drop k),(),f,())))
 |0,k,M,h,_=>by omega
 |N+1,k,M,h,hk=>by
  rw[tK,AV];by_cases e1:k<L.length
  .have g:gW L (0,(0,(0,(0,(false,()))))) (k:Int)=L[k]:=by
    simp_all [gW]
   rw[dn (fQ (by rw[cu];omega)),dn (fD),g,dD,show(k:Int)+1=((k+1:Nat):Int) by omega,
    Yd L hl a b c d e f N (k+1) _ (by omega) (by omega),aH e1,Qm]
  .rw[dY (iL (by rw[cu];omega)),aO (by omega)];rfl
theorem asB {p:mW} (d:0<=p.2.1) (e:p.2.1<1000000):adI (p.1,(p.2.1,(p.2.2.1,(p.2.2.2.1,(p.2.2.2.2.1,())))))=a6 (lone p,()):=by
 rw[adI,lone];simp only;rw[dD];by_cases h:p.1=12
 .rw[dn (gz h)]
  grind [gz,fB]
 simp_all [fB]
theorem adV {s:List UInt8} (v:s.length<=10000) {p:mW} (d:PF s p) (h:p.1=4\/p.1=5):
  aja (p.1,(p.2.1,(p.2.2.1,(p.2.2.2.1,(p.2.2.2.2.1,())))))=a6 (p.2.1+1,(zV p,())):=by
 have g:=d.f0;have i:=d.f1;have j:=d.t0;have l:=d.t1;have e:=d.sh;obtain⟨m,f,t,u,o,⟨⟩⟩:=p;have q:aja (m,(f,(t,(u,(o,())))))=bif o then a6 (dJ .i64 f 1,(Eo (fO .i64 t 0) (dJ .i64 f 1),()))else a6 (dJ .i64 f 1,(Eo (fO .i64 t 1) (dJ .i64 f 1),())):=by
  rcases h with h|h
  .simp only at h;subst h;rfl
  .simp only at h;subst h;rfl
 simp only at g i j l e h ⊢;rw[q];unfold zV Eo;cases o with
 |true=>rw[aa,dD,iH,Int.sub_zero,aq (by omega)];rfl
 |false=>
  have:=e rfl (by omega);rw[ac,dD,iH,aq (by omega)];rfl
theorem KX {a:List UInt8} (h:a.length<=140737488355328):fG (dR a) 1=true:=ug (by rw[alV];omega)
theorem XZ (h:dC):(h=[]/\bV (dR h)=0)\/(h≠[]/\0<bV (dR h)):=by
 rw[cu,alV];cases h with
 |nil=>simp
 |cons a l=>simp
theorem NS (s:dC) (O:s.length<=10000) {to_:Int} (V:to_<=s.length) (B:Int) (W:B<=10000000000000) (g:Int) (i j:Bool) (m:mW) (q:dC) (u v x y:Int) (z:Bool) (A:List Int) (D:dC):
  ∀(N:Nat) (at_:Int) (K:Bool) (h o:dC),0<N->to_-at_<N->0<=at_->at_<=s.length->(o.length:Int)+h.length<=B+10000*at_->
  ∃I d o',nR N to_ K at_ g i j m q (dR h) u v x y z A s (dB s) (QY s) D (dR o)=
   a6 (.inl ((I,()),((g,i,j,m,()),(q,()),(),(),()),(dR d,(u,v,x,y,z,()),A,(),(),(s,dB s,()),QY s,(),(D,()),dR o',(),())))/\
   o'++d=o++h++uN s (dB s) to_ N at_/\(o'.length:Int)+d.length<=B+10000*s.length
 |0,at_,K,h,o,hN,_,_,_,_=>by omega
 |N+1,at_,K,h,o,hN,al,L,h1,hh=>by
  (rewrite [nR,AY];delta pU pO lZ jA fP;rw[uN])
  by_cases e:at_<to_
  .have an:= @VQ s at_;have ao:=O8 s (dB s) at_;have X: ∀(c:dC) (nx:Int),c=(jq s (dB s) at_).2.1->nx=(jq s (dB s) at_).1->nx<=s.length->
     ∃I d o',(bif fG (dR (h++c)) 1 then nR N to_ K nx g i j m q (dR (h++c)) u v x y z A s (dB s) (QY s) D (dR o)else a7)=
      a6 (.inl ((I,()),((g,i,j,m,()),(q,()),(),(),()),(dR d,(u,v,x,y,z,()),A,(),(),(s,dB s,()),QY s,(),(D,()),dR o',(),())))/\
      o'++d=o++h++((jq s (dB s) at_).2.1++uN s (dB s) to_ N (jq s (dB s) at_).1)/\(o'.length:Int)+d.length<=B+10000*s.length:=by
    intro c nx hc S U;subst hc S;rw[dn (KX (by grind))];obtain⟨I,d,o',Y,r2,Z⟩:=NS s O V B W g i j m q u v x y z A D N (jq s (dB s) at_).1 K (h++(jq s (dB s) at_).2.1) o (by omega) (by omega) (by omega) U (by grind)
    grind
   have push: ∀(l:dC) (nx:Int),l=o++h++(jq s (dB s) at_).2.1->nx=(jq s (dB s) at_).1->nx<=s.length->
     ∃I d o',(bif fG (dR l) 1 then nR N to_ true nx g i j m q [] u v x y z A s (dB s) (QY s) D (dR l)else a7)=
      a6 (.inl ((I,()),((g,i,j,m,()),(q,()),(),(),()),(dR d,(u,v,x,y,z,()),A,(),(),(s,dB s,()),QY s,(),(D,()),dR o',(),())))/\
      o'++d=o++h++((jq s (dB s) at_).2.1++uN s (dB s) to_ N (jq s (dB s) at_).1)/\(o'.length:Int)+d.length<=B+10000*s.length:=by
    intro l nx M S U;subst M S;rw[dn (KX (by grind))];obtain⟨I,d,o',Y,r2,Z⟩:=NS s O V B W g i j m q u v x y z A D N (jq s (dB s) at_).1 true [] (o++h++(jq s (dB s) at_).2.1) (by omega) (by omega) (by omega) U (by grind);refine⟨I,d,o',Y, ?_,Z⟩;simp_all
   have ab:dJ .i64 at_ 1=at_+1:=dD;rw[dn (fQ e),am e];cases hf:zg (dB s) at_ with
   |none=>
    have f:jq s (dB s) at_=(at_+1,sub s at_ (at_+1),false):=by unfold jq;rw[hf]
    rw[aeA hf,show cZ 0 0=true from rfl,aa,dn (fD L (by omega)),acO L (by omega),yA,ab]
    grind
   |some p=>
    obtain⟨J,au⟩:=zh hf;have t0:=J.t0;have t1:=J.t1;obtain⟨m1,m2,m3⟩:=aeB O hf;rw[m1,ac,m2,aa];simp only[m3];rw[asB J.f0 (by omega),bT];by_cases hlone:lone p=true
    .have f:jq s (dB s) at_=(at_+1,sub s at_ (at_+1),false):=by simp_all [jq]
     rw[hlone,aa,dn (fD L (by omega)),acO L (by omega),yA,ab]
     grind
    .rw[show lone p=false by simpa using hlone,ac];have ad:fO .i64 p.2.2.1 p.2.1=p.2.2.1-p.2.1:=iH;have af:dJ .i64 p.2.1 1=p.2.1+1:=dD;simp only[ad,af,yA];by_cases h13:p.1=13
     .have av:=J.es h13;have f:jq s (dB s) at_=(p.2.2.1,WF s p,false):=by simp_all [jq]
      rw[dn (gz h13)];by_cases hto2:p.2.2.1=p.2.1+2
      .rw[dY (nS),dn (fD)];have ah:WF s p=(if dm s (p.2.1+1)=36\/dm s (p.2.1+1)=96\/dm s (p.2.1+1)=34\/dm s (p.2.1+1)=92 then sub s (p.2.1+1) p.2.2.1
         else if dm s (p.2.1+1)=10 then []else qx s p):=by
        simp_all [WF]
       have ai:ofBytes [dm s (p.2.1+1)]=sub s (p.2.1+1) p.2.2.1:=by
        grind [acO,OC]
       simp only[ai];by_cases b1:dm s (p.2.1+1)=36
       .simp_all [gz]
       .rw[dY (fB b1)];by_cases b2:dm s (p.2.1+1)=96
        .simp_all [gz]
        .rw[dY (fB b2)];by_cases b3:dm s (p.2.1+1)=34
         .simp_all [gz]
         .rw[dY (fB b3)];by_cases b4:dm s (p.2.1+1)=92
          .simp_all [gz]
          .rw[dY (fB b4)];have aj: ¬(dm s (p.2.1+1)=36\/dm s (p.2.1+1)=96\/dm s (p.2.1+1)=34\/dm s (p.2.1+1)=92):=by omega
           by_cases b5:dm s (p.2.1+1)=10
           .rw[dn (gz b5)]
            grind
           .rw[dY (fB b5),dn (ig J.f0 (by omega) (by rw[cu];omega))];exact X _ _ (by rw[f,ah,aq aj,aq b5];rfl) (by rw[f]) (by omega)
      .rw[dn (fQ)];exact X _ _ (by simp_all [WF]) (by rw[f]) (by omega)
     .have f:jq s (dB s) at_=(p.2.2.1,qx s p,true):=by simp_all [jq]
      rw[dY (fB h13)];have ak:gy (bV s) p.2.1 p.2.2.1=true:=ig J.f0 (by omega) (by rw[cu];omega);simp only[OC,yA,ak,aa];rcases XZ h with ⟨he,M⟩|⟨he,M⟩
      .subst he;rw[dY (nS)];exact push _ _ (by rw[f,aG];rfl) (by rw[f]) (by omega)
      .rw[dn (fQ M),dn (KX (by grind))];exact push _ _ (by rw[f];rfl) (by rw[f]) (by omega)
  .rw[dY (iL e),aq e]
   grind
theorem TA (s:dC) (z:s.length<=10000) (f i:dC): ∀(N:Nat) (at_:Int) (h o:dC),(s.length:Int)-at_<N->0<=at_->at_<=s.length->(o.length:Int)+h.length<=200000000*at_->
  ∃d o',kL N at_ f (dR h) s (dB s) (QY s) i (dR o)=
   a6 (.inl ((),((f,()),(),(),()),(dR d,(),(),(s,dB s,()),QY s,(),(i,()),dR o',(),())))/\
   o'++d=o++h++nX s (dB s) N at_/\(o'.length:Int)+d.length<=200000000*s.length
 |0,at_,h,o,hN,_,_,_=>by omega
 |N+1,at_,h,o,hN,h0,h1,hh=>by
  (rewrite [kL,AX];delta vW vV vU vT vS jh lY lX rZ dK;rw[nX])
  by_cases e:at_<s.length
  .have ax:= @VR s at_;have ah:=afo (s:=s) e;have ay:(stepT s (dB s) at_).2.length<=100010000:=by
    have h1:=O9 s (dB s) at_;have h2:s.length*s.length<=10000*10000:=Nat.mul_le_mul z z;omega
   have go: ∀(g l:dC) (nx:Int),l++g=o++h++(stepT s (dB s) at_).2->nx=(stepT s (dB s) at_).1->
     ∃d o',kL N nx f (dR g) s (dB s) (QY s) i (dR l)=
      a6 (.inl ((),((f,()),(),(),()),(dR d,(),(),(s,dB s,()),QY s,(),(i,()),dR o',(),())))/\
      o'++d=o++h++((stepT s (dB s) at_).2++nX s (dB s) N (stepT s (dB s) at_).1)/\(o'.length:Int)+d.length<=200000000*s.length:=by
    intro g l nx I J;subst J;have L:=congrArg List.length I;simp only[ae]at L;obtain⟨d,o',B,D,r3⟩:=TA s z f i N (stepT s (dB s) at_).1 g l (by omega) (by omega) ah (by omega)
    grind
   have ai: ∀x:dC,x.length<=200000000->fG (dR (h++x)) 1=true:=fun x M=>KX (by grind);have X: ∀x:dC,x.length<=200000000->fG (dR (o++x)) 1=true:=fun x M=>KX (by grind);have aj:fG (dR (o++h)) 1=true:=KX (by grind);have Y: ∀x:dC,x.length<=200000000->fG (dR (o++h++x)) 1=true:=fun x M=>KX (by grind);have az:dJ .i64 at_ 1=at_+1:=dD;have v: ∀a b,(sub s a b).length<=200000000:=fun a b=>by grind [JY]
   rw[dn (fQ (b:=bV s) e),am e];cases hf:zg (dB s) at_ with
   |none=>
    have j:stepT s (dB s) at_=(at_+1,sub s at_ (at_+1)):=by unfold stepT;rw[hf]
    rw[aeA hf,show cZ 0 0=true from rfl,aa];simp_all [acO,yA,fD,rV,eU]
   |some p=>
    obtain⟨u,aA⟩:=zh hf;have t0:=u.t0;have t1:=u.t1;obtain⟨m1,m2,m3⟩:=aeB z hf;have ak:gy (bV s) p.2.1 p.2.2.1=true:=ig u.f0 (by omega) (by rw[cu];omega);have al:gy (bV s) (p.2.1+1) p.2.2.1=true:=ig (by omega) (by omega) (by rw[cu];omega);have an:dJ .i64 p.2.1 1=p.2.1+1:=dD;rw[m1,ac,m2,aa];simp only[m3];rw[asB u.f0 (by omega),bT];simp only[an,ak,al,OC,yA,aa,ai _ (v _ _),X _ (v _ _),Y _ (v _ _),aj];have O: ∀(x:dC),x.length<=200000000->x=(stepT s (dB s) at_).2->p.2.2.1=(stepT s (dB s) at_).1->
     ∃d o',(bif iG h []then kL N p.2.2.1 f [] s (dB s) (QY s) i (dR (o++x))
      else kL N p.2.2.1 f [] s (dB s) (QY s) i (dR (o++h++x)))=
      a6 (.inl ((),((f,()),(),(),()),(dR d,(),(),(s,dB s,()),QY s,(),(i,()),dR o',(),())))/\
      o'++d=o++h++((stepT s (dB s) at_).2++nX s (dB s) N (stepT s (dB s) at_).1)/\(o'.length:Int)+d.length<=200000000*s.length:=by
     intro x M Z J;by_cases y:h=[]
     .subst y;rw[dn (by rfl)];exact go [] _ _ (by rw[<-Z];simp) J
     .rw[dY (by simpa [iG] using y)];exact go [] _ _ (by rw[<-Z];simp) J
    by_cases hpl':lone p=true\/p.1=14
    .have j:stepT s (dB s) at_=(p.2.2.1,qx s p):=by simp_all [stepT]
     have:=go (h++sub s p.2.1 p.2.2.1) o p.2.2.1 (by rw[j,ag];rfl) (by rw[j]);by_cases K:lone p=true
     .simp_all
     .have S:p.1=14:=hpl'.resolve_left K;simp only[show lone p=false by simpa using K,S,show cZ 14 14=true from rfl,aa,ac];exact this
    .have K:lone p=false:=by
      simp_all
     have S:p.1≠14:=fun h=>hpl' (.inr h);simp only[K,fB S,ac];by_cases h13:p.1=13
     .have aB:=u.es h13;have j:stepT s (dB s) at_=(p.2.2.1,WG s p):=by simp_all [stepT]
      simp only[gz h13,fB (show p.1≠4 by omega),aa,ac];by_cases hto2:p.2.2.1=p.2.1+2
      .have U:sub s (p.2.1+1) p.2.2.1=[s.getD (p.2.1+1).toNat 0]:=by
        obtain⟨n,hn⟩:=Int.eq_ofNat_of_zero_le (show 0<=p.2.1+1 by omega);have ab:n<s.length:=by omega
        rw[hn,show p.2.2.1=((n+1:Nat):Int) by omega,DC,aH ab,List.take_succ_cons,List.take_zero,aX,List.getD_eq_getElem?_getD,List.getElem?_eq_getElem ab];rfl
       have ao:iG (sub s (p.2.1+1) p.2.2.1) []=false:=by rw[U];simp[iG]
       rw[ao,aF,aa];by_cases b5:dm s (p.2.1+1)=10
       .have:iG (sub s (p.2.1+1) p.2.2.1) [10]=true:=by
         rw[U];unfold dm at b5;have au:s.getD (p.2.1+1).toNat 0=10:=UInt8.toNat_inj.1 (by show _=10;omega);rw[au];rfl
        simp_all [WG]
       .have:iG (sub s (p.2.1+1) p.2.2.1) [10]=false:=by
         rw[U];have hq:s.getD (p.2.1+1).toNat 0≠10:=fun h=>b5 (by unfold dm;rw[h];rfl);simpa [iG] using hq
        rw[this,aF,aa];exact O _ (v _ _) (by simp_all [WG]) (by rw[j])
      .have av:sub s (p.2.1+1) p.2.2.1=[]:=by
        grind [sub]
       rw[av,show(!iG ([]:dC) [])=false from rfl,ac];simp_all [WG]
     .simp only[fB h13,ac];by_cases h4:p.1=4
      .have j:stepT s (dB s) at_=(p.2.2.1,sub s (p.2.1+1) (zV p)):=by simp_all [stepT]
       have ad:p.2.1+1<=zV p/\zV p<=p.2.2.1:=by
        unfold zV;by_cases A:p.2.2.2.2.1=true
        .grind
        .rw[aq A];have:=u.sh (by simpa using A) (by omega);omega
       simp only[gz h4,aa];rw[adV z u (.inl h4),bT];simp only[ig (n:=bV s) (lo:=p.2.1+1) (hi:=zV p) (by omega) ad.1 (by rw[cu];omega),aa,X _ (v _ _),Y _ (v _ _)];exact O _ (v _ _) (by rw[j]) (by rw[j])
      .simp only[fB h4,ac];by_cases h5:p.1=5
       .have j:stepT s (dB s) at_=(p.2.2.1,uN s (dB s) (zV p) s.length (p.2.1+1)):=by simp_all [stepT]
        have ad:p.2.1+1<=zV p/\zV p<=p.2.2.1:=by
         unfold zV;by_cases A:p.2.2.2.2.1=true
         .grind
         .rw[aq A];have:=u.sh (by simpa using A) (by omega);omega
        simp only[gz h5,aa,adV z u (.inr h5),bT];have af: ∀(q:dC),q=o++h-> ∃m d o',nR bY (zV p) false (p.2.1+1) p.2.2.1 true true (p.1,(p.2.1,(p.2.2.1,(p.2.2.2.1,(p.2.2.2.2.1,()))))) f [] p.1 p.2.1 p.2.2.1 p.2.2.2.1 p.2.2.2.2.1 (dR h) s (dB s) (QY s) i (dR q)=
          a6 (.inl ((m,()),((p.2.2.1,true,true,(p.1,(p.2.1,(p.2.2.1,(p.2.2.2.1,(p.2.2.2.2.1,()))))),()),(f,()),(),(),()),(dR d,(p.1,p.2.1,p.2.2.1,p.2.2.2.1,p.2.2.2.2.1,()),dR h,(),(),(s,dB s,()),QY s,(),(i,()),dR o',(),())))/\
          o'++d=o++h++(stepT s (dB s) at_).2:=by
         intro q hq;obtain⟨m,d,o',B,D,r3⟩:=NS s z (to_:=zV p) (by omega) 10000000000000 (by omega) p.2.2.1 true true (p.1,(p.2.1,(p.2.2.1,(p.2.2.2.1,(p.2.2.2.2.1,()))))) f p.1 p.2.1 p.2.2.1 p.2.2.2.1 p.2.2.2.2.1 (dR h) i bY (p.2.1+1) false [] q (by unfold bY;omega) (by have:=di (n:=s.length) (by omega);omega) (by omega) (by omega) (by grind);refine⟨m,d,o',B, ?_⟩
         grind [NT,bY]
        have tail: ∀(m:Bool) (d o':dC),o'++d=o++h++(stepT s (dB s) at_).2->
          ∃V W,(bif cZ (bV (dR d)) 0 then
            bif m then kL N p.2.2.1 f [] s (dB s) (QY s) i (dR o')
            else bif fG (dR (o'++d)) 1 then kL N p.2.2.1 f [] s (dB s) (QY s) i (dR (o'++d))else a7
           else bif fG (dR (o'++d)) 1 then kL N p.2.2.1 f [] s (dB s) (QY s) i (dR (o'++d))else a7)=
           a6 (.inl ((),((f,()),(),(),()),(dR V,(),(),(s,dB s,()),QY s,(),(i,()),dR W,(),())))/\
           W++V=o++h++((stepT s (dB s) at_).2++nX s (dB s) N (stepT s (dB s) at_).1)/\(W.length:Int)+V.length<=200000000*s.length:=by
         intro m d o' A;have L:=congrArg List.length A;simp only[ae]at L;have aw:fG (dR (o'++d)) 1=true:=KX (by grind);have g1:=go [] (o'++d) p.2.2.1 (by simp_all) (by rw[j]);rw[aw,aa];rcases XZ d with ⟨y,I⟩|⟨y,I⟩
         .rw[dn (gz I)];rw[y,aG]at g1 ⊢;cases m<;>exact g1
         .rw[dY (fB)];exact g1
        by_cases y:h=[]
        .rw[dn (by rw[y];rfl)];obtain⟨m,d,o',B,D⟩:=af o (by simp_all);rw[B,bT];simp only[dX,aa,OC,yA];exact tail m d o' D
        .rw[dY (by simpa [iG] using y)];obtain⟨m,d,o',B,D⟩:=af (o++h) rfl;rw[B,bT];simp only[dX,aa,OC,yA];exact tail m d o' D
       .have j:stepT s (dB s) at_=(p.2.2.1,qx s p):=by simp_all [stepT]
        simp only[fB h5,ac];exact O _ (v _ _) (by rw[j];rfl) (by rw[j])
  .rw[dY (iL (by rw[cu];omega)),aq e]
   grind
theorem aAX (s:dC) (e:s.length<=10000):aiQ s=a6 (Kr s,()):=by
 have l:=EF s;rw[aiQ,aIg s (by omega),bT];simp only;have f:=Yd (dB s) (by omega) s [] s s (dB s) [] bY 0 [] (di) (by omega);rw[show tK bY (dB s) (bV (dB s)) 0 s [] s s (dB s) [] []=_ from f,bT];simp only[dX,List.drop_zero];obtain⟨g,m,i,d,p⟩:=TA s e [] [] bY 0 [] [] (by have:=di (n:=s.length) (by omega);omega) (by omega) (by omega) (by simp);rw[show kL bY 0 [] [] s (dB s) (Qm [] 0 (dB s)) [] []=_ from i,bT];have j:nX s (dB s) bY 0=Kr s:=Jr s _ _ _ (by have:=di (n:=s.length) (by omega);omega) (by omega);rw[j,aQ,aQ]at d;simp only[dX,OC,yA,eU,aa];rw[dn (KX (by grind)),d];by_cases he:g=[]
 .simp_all
 simp_all [dY,iG]
end
section
open Bool renaming false_eq_true → ai, and_true → aj, not_true → au, not_false → aF, not_eq_true → bG
open Int renaming toNat_natCast → aX
open List renaming length_cons → az, drop_eq_getElem_cons → aH, length_drop → aP
open Go.RowKit
theorem aiz {l:List Dlm} (h:l.length<=1000000):uK l=some (l,()):=by
 grind [uK,yD,ug]
theorem aoJ {s:List UInt8} (d:s.length<=10000) {a:Nat} (e:a<s.length):adB s (a:Int)=some (((oU s a:Nat):Int),()):=by
 grind [aFq,oU]
theorem ao9 {s:List UInt8} {a:Nat} (d:a<s.length):nK (s.drop a)≠0↔oW (dm s a)=true\/CE (s.drop a)=true:=by
 grind [byte_at,aH,Ku]
theorem ao0 (t:dC): ∀n,(Kq t n).2≠0->ofF (t.take (Kq t n).2)=(Kq t n).1
 |0,h=>absurd rfl h
 |n+1,h=>by
  rw[Kq]at h ⊢;split
  .rfl
  .rename_i d
   rw[aq d]at h;exact ao0 t n h
theorem av1 {s:List UInt8} (f:s.length<=10000) {a:Nat} (d:a<s.length):axe s (a:Int)=some (jH s a,()):=by
 have e:iy s (a:Int)=true:=fD;obtain⟨k,g,i,u⟩:=aDd (oI s a);have v:=ao9 d
 (rewrite [axe];delta agH;rw[aId (by omega) d,bT,dn e,g,bT])
 simp only[i,e,aa,apR (show a<=s.length by omega),bT,awt (show s.length<1000000 by omega) (show a<=s.length by omega)];by_cases hb:nK (s.drop a)≠0
 .have x:jH s a=(1,(a:Int),((a+nK (s.drop a):Nat):Int),false,()):=by simp_all [jH]
  grind
 .have j:oW (dm s (a:Int))=false:=by
   simp_all
  have l:CE (s.drop a)=false:=by
   simp_all
  rw[j,l,ac,ac];unfold jH;rw[aq hb];by_cases h10:dm s (a:Int)=10
  .rw[dn (gz h10),am h10,dD];rfl
  .rw[dY (fB h10),aq h10];by_cases h35:dm s (a:Int)=35
   .rw[dn (gz h35),am h35,asu (by omega) (by omega),bT]
   .rw[dY (fB h35),aq h35];have m:=(QZ (s.drop a)).1;rw[aP]at m;by_cases hop:(BC (s.drop a)).2≠0
    .rw[dn (fQ),am hop]
     grind [dD]
    .rw[dY (nS),aq hop,atm (by omega) (by omega),bT];by_cases hn:zC (s.drop a)≠0
     .rw[dn (fQ),am hn,bT]
     .rw[dY (nS),aq hn,aoJ f d,bT];have y:=ND (s:=s) (a:=a) (by omega);have z:=Tu (s:=s) (a:=a) (b:=oU s a);obtain⟨t,p,q⟩:=al1 (DZ s a (oU s a)) (by omega);simp only;rw[dn (ig (by omega) (by omega) (by rw[cu];omega)),acD,p,bT];simp only;rw[q];rfl
theorem ao7 {s:List UInt8} (g:s.length<=10000) {a:Nat} (i:a<s.length) {x:NF} (hl:x.2.1.length<=100000):
  axf (sub s (jH s a).2.1 (jH s a).2.2.1) (jH s a).1 (x.1,(x.2.1,(x.2.2.1,())))=some (jZ s a x,()):=by
 rw[axf];simp only[aiz (show x.2.1.length<=1000000 by omega),bT];unfold jH jZ;by_cases hb:nK (s.drop a)≠0
 .rw[am hb,am hb];rfl
 .rw[aq hb,aq hb];by_cases h10:dm s (a:Int)=10
  .have d:iV 0 (bV x.2.1)=decide (0<x.2.1.length):=by
    simp_all [iV,bV]
   rw[am h10,am h10,<-d];rfl
  .rw[aq h10,aq h10];by_cases h35:dm s (a:Int)=35
   .rw[am h35,am h35];rfl
   .rw[aq h35,aq h35];by_cases hop:(BC (s.drop a)).2≠0
    .rw[am hop,am hop];simp only;rw[show cZ 4 1=false from rfl,ac,show cZ 4 2=false from rfl,ac,show cZ 4 4=true from rfl,aa,DC,atp,bT];have:ofF ((s.drop a).take (BC (s.drop a)).2)=(BC (s.drop a)).1:=ao0 _ _ hop;rw[this];simp only;by_cases h4:(BC (s.drop a)).1=4
     .simp_all [gz]
     .rw[dY (fB)];by_cases e:(BC (s.drop a)).1=5
      .simp_all [gz]
      .rw[dY (fB),aq (by omega)]
    .rw[aq hop,aq hop];by_cases hn:zC (s.drop a)≠0
     .rw[am hn,am hn];rfl
     .rw[aq hn,aq hn];have j:=Tu (s:=s) (a:=a) (b:=oU s a);simp only;rw[show cZ 6 1=false from rfl,ac,show cZ 6 2=false from rfl,ac,show cZ 6 4=false from rfl,ac,show cZ 6 6=true from rfl,aa,acD];by_cases h0:x.1=0
      .simp_all [gz]
      .have e:cZ x.1 5=decide (x.1=5):=rfl;have f: ∀y,fG (bZ x.2.1 [y]) 24=true:=fun y=>ug (by grind [bZ]);rw[fB h0,aF,aa,aq h0,aAX _ (by omega),bT];simp only[rV,eU,jl,f,aa,aj];rfl
theorem aA0 {s:List UInt8} (g:s.length<=10000) {a:Nat} (i:a<s.length) (x:NF) (hp:x.2.2.1=true->x.2.1≠[]) (hl:x.2.1.length<=100000):
  axb s (a:Int) x=some ((iC s a x).1,((iC s a x).2,())):=by
 obtain⟨f,e,m,u⟩:=x;cases u;simp only at hp hl
 (rewrite [axb];delta agD agC;rw[dY (nS),dY (Uy (by rw[cu];omega))])
 unfold iC;cases m with
 |true=>
  obtain⟨d,r,rfl⟩: ∃d r,e=d::r:=by
   cases e with
   |nil=>simp_all
   |cons d r=>simp
  simp only[aa,if_true];rw[dn (fQ (by simp_all [cu])),aBP];simp only;rw[dn (fD (by omega) (by simp)),show gW (d::r) ([],(false,())) 0=d from rfl,aBT (by omega) d (by omega),bT];simp only[List.headD_cons];by_cases hh:(rC s d.1 d.2.1 a).2=true
  rotate_left
  .rw[bG]at hh;simp only[hh,ai,if_false,aF,aa,eU,gU,jl,aj,bT]
  .have p:sub (d::r) 1 (bV (d::r))=r:=by simp[sub,cu]
   have q:iV 0 (bV r)=decide (1<(d::r).length):=by
    simp_all [iV,bV]
   have j:gy (bV (d::r)) 1 (bV (d::r))=true:=ig (by omega) (by grind [cu]) (by omega);rw[az]at hl;simp only[hh,if_true,au,ac,j,p,aa,aiz (show r.length<=1000000 by omega),bT,eU,jl,aj,q];rfl
 |false=>
  simp only[ac,ai,if_false];have l:=zJ g i (f,(e,(false,())));have v:iC s a (f,(e,(false,())))=(jH s a,jZ s a (f,(e,(false,())))):=by rfl
  rw[v]at l;simp only at l;rw[av1 g i,bT];simp only;have j:gy (bV s) (jH s a).2.1 (jH s a).2.2.1=true:=ig (by omega) (by omega) (by rw[cu];omega);rw[j,aa,ao7 g i (x:=(f,(e,(false,())))) hl,bT];simp only[rV,eU,jl,gU,aa,aj]
theorem XP {s:List UInt8} (d:s.length<=10000) (f:Int) (g:Bool): ∀(N a:Nat) (l:List Tok) (x:NF) (t:Tok),s.length-a<N->a<=s.length->OkX x->x.2.1.length<=a->l.length<=a->
  yI N (a:Int) t.1 t.2.1 t.2.2.1 t.2.2.2.1 x.1 x.2.1 x.2.2.1 s l x.1 x.2.1 x.2.2.1 f g=
   some (.inl ((),((),(),(),()),((s,()),(),(jF s N a l x).1,((jF s N a l x).2.1,(jF s N a l x).2.2.1,(jF s N a l x).2.2.2.1,()),(),(f,g,()),())))
 |0,a,l,x,t,h,_,_,_,_=>by omega
 |N+1,a,l,x,t,h,v,i,z,A=>by
  rw[yI,Iy,jF];by_cases e:a<s.length
  .have B:=zJ d e x;have p:=VS s a i;have q:(x.1,(x.2.1,(x.2.2.1,())))=x:=rfl;rw[dn (fQ (by rw[cu];omega)),q,aA0 d e x i (by omega),bT,am e];have u: ∀y,fG (bZ l [y]) 32=true:=fun y=>ug (by grind [bZ]);simp only[u,eU,jl,gU,aa,aj];obtain⟨b,j⟩: ∃b:Nat,(iC s a x).1.2.2.1=(b:Int):=⟨(iC s a x).1.2.2.1.toNat,by omega⟩;have m:=XP d f g N b (l++[(iC s a x).1]) (iC s a x).2 (iC s a x).1 (by omega) (by omega) p.1 (by omega) (by grind);rw[j]at m ⊢;rw[aX,<-m];rw[<-j];rfl
  simp_all [iL,cu,aq]
theorem aFu {s:List UInt8} (d:s.length<=10000):aw2 s=some ((gQ s).1,((gQ s).2,())):=by
 have h:=XP d 0 false bY 0 [] (0,[],false,()) (0,0,0,false,()) (di) (by omega) (fun h=>by cases h) (by simp) (by simp);have e:jF s bY 0 [] (0,[],false,())=gQ s:=H7 d _ _ _ _ _ (by have:=di (n:=s.length) (by omega);omega) (by omega);rw[aw2,show yI bY 0 0 0 0 false 0 [] false s [] 0 [] false 0 false=_ from h,bT,e];rfl
end
section
open Bool renaming and_true → aj
open Int renaming toNat_natCast → aX
open List renaming length_append → ae, length_singleton → aA, getElem_mem → aI, length_map → aJ, map_append → aZ, take_of_length_le → bD
open Go.RowKit
theorem LC {s:List UInt8} (u:s.length<=10000) (l:List Tok) (hl:l.length<=10000) (g: ∀t∈l,OkT s t): ∀(N k:Nat),l.length-k<N->k<=l.length->
  FX N s l (bV l) (k:Int) (eH s (l.take k))=some (.inl ((),(eH s l,())))
 |0,k,h,_=>by omega
 |N+1,k,h,hk=>by
  (rewrite [FX,acm];delta Dz wY fE)
  by_cases e:k<l.length
  .have v:gW l (0,(0,(0,(false,())))) (k:Int)=l[k]:=by
    unfold gW;rw[aX,List.getD_eq_getElem?_getD,List.getElem?_eq_getElem e];rfl
   have x:iy l (k:Int)=true:=fD;obtain⟨z,J,K⟩:=g _ (aI e);have A:gy (bV s) l[k].2.1 l[k].2.2.1=true:=ig z (by omega) (by rw[cu];omega);have L:(eH s (l.take k)).length<=10000:=by
    unfold eH;rw[aJ];have:=List.length_filter_le xJ (l.take k);rw[List.length_take]at this;omega
   have B: ∀y,fG (bZ (eH s (l.take k)) [y]) 40=true:=fun y=>ug (by unfold bZ;simp only[ae,aA];omega);have i:=LC u l hl g N (k+1) (by omega) (by omega);have j:l.take (k+1)=l.take k++[l[k]]:=by rw[List.take_add_one,List.getElem?_eq_getElem e];rfl
   have D:dJ .i64 (k:Int) 1=((k+1:Nat):Int):=by rw[dD];omega
   have m:iV l[k].2.1 0=false:=nS;have p:iV l[k].2.2.1 l[k].2.1=false:=nS;have q:iV (bV s) l[k].2.2.1=false:=nS (by rw[cu];omega);have I:aw6 s (l[k].1,(l[k].2.1,(l[k].2.2.1,(l[k].2.2.2.1,()))))=some (sub s l[k].2.1 l[k].2.2.1,()):=by
    rw[aw6];simp only[m,p,q,A,aa,ac]
   have d:xJ l[k]=true->FX N s l (bV l) ((k+1:Nat):Int) (bZ (eH s (l.take k)) [(l[k].1,(sub s l[k].2.1 l[k].2.2.1,(l[k].2.1,(l[k].2.2.1,()))))])=some (.inl ((),(eH s l,()))):=fun f=>by
    rw[<-i];congr 1;unfold eH;rw[j,List.filter_append,aZ,List.filter_cons_of_pos f];rfl
   have no:xJ l[k]=false->FX N s l (bV l) ((k+1:Nat):Int) (eH s (l.take k))=some (.inl ((),(eH s l,()))):=fun f=>by
    rw[<-i];congr 1;unfold eH;rw[j,List.filter_append,List.filter_cons_of_neg (by rw[f];simp)];simp
   rw[dn (fQ (by rw[cu];omega)),x,aa];simp only[v,m,p,q,ac,D,I,bT,eU,rV,jl,aj,aa,B];unfold xJ at d no;by_cases h4:l[k].1=4
   .simp only[gz h4,aa];exact d (by simp[h4])
   .by_cases h5:l[k].1=5
    .simp only[fB h4,gz h5,aa,ac];exact d (by simp[h5])
    .by_cases h6:l[k].1=6
     .simp only[fB h4,fB h5,gz h6,aa,ac];exact d (by simp[h6])
     .by_cases h2:l[k].1=2
      .simp only[fB h4,fB h5,fB h6,gz h2,aa,ac];exact d (by simp[h2])
      .simp only[fB h4,fB h5,fB h6,fB h2,aa,ac];exact no (by simp[h2,h4,h5,h6])
  .rw[dY (iL (by rw[cu];omega)),bD (by omega)]
theorem aoT {s:List UInt8} (d:s.length<=10000):aw3 s (gQ s).1=some (eH s (gQ s).1,()):=by
 obtain⟨e,f,g⟩:=Ee d;have h:=LC d (gQ s).1 (by omega) e bY 0 (di) (by omega);rw[aw3,show FX bY s (gQ s).1 (bV (gQ s).1) 0 []=_ from h,bT];rfl
end
section
open List renaming length_append → ae, length_singleton → aA, length_nil → aY
open Go.RowKit
def wM (l:List Tok):Tok:=l.getLastD (0,(0,(0,(false,()))))
theorem asl:wM []=(0,(0,(0,(false,())))):=rfl
theorem uk (r:List Tok) (t:Tok):wM (r++[t])=t:=by simp[wM]
theorem asj (r:List Tok) (t:Tok) (h:r.length<1000000):iV 0 (bV (r++[t]))=true/\iy (r++[t]) (fO .i64 (bV (r++[t])) 1)=true/\gW (r++[t]) (0,(0,(0,(false,())))) (fO .i64 (bV (r++[t])) 1)=t:=by
 have d:fO .i64 (bV (r++[t])) 1=(r.length:Int):=by
  rw[cu,iH (by simp only[ae,aA];omega) (by simp only[ae,aA];omega)];simp
 rw[d];exact⟨fQ (by rw[cu];simp only[ae,aA];omega),fD (by omega) (by simp only[ae,aA];omega),CY rfl⟩
theorem aE2 {u:List UInt8} (f:u.length<=10000):(wM (gQ u).1).1≠0->0<=(wM (gQ u).1).2.1/\(wM (gQ u).1).2.1<=u.length/\u≠[]:=by
 intro h;rcases List.eq_nil_or_concat (gQ u).1 with e|⟨r,t,e⟩
 .rw[e]at h;exact absurd rfl h
 .rw[List.concat_eq_append]at e;have d:=(Ee f).1 t (by rw[e];simp);rw[e,uk];have g:=d.f0;have j:=d.ft;have i:=d.t1;refine⟨g,by omega, ?_⟩;rintro rfl;simp only[aY]at i;omega
end
end Go.Proofs.YtjegbhogodknhaaGreatDoor
