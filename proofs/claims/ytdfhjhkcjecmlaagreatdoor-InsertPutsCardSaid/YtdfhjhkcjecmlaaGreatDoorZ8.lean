/- Parts of the proof, joined and shortened by a program: the plain machine, the functions as it prints them, and the mathematics over them. -/
import Derived.Test.YtdfhjhkcjecmlaaGreatDoorZ3
import Derived.Test.YtdfhjhkcjecmlaaGreatDoorZ4
import Derived.Test.YtdfhjhkcjecmlaaGreatDoorZ5
set_option linter.unusedVariables false
set_option linter.unusedSimpArgs false
set_option maxRecDepth 100000
set_option maxHeartbeats 4000000
namespace Go.Proofs.YtdfhjhkcjecmlaaGreatDoor
section
open Option renaming some → a6, none → a7
open Bool renaming not_false → az
open Int renaming eq_ofNat_of_zero_le → aV, toNat_natCast → aX
open List renaming append_assoc → ah, length_append → ai, drop_eq_getElem_cons → ay, drop_of_length_le → aB, nil_append → aH, drop_zero → aJ
open Go.RowKit
theorem aqA (t:bU):(dm t).length=t.length:=by simp[dm]
theorem uV (t:bU):ofBytes (dm t)=t:=by simp[ofBytes,dm,Function.comp_def]
theorem kM (a b:bU):cu (dm a) (dm b)=dm (a++b):=by simp[cu,dm]
theorem Ir {s:List UInt8} {i:Int} (e:0<=i) (h:i<s.length):[cO s i]=dm (sub s i (i+1)):=by
 obtain⟨n,rfl⟩:=aV e;have d:n<s.length:=by omega
 rw[show(n:Int)+1=((n+1:Nat):Int) by omega,yN,ay d,List.take_succ_cons,List.take_zero,byte_at d];rfl
theorem aqD (M:List lI) (a b c:Int):nN (wX M a b) c=if c=a then b else nN M c:=by
 unfold nN
 induction M with
 |nil=>
  unfold wX GZ;by_cases h:c=a
  .simp_all [dW]
  .rw[dD (dJ h),aq h];rfl
 |cons e M d=>
  obtain⟨k,v⟩:=e;unfold wX;by_cases h1:a=k
  .rw[bW (dW h1)];subst h1;unfold GZ;by_cases h:c=a
   .simp_all [dW]
   simp_all [dJ]
  .rw[dD (dJ h1)];unfold GZ;by_cases h:c=k
   .grind
   simp_all [dJ]
def H9 (M:List lI):Nat->List kX->List lI
 |_,[]=>M
 |k,p::l=>H9 (wX M p.2.1 ((k+1:Nat):Int)) (k+1) l
theorem MF (c:Int): ∀(l:List kX) (M:List lI) (k:Nat),l.Pairwise (fun p q=>p.2.1<q.2.1)->
  (uC l c=a7/\nN (H9 M k l) c=nN M c)\/(∃p,uC l c=a6 p/\ ∃j,l[j]? =a6 p/\nN (H9 M k l) c=((k+j+1:Nat):Int))
 |[],M,k,_=>.inl ⟨rfl,rfl⟩
 |p::l,M,k,h=>by
  obtain⟨o,i⟩:=List.pairwise_cons.1 h;have g:=MF c l (wX M p.2.1 ((k+1:Nat):Int)) (k+1) i;rw[H9];unfold uC at*;rw[List.find?_cons];by_cases e:p.2.1=c
  .rw[show(p.2.1==c)=true by simpa using e];refine .inr ⟨p,rfl,0,rfl, ?_⟩;rcases g with ⟨d,f⟩|⟨q,d,j,f,m⟩
   .simp_all [aqD]
   grind
  .rw[show(p.2.1==c)=false by simpa using e];rcases g with ⟨d,f⟩|⟨q,d,j,f,m⟩
   .exact .inl ⟨d,by rw[f,aqD,aq (fun h=>e h.symm)]⟩
   .exact .inr ⟨q,d,j+1,f,by omega⟩
def Gj (s:bU):List lI:=H9 [] 0 (bQ s)
theorem OQ {s:List UInt8} {c:Int} (h:uC (bQ s) c=a7):nN (Gj s) c=0:=by
 rcases MF c (bQ s) [] 0 (aaH s)with ⟨_,h2⟩|⟨p,h1,_⟩
 .exact h2
 simp_all
theorem OT {s:List UInt8} (d:s.length<=10000) {c:Int} {p:kX} (h:uC (bQ s) c=a6 p):
  bZ (nN (Gj s) c) 0=false/\fO (bQ s) (dV .i64 (nN (Gj s) c) 1)=true/\dQ (bQ s) (0,(0,(0,(0,(false,()))))) (dV .i64 (nN (Gj s) c) 1)=p:=by
 rcases MF c (bQ s) [] 0 (aaH s)with ⟨h1,_⟩|⟨q,h1,j,h2,h3⟩
 .simp_all
 .rw[h]at h1;cases h1;obtain⟨e,f⟩:=List.getElem?_eq_some_iff.1 h2
  grind [rY,Gj,fV,dJ,ed,dQ]
theorem aaO (L:List kX) (hl:L.length<1000000) (a b c d:bU) (e:List kX) (f:List Int): ∀(N k:Nat) (M:List lI),L.length-k<N->k<=L.length->
  uT N L (bM L) (k:Int) a b c d e M f=a6 (.inl ((),((a,b,c,()),(),()),((d,e,()),H9 M k (L.drop k),(),f,())))
 |0,k,M,h,_=>by omega
 |N+1,k,M,h,hk=>by
  rw[uT,FH];by_cases e1:k<L.length
  .have g:dQ L (0,(0,(0,(0,(false,()))))) (k:Int)=L[k]:=by
    simp_all [dQ]
   rw[bW (eX (by rw[bP];omega)),bW (ed),g,dC,show(k:Int)+1=((k+1:Nat):Int) by omega,
    aaO L hl a b c d e f N (k+1) _ (by omega) (by omega),ay e1,H9]
  .rw[dD (gB (by rw[bP];omega)),aB (by omega)];rfl
theorem acM {p:kX} (d:0<=p.2.1) (e:p.2.1<1000000):Wy (p.1,(p.2.1,(p.2.2.1,(p.2.2.2.1,(p.2.2.2.2.1,())))))=a6 (lone p,()):=by
 rw[Wy,lone];simp only;rw[dC];by_cases h:p.1=12
 .rw[bW (dW h)]
  grind [dW,dJ]
 simp_all [dJ]
theorem NW {s:List UInt8} (v:s.length<=10000) {p:kX} (d:PF s p) (h:p.1=4\/p.1=5):
  agT (p.1,(p.2.1,(p.2.2.1,(p.2.2.2.1,(p.2.2.2.2.1,())))))=a6 (p.2.1+1,(nK p,())):=by
 have g:=d.f0;have i:=d.f1;have j:=d.t0;have l:=d.t1;have e:=d.sh;obtain⟨m,f,t,u,o,⟨⟩⟩:=p;have q:agT (m,(f,(t,(u,(o,())))))=bif o then a6 (bY .i64 f 1,(EN (dV .i64 t 0) (bY .i64 f 1),()))else a6 (bY .i64 f 1,(EN (dV .i64 t 1) (bY .i64 f 1),())):=by
  rcases h with h|h
  .simp only at h;subst h;rfl
  .simp only at h;subst h;rfl
 simp only at g i j l e h ⊢;rw[q];unfold nK EN;cases o with
 |true=>rw[aa,dC,fV,Int.sub_zero,aq (by omega)];rfl
 |false=>
  have:=e rfl (by omega);rw[ac,dC,fV,aq (by omega)];rfl
theorem tX {a:List UInt8} (h:a.length<=140737488355328):eH (dm a) 1=true:=oO (by rw[aqA];omega)
theorem QL (h:bU):(h=[]/\bM (dm h)=0)\/(h≠[]/\0<bM (dm h)):=by
 rw[bP,aqA];cases h with
 |nil=>simp
 |cons a l=>simp
theorem P5 (s:bU) (M:s.length<=10000) {to_:Int} (U:to_<=s.length) (B:Int) (V:B<=10000000000000) (i:Int) (j m:Bool) (q:kX) (u:bU) (v x y z:Int) (A:Bool) (D:List Int) (E:bU):
  ∀(N:Nat) (at_:Int) (J:Bool) (h o:bU),0<N->to_-at_<N->0<=at_->at_<=s.length->(o.length:Int)+h.length<=B+10000*at_->
  ∃G d o',lS N to_ J at_ i j m q u (dm h) v x y z A D s (bQ s) (Gj s) E (dm o)=
   a6 (.inl ((G,()),((i,j,m,q,()),(u,()),(),(),()),(dm d,(v,x,y,z,A,()),D,(),(),(s,bQ s,()),Gj s,(),(E,()),dm o',(),())))/\
   o'++d=o++h++qf s (bQ s) to_ N at_/\(o'.length:Int)+d.length<=B+10000*s.length
 |0,at_,J,h,o,hN,_,_,_,_=>by omega
 |N+1,at_,J,h,o,hN,ak,K,h1,hh=>by
  (rewrite [lS,Bi];delta oD oC kT iZ fP;rw[qf])
  by_cases e:at_<to_
  .have al:= @Ii s at_;have an:=JF s (bQ s) at_;have W: ∀(c:bU) (g:Int),c=(gI s (bQ s) at_).2.1->g=(gI s (bQ s) at_).1->g<=s.length->
     ∃G d o',(bif eH (dm (h++c)) 1 then lS N to_ J g i j m q u (dm (h++c)) v x y z A D s (bQ s) (Gj s) E (dm o)else a7)=
      a6 (.inl ((G,()),((i,j,m,q,()),(u,()),(),(),()),(dm d,(v,x,y,z,A,()),D,(),(),(s,bQ s,()),Gj s,(),(E,()),dm o',(),())))/\
      o'++d=o++h++((gI s (bQ s) at_).2.1++qf s (bQ s) to_ N (gI s (bQ s) at_).1)/\(o'.length:Int)+d.length<=B+10000*s.length:=by
    intro c g hc O S;subst hc O;rw[bW (tX (by grind))];obtain⟨G,d,o',X,r2,Y⟩:=P5 s M U B V i j m q u v x y z A D E N (gI s (bQ s) at_).1 J (h++(gI s (bQ s) at_).2.1) o (by omega) (by omega) (by omega) S (by grind)
    grind
   have push: ∀(l:bU) (g:Int),l=o++h++(gI s (bQ s) at_).2.1->g=(gI s (bQ s) at_).1->g<=s.length->
     ∃G d o',(bif eH (dm l) 1 then lS N to_ true g i j m q u [] v x y z A D s (bQ s) (Gj s) E (dm l)else a7)=
      a6 (.inl ((G,()),((i,j,m,q,()),(u,()),(),(),()),(dm d,(v,x,y,z,A,()),D,(),(),(s,bQ s,()),Gj s,(),(E,()),dm o',(),())))/\
      o'++d=o++h++((gI s (bQ s) at_).2.1++qf s (bQ s) to_ N (gI s (bQ s) at_).1)/\(o'.length:Int)+d.length<=B+10000*s.length:=by
    intro l g L O S;subst L O;rw[bW (tX (by grind))];obtain⟨G,d,o',X,r2,Y⟩:=P5 s M U B V i j m q u v x y z A D E N (gI s (bQ s) at_).1 true [] (o++h++(gI s (bQ s) at_).2.1) (by omega) (by omega) (by omega) S (by grind);refine⟨G,d,o',X, ?_,Y⟩;simp_all
   have Z:bY .i64 at_ 1=at_+1:=dC;rw[bW (eX e),am e];cases hf:uC (bQ s) at_ with
   |none=>
    have f:gI s (bQ s) at_=(at_+1,sub s at_ (at_+1),false):=by unfold gI;rw[hf]
    rw[OQ hf,show bZ 0 0=true from rfl,aa,bW (ed K (by omega)),Ir K (by omega),kM,Z]
    grind
   |some p=>
    obtain⟨I,ao⟩:=tV hf;have t0:=I.t0;have t1:=I.t1;obtain⟨m1,m2,m3⟩:=OT M hf;rw[m1,ac,m2,aa];simp only[m3];rw[acM I.f0 (by omega),bJ];by_cases hlone:lone p=true
    .have f:gI s (bQ s) at_=(at_+1,sub s at_ (at_+1),false):=by simp_all [gI]
     rw[hlone,aa,bW (ed K (by omega)),Ir K (by omega),kM,Z]
     grind
    .rw[show lone p=false by simpa using hlone,ac];have ab:dV .i64 p.2.2.1 p.2.1=p.2.2.1-p.2.1:=fV;have ad:bY .i64 p.2.1 1=p.2.1+1:=dC;simp only[ab,ad,kM];by_cases h13:p.1=13
     .have au:=I.es h13;have f:gI s (bQ s) at_=(p.2.2.1,Nw s p,false):=by simp_all [gI]
      rw[bW (dW h13)];by_cases hto2:p.2.2.1=p.2.1+2
      .rw[dD (jq),bW (ed)];have ae:Nw s p=(if cO s (p.2.1+1)=36\/cO s (p.2.1+1)=96\/cO s (p.2.1+1)=34\/cO s (p.2.1+1)=92 then sub s (p.2.1+1) p.2.2.1
         else if cO s (p.2.1+1)=10 then []else mX s p):=by
        simp_all [Nw]
       have af:ofBytes [cO s (p.2.1+1)]=sub s (p.2.1+1) p.2.2.1:=by
        grind [Ir,uV]
       simp only[af];by_cases b1:cO s (p.2.1+1)=36
       .simp_all [dW]
       .rw[dD (dJ b1)];by_cases b2:cO s (p.2.1+1)=96
        .simp_all [dW]
        .rw[dD (dJ b2)];by_cases b3:cO s (p.2.1+1)=34
         .simp_all [dW]
         .rw[dD (dJ b3)];by_cases b4:cO s (p.2.1+1)=92
          .simp_all [dW]
          .rw[dD (dJ b4)];have ag: ¬(cO s (p.2.1+1)=36\/cO s (p.2.1+1)=96\/cO s (p.2.1+1)=34\/cO s (p.2.1+1)=92):=by omega
           by_cases b5:cO s (p.2.1+1)=10
           .rw[bW (dW b5)]
            grind
           .rw[dD (dJ b5),bW (eU I.f0 (by omega) (by rw[bP];omega))];exact W _ _ (by rw[f,ae,aq ag,aq b5];rfl) (by rw[f]) (by omega)
      .rw[bW (eX)];exact W _ _ (by simp_all [Nw]) (by rw[f]) (by omega)
     .have f:gI s (bQ s) at_=(p.2.2.1,mX s p,true):=by simp_all [gI]
      rw[dD (dJ h13)];have aj:dZ (bM s) p.2.1 p.2.2.1=true:=eU I.f0 (by omega) (by rw[bP];omega);simp only[uV,kM,aj,aa];rcases QL h with ⟨he,L⟩|⟨he,L⟩
      .subst he;rw[dD (jq)];exact push _ _ (by rw[f,List.append_nil];rfl) (by rw[f]) (by omega)
      .rw[bW (eX L),bW (tX (by grind))];exact push _ _ (by rw[f];rfl) (by rw[f]) (by omega)
  .rw[dD (gB e),aq e]
   grind
theorem V7 (s:bU) (z:s.length<=10000) (f i:bU): ∀(N:Nat) (at_:Int) (h o:bU),(s.length:Int)-at_<N->0<=at_->at_<=s.length->(o.length:Int)+h.length<=200000000*at_->
  ∃d o',jK N at_ f (dm h) s (bQ s) (Gj s) i (dm o)=
   a6 (.inl ((),((f,()),(),(),()),(dm d,(),(),(s,bQ s,()),Gj s,(),(i,()),dm o',(),())))/\
   o'++d=o++h++kC s (bQ s) N at_/\(o'.length:Int)+d.length<=200000000*s.length
 |0,at_,h,o,hN,_,_,_=>by omega
 |N+1,at_,h,o,hN,h0,h1,hh=>by
  (rewrite [jK,Bh];delta wu wo vZ vY vX iR kS kQ qU dH;rw[kC])
  by_cases e:at_<s.length
  .have aw:= @Ij s at_;have ae:=Yu (s:=s) e;have ax:(stepT s (bQ s) at_).2.length<=100010000:=by
    have h1:=JG s (bQ s) at_;have h2:s.length*s.length<=10000*10000:=Nat.mul_le_mul z z;omega
   have go: ∀(g l:bU) (J:Int),l++g=o++h++(stepT s (bQ s) at_).2->J=(stepT s (bQ s) at_).1->
     ∃d o',jK N J f (dm g) s (bQ s) (Gj s) i (dm l)=
      a6 (.inl ((),((f,()),(),(),()),(dm d,(),(),(s,bQ s,()),Gj s,(),(i,()),dm o',(),())))/\
      o'++d=o++h++((stepT s (bQ s) at_).2++kC s (bQ s) N (stepT s (bQ s) at_).1)/\(o'.length:Int)+d.length<=200000000*s.length:=by
    intro g l J E G;subst G;have K:=congrArg List.length E;simp only[ai]at K;obtain⟨d,o',B,D,r3⟩:=V7 s z f i N (stepT s (bQ s) at_).1 g l (by omega) (by omega) ae (by omega)
    grind
   have af: ∀x:bU,x.length<=200000000->eH (dm (h++x)) 1=true:=fun x L=>tX (by grind);have W: ∀x:bU,x.length<=200000000->eH (dm (o++x)) 1=true:=fun x L=>tX (by grind);have ag:eH (dm (o++h)) 1=true:=tX (by grind);have X: ∀x:bU,x.length<=200000000->eH (dm (o++h++x)) 1=true:=fun x L=>tX (by grind);have aA:bY .i64 at_ 1=at_+1:=dC;have v: ∀a b,(sub s a b).length<=200000000:=fun a b=>by grind [FP]
   rw[bW (eX (b:=bM s) e),am e];cases hf:uC (bQ s) at_ with
   |none=>
    have j:stepT s (bQ s) at_=(at_+1,sub s at_ (at_+1)):=by unfold stepT;rw[hf]
    rw[OQ hf,show bZ 0 0=true from rfl,aa];simp_all [Ir,kM,ed,kZ,fD]
   |some p=>
    obtain⟨u,aF⟩:=tV hf;have t0:=u.t0;have t1:=u.t1;obtain⟨m1,m2,m3⟩:=OT z hf;have aj:dZ (bM s) p.2.1 p.2.2.1=true:=eU u.f0 (by omega) (by rw[bP];omega);have ak:dZ (bM s) (p.2.1+1) p.2.2.1=true:=eU (by omega) (by omega) (by rw[bP];omega);have al:bY .i64 p.2.1 1=p.2.1+1:=dC;rw[m1,ac,m2,aa];simp only[m3];rw[acM u.f0 (by omega),bJ];simp only[al,aj,ak,uV,kM,aa,af _ (v _ _),W _ (v _ _),X _ (v _ _),ag];have M: ∀(x:bU),x.length<=200000000->x=(stepT s (bQ s) at_).2->p.2.2.1=(stepT s (bQ s) at_).1->
     ∃d o',(bif gm h []then jK N p.2.2.1 f [] s (bQ s) (Gj s) i (dm (o++x))
      else jK N p.2.2.1 f [] s (bQ s) (Gj s) i (dm (o++h++x)))=
      a6 (.inl ((),((f,()),(),(),()),(dm d,(),(),(s,bQ s,()),Gj s,(),(i,()),dm o',(),())))/\
      o'++d=o++h++((stepT s (bQ s) at_).2++kC s (bQ s) N (stepT s (bQ s) at_).1)/\(o'.length:Int)+d.length<=200000000*s.length:=by
     intro x L Y G;by_cases y:h=[]
     .subst y;rw[bW (by rfl)];exact go [] _ _ (by rw[<-Y];simp) G
     .rw[dD (by simpa [gm] using y)];exact go [] _ _ (by rw[<-Y];simp) G
    by_cases hpl':lone p=true\/p.1=14
    .have j:stepT s (bQ s) at_=(p.2.2.1,mX s p):=by simp_all [stepT]
     have:=go (h++sub s p.2.1 p.2.2.1) o p.2.2.1 (by rw[j,ah];rfl) (by rw[j]);by_cases I:lone p=true
     .simp_all
     .have O:p.1=14:=hpl'.resolve_left I;simp only[show lone p=false by simpa using I,O,show bZ 14 14=true from rfl,aa,ac];exact this
    .have I:lone p=false:=by
      simp_all
     have O:p.1≠14:=fun h=>hpl' (.inr h);simp only[I,dJ O,ac];by_cases h13:p.1=13
     .have aG:=u.es h13;have j:stepT s (bQ s) at_=(p.2.2.1,Ny s p):=by simp_all [stepT]
      simp only[dW h13,dJ (show p.1≠4 by omega),aa,ac];by_cases hto2:p.2.2.1=p.2.1+2
      .have S:sub s (p.2.1+1) p.2.2.1=[s.getD (p.2.1+1).toNat 0]:=by
        obtain⟨n,hn⟩:=aV (show 0<=p.2.1+1 by omega);have Z:n<s.length:=by omega
        rw[hn,show p.2.2.1=((n+1:Nat):Int) by omega,yN,ay Z,List.take_succ_cons,List.take_zero,aX,List.getD_eq_getElem?_getD,List.getElem?_eq_getElem Z];rfl
       have an:gm (sub s (p.2.1+1) p.2.2.1) []=false:=by rw[S];simp[gm]
       rw[an,az,aa];by_cases b5:cO s (p.2.1+1)=10
       .have:gm (sub s (p.2.1+1) p.2.2.1) [10]=true:=by
         rw[S];unfold cO at b5;have ao:s.getD (p.2.1+1).toNat 0=10:=UInt8.toNat_inj.1 (by show _=10;omega);rw[ao];rfl
        simp_all [Ny]
       .have:gm (sub s (p.2.1+1) p.2.2.1) [10]=false:=by
         rw[S];have hq:s.getD (p.2.1+1).toNat 0≠10:=fun h=>b5 (by unfold cO;rw[h];rfl);simpa [gm] using hq
        rw[this,az,aa];exact M _ (v _ _) (by simp_all [Ny]) (by rw[j])
      .have au:sub s (p.2.1+1) p.2.2.1=[]:=by
        grind [sub]
       rw[au,show(!gm ([]:bU) [])=false from rfl,ac];simp_all [Ny]
     .simp only[dJ h13,ac];by_cases h4:p.1=4
      .have j:stepT s (bQ s) at_=(p.2.2.1,sub s (p.2.1+1) (nK p)):=by simp_all [stepT]
       have ab:p.2.1+1<=nK p/\nK p<=p.2.2.1:=by
        unfold nK;by_cases A:p.2.2.2.2.1=true
        .grind
        .rw[aq A];have:=u.sh (by simpa using A) (by omega);omega
       simp only[dW h4,aa];rw[NW z u (.inl h4),bJ];simp only[eU (n:=bM s) (lo:=p.2.1+1) (hi:=nK p) (by omega) ab.1 (by rw[bP];omega),aa,W _ (v _ _),X _ (v _ _)];exact M _ (v _ _) (by rw[j]) (by rw[j])
      .simp only[dJ h4,ac];by_cases h5:p.1=5
       .have j:stepT s (bQ s) at_=(p.2.2.1,qf s (bQ s) (nK p) s.length (p.2.1+1)):=by simp_all [stepT]
        have ab:p.2.1+1<=nK p/\nK p<=p.2.2.1:=by
         unfold nK;by_cases A:p.2.2.2.2.1=true
         .grind
         .rw[aq A];have:=u.sh (by simpa using A) (by omega);omega
        simp only[dW h5,aa,NW z u (.inr h5),bJ];have ad: ∀(q:bU),q=o++h-> ∃m d o',lS bV (nK p) false (p.2.1+1) p.2.2.1 true true (p.1,(p.2.1,(p.2.2.1,(p.2.2.2.1,(p.2.2.2.2.1,()))))) f [] p.1 p.2.1 p.2.2.1 p.2.2.2.1 p.2.2.2.2.1 (dm h) s (bQ s) (Gj s) i (dm q)=
          a6 (.inl ((m,()),((p.2.2.1,true,true,(p.1,(p.2.1,(p.2.2.1,(p.2.2.2.1,(p.2.2.2.2.1,()))))),()),(f,()),(),(),()),(dm d,(p.1,p.2.1,p.2.2.1,p.2.2.2.1,p.2.2.2.2.1,()),dm h,(),(),(s,bQ s,()),Gj s,(),(i,()),dm o',(),())))/\
          o'++d=o++h++(stepT s (bQ s) at_).2:=by
         intro q hq;obtain⟨m,d,o',B,D,r3⟩:=P5 s z (to_:=nK p) (by omega) 10000000000000 (by omega) p.2.2.1 true true (p.1,(p.2.1,(p.2.2.1,(p.2.2.2.1,(p.2.2.2.2.1,()))))) f p.1 p.2.1 p.2.2.1 p.2.2.2.1 p.2.2.2.2.1 (dm h) i bV (p.2.1+1) false [] q (by unfold bV;omega) (by have:=dI (n:=s.length) (by omega);omega) (by omega) (by omega) (by grind);refine⟨m,d,o',B, ?_⟩
         grind [IJ,bV]
        have tail: ∀(m:Bool) (d o':bU),o'++d=o++h++(stepT s (bQ s) at_).2->
          ∃U V,(bif bZ (bM (dm d)) 0 then
            bif m then jK N p.2.2.1 f [] s (bQ s) (Gj s) i (dm o')
            else bif eH (dm (o'++d)) 1 then jK N p.2.2.1 f [] s (bQ s) (Gj s) i (dm (o'++d))else a7
           else bif eH (dm (o'++d)) 1 then jK N p.2.2.1 f [] s (bQ s) (Gj s) i (dm (o'++d))else a7)=
           a6 (.inl ((),((f,()),(),(),()),(dm U,(),(),(s,bQ s,()),Gj s,(),(i,()),dm V,(),())))/\
           V++U=o++h++((stepT s (bQ s) at_).2++kC s (bQ s) N (stepT s (bQ s) at_).1)/\(V.length:Int)+U.length<=200000000*s.length:=by
         intro m d o' A;have K:=congrArg List.length A;simp only[ai]at K;have av:eH (dm (o'++d)) 1=true:=tX (by grind);have g1:=go [] (o'++d) p.2.2.1 (by simp_all) (by rw[j]);rw[av,aa];rcases QL d with ⟨y,E⟩|⟨y,E⟩
         .rw[bW (dW E)];rw[y,List.append_nil]at g1 ⊢;cases m<;>exact g1
         .rw[dD (dJ)];exact g1
        by_cases y:h=[]
        .rw[bW (by rw[y];rfl)];obtain⟨m,d,o',B,D⟩:=ad o (by simp_all);rw[B,bJ];simp only[dO,aa,uV,kM];exact tail m d o' D
        .rw[dD (by simpa [gm] using y)];obtain⟨m,d,o',B,D⟩:=ad (o++h) rfl;rw[B,bJ];simp only[dO,aa,uV,kM];exact tail m d o' D
       .have j:stepT s (bQ s) at_=(p.2.2.1,mX s p):=by simp_all [stepT]
        simp only[dJ h5,ac];exact M _ (v _ _) (by rw[j];rfl) (by rw[j])
  .rw[dD (gB (by rw[bP];omega)),aq e]
   grind
theorem aH1 (s:bU) (e:s.length<=10000):ang s=a6 (CW s,()):=by
 have j:=rY s;rw[ang,aH6 s (by omega),bJ];simp only;have f:=aaO (bQ s) (by omega) s [] s s (bQ s) [] bV 0 [] (dI) (by omega);rw[show uT bV (bQ s) (bM (bQ s)) 0 s [] s s (bQ s) [] []=_ from f,bJ];simp only[dO,aJ];obtain⟨g,l,h,d,m⟩:=V7 s e [] [] bV 0 [] [] (by have:=dI (n:=s.length) (by omega);omega) (by omega) (by omega) (by simp);rw[show jK bV 0 [] [] s (bQ s) (H9 [] 0 (bQ s)) [] []=_ from h,bJ];have i:kC s (bQ s) bV 0=CW s:=D9 s _ _ _ (by have:=dI (n:=s.length) (by omega);omega) (by omega);rw[i,aH,aH]at d;simp only[dO,uV,kM,fD,aa];rw[bW (tX (by grind)),d];by_cases he:g=[]
 .simp_all
 simp_all [dD,gm]
end
section
open Bool renaming false_eq_true → ag, not_true → ak, not_false → az, and_true → aA, not_eq_true → bg
open Int renaming toNat_natCast → aX
open List renaming drop_eq_getElem_cons → ay, length_cons → aS, length_drop → aU
open Go.RowKit
theorem amJ {l:List Dlm} (h:l.length<=1000000):uG l=some (l,()):=by
 grind [uG,yD,oO]
theorem atG {s:List UInt8} (d:s.length<=10000) {a:Nat} (e:a<s.length):agZ s (a:Int)=some (((xq s a:Nat):Int),()):=by
 grind [aMl,xq]
theorem aui {s:List UInt8} {a:Nat} (d:a<s.length):yT (s.drop a)≠0↔tC (cO s a)=true\/CY (s.drop a)=true:=by
 grind [byte_at,ay,Nb]
theorem aua (t:bU): ∀n,(Ua t n).2≠0->Zg (t.take (Ua t n).2)=(Ua t n).1
 |0,h=>absurd rfl h
 |n+1,h=>by
  rw[Ua]at h ⊢;split
  .rfl
  .rename_i d
   rw[aq d]at h;exact aua t n h
theorem aCa {s:List UInt8} (f:s.length<=10000) {a:Nat} (d:a<s.length):am3 s (a:Int)=some (kJ s a,()):=by
 have e:fO s (a:Int)=true:=ed;obtain⟨k,g,h,p⟩:=aKx (nz s a);have q:=aui d
 (rewrite [am3];delta acg;rw[aPe (by omega) d,bJ,bW e,g,bJ])
 simp only[h,e,aa,au6 (show a<=s.length by omega),bJ,aCz (show s.length<1000000 by omega) (show a<=s.length by omega)];by_cases hb:yT (s.drop a)≠0
 .have u:kJ s a=(1,(a:Int),((a+yT (s.drop a):Nat):Int),false,()):=by simp_all [kJ]
  grind
 .have i:tC (cO s (a:Int))=false:=by
   simp_all
  have j:CY (s.drop a)=false:=by
   simp_all
  rw[i,j,ac,ac];unfold kJ;rw[aq hb];by_cases h10:cO s (a:Int)=10
  .rw[bW (dW h10),am h10,dC];rfl
  .rw[dD (dJ h10),aq h10];by_cases h35:cO s (a:Int)=35
   .rw[bW (dW h35),am h35,ayl (by omega) (by omega),bJ]
   .rw[dD (dJ h35),aq h35];have l:=(Ul (s.drop a)).1;rw[aU]at l;by_cases hop:(EP (s.drop a)).2≠0
    .rw[bW (eX),am hop]
     grind [dC]
    .rw[dD (jq),aq hop,azd (by omega) (by omega),bJ];by_cases hn:EO (s.drop a)≠0
     .rw[bW (eX),am hn,bJ]
     .rw[dD (jq),aq hn,atG f d,bJ];have v:=YT (s:=s) (a:=a) (by omega);have x:=V5 (s:=s) (a:=a) (b:=xq s a);obtain⟨t,m,o⟩:=aqE (abU s a (xq s a)) (by omega);simp only;rw[bW (eU (by omega) (by omega) (by rw[bP];omega)),afM,m,bJ];simp only;rw[o];rfl
theorem aug {s:List UInt8} (g:s.length<=10000) {a:Nat} (h:a<s.length) {x:Lxg} (hl:x.2.1.length<=100000):
  am4 (sub s (kJ s a).2.1 (kJ s a).2.2.1) (kJ s a).1 (x.1,(x.2.1,(x.2.2.1,())))=some (mO s a x,()):=by
 rw[am4];simp only[amJ (show x.2.1.length<=1000000 by omega),bJ];unfold kJ mO;by_cases hb:yT (s.drop a)≠0
 .rw[am hb,am hb];rfl
 .rw[aq hb,aq hb];by_cases h10:cO s (a:Int)=10
  .have d:gU 0 (bM x.2.1)=decide (0<x.2.1.length):=by
    simp_all [gU,bM]
   rw[am h10,am h10,<-d];rfl
  .rw[aq h10,aq h10];by_cases h35:cO s (a:Int)=35
   .rw[am h35,am h35];rfl
   .rw[aq h35,aq h35];by_cases hop:(EP (s.drop a)).2≠0
    .rw[am hop,am hop];simp only;rw[show bZ 4 1=false from rfl,ac,show bZ 4 2=false from rfl,ac,show bZ 4 4=true from rfl,aa,yN,akI,bJ];have:Zg ((s.drop a).take (EP (s.drop a)).2)=(EP (s.drop a)).1:=aua _ _ hop;rw[this];simp only;by_cases h4:(EP (s.drop a)).1=4
     .simp_all [dW]
     .rw[dD (dJ)];by_cases e:(EP (s.drop a)).1=5
      .simp_all [dW]
      .rw[dD (dJ),aq (by omega)]
    .rw[aq hop,aq hop];by_cases hn:EO (s.drop a)≠0
     .rw[am hn,am hn];rfl
     .rw[aq hn,aq hn];have i:=V5 (s:=s) (a:=a) (b:=xq s a);simp only;rw[show bZ 6 1=false from rfl,ac,show bZ 6 2=false from rfl,ac,show bZ 6 4=false from rfl,ac,show bZ 6 6=true from rfl,aa,afM];by_cases h0:x.1=0
      .simp_all [dW]
      .have e:bZ x.1 5=decide (x.1=5):=rfl;have f: ∀y,eH (cu x.2.1 [y]) 24=true:=fun y=>oO (by grind [cu]);rw[dJ h0,az,aa,aq h0,aH1 _ (by omega),bJ];simp only[kZ,fD,iM,f,aa,aA];rfl
theorem atZ {s:List UInt8} (g:s.length<=10000) {a:Nat} (h:a<s.length) (x:Lxg) (hp:x.2.2.1=true->x.2.1≠[]) (hl:x.2.1.length<=100000):
  agL s (a:Int) x=some ((ku s a x).1,((ku s a x).2,())):=by
 obtain⟨f,e,l,u⟩:=x;cases u;simp only at hp hl
 (rewrite [agL];delta ab8 ab7;rw[dD (jq),dD (SB (by rw[bP];omega))])
 unfold ku;cases l with
 |true=>
  obtain⟨d,r,rfl⟩: ∃d r,e=d::r:=by
   cases e with
   |nil=>simp_all
   |cons d r=>simp
  simp only[aa,if_true];rw[bW (eX (by simp_all [bP])),aw5];simp only;rw[bW (ed (by omega) (by simp)),show dQ (d::r) ([],(false,())) 0=d from rfl,aI1 (by omega) d (by omega),bJ];simp only[List.headD_cons];by_cases hh:(F5 s d.1 d.2.1 a).2=true
  rotate_left
  .rw[bg]at hh;simp only[hh,ag,if_false,az,aa,fD,iy,iM,aA,bJ]
  .have m:sub (d::r) 1 (bM (d::r))=r:=by simp[sub,bP]
   have o:gU 0 (bM r)=decide (1<(d::r).length):=by
    simp_all [gU,bM]
   have i:dZ (bM (d::r)) 1 (bM (d::r))=true:=eU (by omega) (by grind [bP]) (by omega);rw[aS]at hl;simp only[hh,if_true,ak,ac,i,m,aa,amJ (show r.length<=1000000 by omega),bJ,fD,iM,aA,o];rfl
 |false=>
  simp only[ac,ag,if_false];have j:=uw g h (f,(e,(false,())));have p:ku s a (f,(e,(false,())))=(kJ s a,mO s a (f,(e,(false,())))):=by rfl
  rw[p]at j;simp only at j;rw[aCa g h,bJ];simp only;have i:dZ (bM s) (kJ s a).2.1 (kJ s a).2.2.1=true:=eU (by omega) (by omega) (by rw[bP];omega);rw[i,aa,aug g h (x:=(f,(e,(false,())))) hl,bJ];simp only[kZ,fD,iM,iy,aa,aA]
theorem aas {s:List UInt8} (d:s.length<=10000) (f:Int) (g:Bool): ∀(N a:Nat) (l:List Tok) (x:Lxg) (t:Tok),s.length-a<N->a<=s.length->OkX x->x.2.1.length<=a->l.length<=a->
  uU N (a:Int) t.1 t.2.1 t.2.2.1 t.2.2.2.1 x.1 x.2.1 x.2.2.1 s l x.1 x.2.1 x.2.2.1 f g=
   some (.inl ((),((),(),(),()),((s,()),(),(uQ s N a l x).1,((uQ s N a l x).2.1,(uQ s N a l x).2.2.1,(uQ s N a l x).2.2.2.1,()),(),(f,g,()),())))
 |0,a,l,x,t,h,_,_,_,_=>by omega
 |N+1,a,l,x,t,h,u,i,v,z=>by
  rw[uU,FO,uQ];by_cases e:a<s.length
  .have A:=uw d e x;have o:=Yv s a i;have p:(x.1,(x.2.1,(x.2.2.1,())))=x:=rfl;rw[bW (eX (by rw[bP];omega)),p,atZ d e x i (by omega),bJ,am e];have q: ∀y,eH (cu l [y]) 32=true:=fun y=>oO (by grind [cu]);simp only[q,fD,iM,iy,aa,aA];obtain⟨b,j⟩: ∃b:Nat,(ku s a x).1.2.2.1=(b:Int):=⟨(ku s a x).1.2.2.1.toNat,by omega⟩;have m:=aas d f g N b (l++[(ku s a x).1]) (ku s a x).2 (ku s a x).1 (by omega) (by omega) o.1 (by omega) (by grind);rw[j]at m ⊢;rw[aX,<-m];rw[<-j];rfl
  simp_all [gB,bP,aq]
theorem aMn {s:List UInt8} (d:s.length<=10000):aDb s=some ((rV s).1,((rV s).2,())):=by
 have h:=aas d 0 false bV 0 [] (0,[],false,()) (0,0,0,false,()) (dI) (by omega) (fun h=>by cases h) (by simp) (by simp);have e:uQ s bV 0 [] (0,[],false,())=rV s:=Qp d _ _ _ _ _ (by have:=dI (n:=s.length) (by omega);omega) (by omega);rw[aDb,show uU bV 0 0 0 0 false 0 [] false s [] 0 [] false 0 false=_ from h,bJ,e];rfl
end
section
open Bool renaming and_true → aA
open Int renaming toNat_natCast → aX
open List renaming length_append → ai, getElem_mem → aF, length_singleton → aI, length_map → aP, length_take → aZ
open Go.RowKit
theorem Oc {s:List UInt8} (u:s.length<=10000) (l:List Tok) (hl:l.length<=10000) (g: ∀t∈l,OkT s t): ∀(N k:Nat),l.length-k<N->k<=l.length->
  Aw N s l (bM l) (k:Int) (jD s (l.take k))=some (.inl ((),(jD s l,())))
 |0,k,h,_=>by omega
 |N+1,k,h,hk=>by
  (rewrite [Aw,UU];delta yK sQ sO fF)
  by_cases e:k<l.length
  .have v:dQ l (0,(0,(0,(false,())))) (k:Int)=l[k]:=by
    unfold dQ;rw[aX,List.getD_eq_getElem?_getD,List.getElem?_eq_getElem e];rfl
   have x:fO l (k:Int)=true:=ed;obtain⟨z,G,I⟩:=g _ (aF e);have A:dZ (bM s) l[k].2.1 l[k].2.2.1=true:=eU z (by omega) (by rw[bP];omega);have J:(jD s (l.take k)).length<=10000:=by
    unfold jD;rw[aP];have:=List.length_filter_le ahj (l.take k);rw[aZ]at this;omega
   have B: ∀y,eH (cu (jD s (l.take k)) [y]) 40=true:=fun y=>oO (by unfold cu;simp only[ai,aI];omega);have i:=Oc u l hl g N (k+1) (by omega) (by omega);have j:l.take (k+1)=l.take k++[l[k]]:=by rw[List.take_add_one,List.getElem?_eq_getElem e];rfl
   have D:bY .i64 (k:Int) 1=((k+1:Nat):Int):=by rw[dC];omega
   have m:gU l[k].2.1 0=false:=jq;have o:gU l[k].2.2.1 l[k].2.1=false:=jq;have p:gU (bM s) l[k].2.2.1=false:=jq (by rw[bP];omega);have E:am7 s (l[k].1,(l[k].2.1,(l[k].2.2.1,(l[k].2.2.2.1,()))))=some (sub s l[k].2.1 l[k].2.2.1,()):=by
    rw[am7];simp only[m,o,p,A,aa,ac]
   have d:ahj l[k]=true->Aw N s l (bM l) ((k+1:Nat):Int) (cu (jD s (l.take k)) [(l[k].1,(sub s l[k].2.1 l[k].2.2.1,(l[k].2.1,(l[k].2.2.1,()))))])=some (.inl ((),(jD s l,()))):=fun f=>by
    rw[<-i];congr 1;unfold jD;rw[j,List.filter_append,List.map_append,List.filter_cons_of_pos f];rfl
   have q:ahj l[k]=false->Aw N s l (bM l) ((k+1:Nat):Int) (jD s (l.take k))=some (.inl ((),(jD s l,()))):=fun f=>by
    rw[<-i];congr 1;unfold jD;rw[j,List.filter_append,List.filter_cons_of_neg (by rw[f];simp)];simp
   rw[bW (eX (by rw[bP];omega)),x,aa];simp only[v,m,o,p,ac,D,E,bJ,fD,kZ,iM,aA,aa,B];unfold ahj at d q;by_cases h4:l[k].1=4
   .simp only[dW h4,aa];exact d (by simp[h4])
   .by_cases h5:l[k].1=5
    .simp only[dJ h4,dW h5,aa,ac];exact d (by simp[h5])
    .by_cases h6:l[k].1=6
     .simp only[dJ h4,dJ h5,dW h6,aa,ac];exact d (by simp[h6])
     .by_cases h2:l[k].1=2
      .simp only[dJ h4,dJ h5,dJ h6,dW h2,aa,ac];exact d (by simp[h2])
      .simp only[dJ h4,dJ h5,dJ h6,dJ h2,aa,ac];exact q (by simp[h2,h4,h5,h6])
  .rw[dD (gB (by rw[bP];omega)),List.take_of_length_le (by omega)]
end
section
open List renaming length_append → ai, length_singleton → aI
open Go.RowKit
def gu (l:List Tok):Tok:=l.getLastD (0,(0,(0,(false,()))))
theorem GR (r:List Tok) (t:Tok):gu (r++[t])=t:=by simp[gu]
theorem Oa (r:List Tok) (t:Tok) (h:r.length<1000000):gU 0 (bM (r++[t]))=true/\fO (r++[t]) (dV .i64 (bM (r++[t])) 1)=true/\dQ (r++[t]) (0,(0,(0,(false,())))) (dV .i64 (bM (r++[t])) 1)=t:=by
 have d:dV .i64 (bM (r++[t])) 1=(r.length:Int):=by
  rw[bP,fV (by simp only[ai,aI];omega) (by simp only[ai,aI];omega)];simp
 rw[d];exact⟨eX (by rw[bP];simp only[ai,aI];omega),ed (by omega) (by simp only[ai,aI];omega),ny rfl⟩
end
end Go.Proofs.YtdfhjhkcjecmlaaGreatDoor
