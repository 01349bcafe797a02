/- Parts of the proof, joined and shortened by a program: the plain machine, the functions as it prints them, and the mathematics over them. -/
import Derived.Test.YtlhpdcadgbjhiaaGreatDoorV3
import Derived.Test.YtlhpdcadgbjhiaaGreatDoorV4
import Derived.Test.YtlhpdcadgbjhiaaGreatDoorV5
set_option linter.unusedVariables false
set_option linter.unusedSimpArgs false
set_option maxRecDepth 100000
set_option maxHeartbeats 4000000
namespace Go.Proofs.YtlhpdcadgbjhiaaGreatDoor
section
open Option renaming some → a6, none → a7
open Bool renaming not_false → aB
open Int renaming eq_ofNat_of_zero_le → aV
open List renaming append_assoc → ai, length_append → aj, drop_eq_getElem_cons → aF, nil_append → aO, drop_of_length_le → aU
open Go.RowKit
theorem Hg (t:bH):(bF t).length=t.length:=by simp[bF]
theorem Ep (t:bH):ofBytes (bF t)=t:=by simp[ofBytes,bF,Function.comp_def]
theorem nI (a b:bH):bI (bF a) (bF b)=bF (a++b):=by simp[bI,bF]
theorem V6 {s:List UInt8} {i:Int} (e:0<=i) (h:i<s.length):[bU s i]=bF (sub s i (i+1)):=by
 obtain⟨n,rfl⟩:=aV e;have d:n<s.length:=by omega
 rw[show(n:Int)+1=((n+1:Nat):Int) by omega,CY,aF d,List.take_succ_cons,List.take_zero,byte_at d];rfl
theorem ad1 (M:List mJ) (a b c:Int):kw (kN M a b) c=if c=a then b else kw M c:=by
 unfold kw
 induction M with
 |nil=>
  unfold kN AO;by_cases h:c=a
  .simp_all [gB]
  .rw[dE (dV h),aq h];rfl
 |cons e M d=>
  obtain⟨k,v⟩:=e;unfold kN;by_cases h1:a=k
  .rw[bJ (gB h1)];subst h1;unfold AO;by_cases h:c=a
   .simp_all [gB]
   simp_all [dV]
  .rw[dE (dV h1)];unfold AO;by_cases h:c=k
   .grind
   simp_all [dV]
def JW (M:List mJ):Nat->List kJ->List mJ
 |_,[]=>M
 |k,p::l=>JW (kN M p.2.1 ((k+1:Nat):Int)) (k+1) l
theorem EG (c:Int): ∀(l:List kJ) (M:List mJ) (k:Nat),l.Pairwise (fun p q=>p.2.1<q.2.1)->
  (Ac l c=a7/\kw (JW M k l) c=kw M c)\/(∃p,Ac l c=a6 p/\ ∃j,l[j]? =a6 p/\kw (JW M k l) c=((k+j+1:Nat):Int))
 |[],M,k,_=>.inl ⟨rfl,rfl⟩
 |p::l,M,k,h=>by
  obtain⟨s,i⟩:=List.pairwise_cons.1 h;have g:=EG c l (kN M p.2.1 ((k+1:Nat):Int)) (k+1) i;rw[JW];unfold Ac at*;rw[List.find?_cons];by_cases e:p.2.1=c
  .rw[show(p.2.1==c)=true by simpa using e];refine .inr ⟨p,rfl,0,rfl, ?_⟩;rcases g with ⟨d,f⟩|⟨q,d,j,f,o⟩
   .simp_all [ad1]
   grind
  .rw[show(p.2.1==c)=false by simpa using e];rcases g with ⟨d,f⟩|⟨q,d,j,f,o⟩
   .exact .inl ⟨d,by rw[f,ad1,aq (fun h=>e h.symm)]⟩
   .exact .inr ⟨q,d,j+1,f,by omega⟩
def KG (s:bH):List mJ:=JW [] 0 (dw s)
theorem Yd {s:List UInt8} {c:Int} (h:Ac (dw s) c=a7):kw (KG s) c=0:=by
 rcases EG c (dw s) [] 0 (Q3 s)with ⟨_,h2⟩|⟨p,h1,_⟩
 .exact h2
 simp_all
theorem Ye {s:List UInt8} (d:s.length<=10000) {c:Int} {p:kJ} (h:Ac (dw s) c=a6 p):
  bC (kw (KG s) c) 0=false/\gm (dw s) (eY .i64 (kw (KG s) c) 1)=true/\bT (dw s) (0,(0,(0,(0,(false,()))))) (eY .i64 (kw (KG s) c) 1)=p:=by
 rcases EG c (dw s) [] 0 (Q3 s)with ⟨h1,_⟩|⟨q,h1,j,h2,h3⟩
 .simp_all
 .rw[h]at h1;cases h1;obtain⟨e,f⟩:=List.getElem?_eq_some_iff.1 h2
  grind [Oo,KG,iq,dV,dQ,bT]
theorem Rh (L:List kJ) (hl:L.length<1000000) (a b c d:bH) (e:List kJ) (f:List Int): ∀(N k:Nat) (M:List mJ),L.length-k<N->k<=L.length->
  og N L (bi L) (k:Int) a b c d e M f=a6 (.inl ((),((a,b,c,()),(),()),((d,e,()),JW M k (L.drop k),(),f,())))
 |0,k,M,h,_=>by omega
 |N+1,k,M,h,hk=>by
  rw[og,vV];by_cases e1:k<L.length
  .have g:bT L (0,(0,(0,(0,(false,()))))) (k:Int)=L[k]:=by
    simp_all [bT]
   rw[bJ (eU (by rw[bz];omega)),bJ (dQ),g,bQ,show(k:Int)+1=((k+1:Nat):Int) by omega,
    Rh L hl a b c d e f N (k+1) _ (by omega) (by omega),aF e1,JW]
  .rw[dE (iy (by rw[bz];omega)),aU (by omega)];rfl
theorem ajl {p:kJ} (d:0<=p.2.1) (e:p.2.1<1000000):Xl (p.1,(p.2.1,(p.2.2.1,(p.2.2.2.1,(p.2.2.2.2.1,())))))=a6 (lone p,()):=by
 rw[Xl,lone];simp only;rw[bQ];by_cases h:p.1=12
 .rw[bJ (gB h)]
  grind [gB,dV]
 simp_all [dV]
theorem Xz {s:List UInt8} (v:s.length<=10000) {p:kJ} (d:PF s p) (h:p.1=4\/p.1=5):
  ab3 (p.1,(p.2.1,(p.2.2.1,(p.2.2.2.1,(p.2.2.2.2.1,())))))=a6 (p.2.1+1,(Ea p,())):=by
 have g:=d.f0;have i:=d.f1;have j:=d.t0;have l:=d.t1;have e:=d.sh;obtain⟨m,f,t,u,o,⟨⟩⟩:=p;have q:ab3 (m,(f,(t,(u,(o,())))))=bif o then a6 (bV .i64 f 1,(yV (eY .i64 t 0) (bV .i64 f 1),()))else a6 (bV .i64 f 1,(yV (eY .i64 t 1) (bV .i64 f 1),())):=by
  rcases h with h|h
  .simp only at h;subst h;rfl
  .simp only at h;subst h;rfl
 simp only at g i j l e h ⊢;rw[q];unfold Ea yV;cases o with
 |true=>rw[aa,bQ,iq,Int.sub_zero,aq (by omega)];rfl
 |false=>
  have:=e rfl (by omega);rw[ac,bQ,iq,aq (by omega)];rfl
theorem xB {a:List UInt8} (h:a.length<=140737488355328):dZ (bF a) 1=true:=FT (by rw[Hg];omega)
theorem QT (h:bH):(h=[]/\bi (bF h)=0)\/(h≠[]/\0<bi (bF h)):=by
 rw[bz,Hg];cases h with
 |nil=>simp
 |cons a l=>simp
theorem Hz (s:bH) (M:s.length<=10000) {to_:Int} (U:to_<=s.length) (B:Int) (V:B<=10000000000000) (i:Int) (j q:Bool) (u:kJ) (v:bH) (x y z A:Int) (D:Bool) (E:List Int) (G:bH):
  ∀(N:Nat) (at_:Int) (K:Bool) (h o:bH),0<N->to_-at_<N->0<=at_->at_<=s.length->(o.length:Int)+h.length<=B+10000*at_->
  ∃I d o',jI N to_ K at_ i j q u v (bF h) x y z A D E s (dw s) (KG s) G (bF o)=
   a6 (.inl ((I,()),((i,j,q,u,()),(v,()),(),(),()),(bF d,(x,y,z,A,D,()),E,(),(),(s,dw s,()),KG s,(),(G,()),bF o',(),())))/\
   o'++d=o++h++zK s (dw s) to_ N at_/\(o'.length:Int)+d.length<=B+10000*s.length
 |0,at_,K,h,o,hN,_,_,_,_=>by omega
 |N+1,at_,K,h,o,hN,ak,L,h1,hh=>by
  (rewrite [jI,vX];delta lm lg jl gK dK;rw[zK])
  by_cases e:at_<to_
  .have al:= @Y3 s at_;have an:=Ru s (dw s) at_;have W: ∀(c:bH) (g:Int),c=(kG s (dw s) at_).2.1->g=(kG s (dw s) at_).1->g<=s.length->
     ∃I d o',(bif dZ (bF (h++c)) 1 then jI N to_ K g i j q u v (bF (h++c)) x y z A D E s (dw s) (KG s) G (bF o)else a7)=
      a6 (.inl ((I,()),((i,j,q,u,()),(v,()),(),(),()),(bF d,(x,y,z,A,D,()),E,(),(),(s,dw s,()),KG s,(),(G,()),bF o',(),())))/\
      o'++d=o++h++((kG s (dw s) at_).2.1++zK s (dw s) to_ N (kG s (dw s) at_).1)/\(o'.length:Int)+d.length<=B+10000*s.length:=by
    intro c g hc O S;subst hc O;rw[bJ (xB (by grind))];obtain⟨I,d,o',X,r2,Y⟩:=Hz s M U B V i j q u v x y z A D E G N (kG s (dw s) at_).1 K (h++(kG s (dw s) at_).2.1) o (by omega) (by omega) (by omega) S (by grind)
    grind
   have push: ∀(l:bH) (g:Int),l=o++h++(kG s (dw s) at_).2.1->g=(kG s (dw s) at_).1->g<=s.length->
     ∃I d o',(bif dZ (bF l) 1 then jI N to_ true g i j q u v [] x y z A D E s (dw s) (KG s) G (bF l)else a7)=
      a6 (.inl ((I,()),((i,j,q,u,()),(v,()),(),(),()),(bF d,(x,y,z,A,D,()),E,(),(),(s,dw s,()),KG s,(),(G,()),bF o',(),())))/\
      o'++d=o++h++((kG s (dw s) at_).2.1++zK s (dw s) to_ N (kG s (dw s) at_).1)/\(o'.length:Int)+d.length<=B+10000*s.length:=by
    intro l g hl O S;subst hl O;rw[bJ (xB (by grind))];obtain⟨I,d,o',X,r2,Y⟩:=Hz s M U B V i j q u v x y z A D E G N (kG s (dw s) at_).1 true [] (o++h++(kG s (dw s) at_).2.1) (by omega) (by omega) (by omega) S (by grind);refine⟨I,d,o',X, ?_,Y⟩;simp_all
   have Z:bV .i64 at_ 1=at_+1:=bQ;rw[bJ (eU e),am e];cases hf:Ac (dw s) at_ with
   |none=>
    have f:kG s (dw s) at_=(at_+1,sub s at_ (at_+1),false):=by unfold kG;rw[hf]
    rw[Yd hf,show bC 0 0=true from rfl,aa,bJ (dQ L (by omega)),V6 L (by omega),nI,Z]
    grind
   |some p=>
    obtain⟨J,ao⟩:=Ad hf;have t0:=J.t0;have t1:=J.t1;obtain⟨m1,m2,m3⟩:=Ye M hf;rw[m1,ac,m2,aa];simp only[m3];rw[ajl J.f0 (by omega),aY];by_cases hlone:lone p=true
    .have f:kG s (dw s) at_=(at_+1,sub s at_ (at_+1),false):=by simp_all [kG]
     rw[hlone,aa,bJ (dQ L (by omega)),V6 L (by omega),nI,Z]
     grind
    .rw[show lone p=false by simpa using hlone,ac];have ab:eY .i64 p.2.2.1 p.2.1=p.2.2.1-p.2.1:=iq;have ad:bV .i64 p.2.1 1=p.2.1+1:=bQ;simp only[ab,ad,nI];by_cases h13:p.1=13
     .have au:=J.es h13;have f:kG s (dw s) at_=(p.2.2.1,aeL s p,false):=by simp_all [kG]
      rw[bJ (gB h13)];by_cases hto2:p.2.2.1=p.2.1+2
      .rw[dE (jc),bJ (dQ)];have ae:aeL s p=(if bU s (p.2.1+1)=36\/bU s (p.2.1+1)=96\/bU s (p.2.1+1)=34\/bU s (p.2.1+1)=92 then sub s (p.2.1+1) p.2.2.1
         else if bU s (p.2.1+1)=10 then []else yj s p):=by
        simp_all [aeL]
       have af:ofBytes [bU s (p.2.1+1)]=sub s (p.2.1+1) p.2.2.1:=by
        grind [V6,Ep]
       simp only[af];by_cases b1:bU s (p.2.1+1)=36
       .simp_all [gB]
       .rw[dE (dV b1)];by_cases b2:bU s (p.2.1+1)=96
        .simp_all [gB]
        .rw[dE (dV b2)];by_cases b3:bU s (p.2.1+1)=34
         .simp_all [gB]
         .rw[dE (dV b3)];by_cases b4:bU s (p.2.1+1)=92
          .simp_all [gB]
          .rw[dE (dV b4)];have ag: ¬(bU s (p.2.1+1)=36\/bU s (p.2.1+1)=96\/bU s (p.2.1+1)=34\/bU s (p.2.1+1)=92):=by omega
           by_cases b5:bU s (p.2.1+1)=10
           .rw[bJ (gB b5)]
            grind
           .rw[dE (dV b5),bJ (gZ J.f0 (by omega) (by rw[bz];omega))];exact W _ _ (by rw[f,ae,aq ag,aq b5];rfl) (by rw[f]) (by omega)
      .rw[bJ (eU)];exact W _ _ (by simp_all [aeL]) (by rw[f]) (by omega)
     .have f:kG s (dw s) at_=(p.2.2.1,yj s p,true):=by simp_all [kG]
      rw[dE (dV h13)];have ah:gy (bi s) p.2.1 p.2.2.1=true:=gZ J.f0 (by omega) (by rw[bz];omega);simp only[Ep,nI,ah,aa];rcases QT h with ⟨he,hl⟩|⟨he,hl⟩
      .subst he;rw[dE (jc)];exact push _ _ (by rw[f,List.append_nil];rfl) (by rw[f]) (by omega)
      .rw[bJ (eU hl),bJ (xB (by grind))];exact push _ _ (by rw[f];rfl) (by rw[f]) (by omega)
  .rw[dE (iy e),aq e]
   grind
theorem MM (s:bH) (A:s.length<=10000) (f i:bH): ∀(N:Nat) (at_:Int) (h o:bH),(s.length:Int)-at_<N->0<=at_->at_<=s.length->(o.length:Int)+h.length<=200000000*at_->
  ∃d o',iJ N at_ f (bF h) s (dw s) (KG s) i (bF o)=
   a6 (.inl ((),((f,()),(),(),()),(bF d,(),(),(s,dw s,()),KG s,(),(i,()),bF o',(),())))/\
   o'++d=o++h++rQ s (dw s) N at_/\(o'.length:Int)+d.length<=200000000*s.length
 |0,at_,h,o,hN,_,_,_=>by omega
 |N+1,at_,h,o,hN,h0,h1,hh=>by
  (rewrite [iJ,vW];delta qy qx qw qp qo gz jk ji mX bG;rw[rQ])
  by_cases e:at_<s.length
  .have aw:= @Y4 s at_;have ae:=akG (s:=s) e;have ax:(stepT s (dw s) at_).2.length<=100010000:=by
    have h1:=afM s (dw s) at_;have h2:s.length*s.length<=10000*10000:=Nat.mul_le_mul A A;omega
   have go: ∀(g l:bH) (J:Int),l++g=o++h++(stepT s (dw s) at_).2->J=(stepT s (dw s) at_).1->
     ∃d o',iJ N J f (bF g) s (dw s) (KG s) i (bF l)=
      a6 (.inl ((),((f,()),(),(),()),(bF d,(),(),(s,dw s,()),KG s,(),(i,()),bF o',(),())))/\
      o'++d=o++h++((stepT s (dw s) at_).2++rQ s (dw s) N (stepT s (dw s) at_).1)/\(o'.length:Int)+d.length<=200000000*s.length:=by
    intro g l J hl G;subst G;have K:=congrArg List.length hl;simp only[aj]at K;obtain⟨d,o',D,E,r3⟩:=MM s A f i N (stepT s (dw s) at_).1 g l (by omega) (by omega) ae (by omega)
    grind
   have af: ∀x:bH,x.length<=200000000->dZ (bF (h++x)) 1=true:=fun x L=>xB (by grind);have W: ∀x:bH,x.length<=200000000->dZ (bF (o++x)) 1=true:=fun x L=>xB (by grind);have ag:dZ (bF (o++h)) 1=true:=xB (by grind);have X: ∀x:bH,x.length<=200000000->dZ (bF (o++h++x)) 1=true:=fun x L=>xB (by grind);have ay:bV .i64 at_ 1=at_+1:=bQ;have y: ∀a b,(sub s a b).length<=200000000:=fun a b=>by grind [IY]
   rw[bJ (eU (b:=bi s) e),am e];cases hf:Ac (dw s) at_ with
   |none=>
    have j:stepT s (dw s) at_=(at_+1,sub s at_ (at_+1)):=by unfold stepT;rw[hf]
    rw[Yd hf,show bC 0 0=true from rfl,aa];simp_all [V6,nI,dQ,qQ,fB]
   |some p=>
    obtain⟨v,az⟩:=Ad hf;have t0:=v.t0;have t1:=v.t1;obtain⟨m1,m2,m3⟩:=Ye A hf;have ah:gy (bi s) p.2.1 p.2.2.1=true:=gZ v.f0 (by omega) (by rw[bz];omega);have ak:gy (bi s) (p.2.1+1) p.2.2.1=true:=gZ (by omega) (by omega) (by rw[bz];omega);have al:bV .i64 p.2.1 1=p.2.1+1:=bQ;rw[m1,ac,m2,aa];simp only[m3];rw[ajl v.f0 (by omega),aY];simp only[al,ah,ak,Ep,nI,aa,af _ (y _ _),W _ (y _ _),X _ (y _ _),ag];have M: ∀(x:bH),x.length<=200000000->x=(stepT s (dw s) at_).2->p.2.2.1=(stepT s (dw s) at_).1->
     ∃d o',(bif iG h []then iJ N p.2.2.1 f [] s (dw s) (KG s) i (bF (o++x))
      else iJ N p.2.2.1 f [] s (dw s) (KG s) i (bF (o++h++x)))=
      a6 (.inl ((),((f,()),(),(),()),(bF d,(),(),(s,dw s,()),KG s,(),(i,()),bF o',(),())))/\
      o'++d=o++h++((stepT s (dw s) at_).2++rQ s (dw s) N (stepT s (dw s) at_).1)/\(o'.length:Int)+d.length<=200000000*s.length:=by
     intro x L Y G;by_cases z:h=[]
     .subst z;rw[bJ (by rfl)];exact go [] _ _ (by rw[<-Y];simp) G
     .rw[dE (by simpa [iG] using z)];exact go [] _ _ (by rw[<-Y];simp) G
    by_cases hpl':lone p=true\/p.1=14
    .have j:stepT s (dw s) at_=(p.2.2.1,yj s p):=by simp_all [stepT]
     have:=go (h++sub s p.2.1 p.2.2.1) o p.2.2.1 (by rw[j,ai];rfl) (by rw[j]);by_cases I:lone p=true
     .simp_all
     .have O:p.1=14:=hpl'.resolve_left I;simp only[show lone p=false by simpa using I,O,show bC 14 14=true from rfl,aa,ac];exact this
    .have I:lone p=false:=by
      simp_all
     have O:p.1≠14:=fun h=>hpl' (.inr h);simp only[I,dV O,ac];by_cases h13:p.1=13
     .have aA:=v.es h13;have j:stepT s (dw s) at_=(p.2.2.1,aeM s p):=by simp_all [stepT]
      simp only[gB h13,dV (show p.1≠4 by omega),aa,ac];by_cases hto2:p.2.2.1=p.2.1+2
      .have S:sub s (p.2.1+1) p.2.2.1=[s.getD (p.2.1+1).toNat 0]:=by
        obtain⟨n,hn⟩:=aV (show 0<=p.2.1+1 by omega);have Z:n<s.length:=by omega
        rw[hn,show p.2.2.1=((n+1:Nat):Int) by omega,CY,aF Z,List.take_succ_cons,List.take_zero,Int.toNat_natCast,List.getD_eq_getElem?_getD,List.getElem?_eq_getElem Z];rfl
       have an:iG (sub s (p.2.1+1) p.2.2.1) []=false:=by rw[S];simp[iG]
       rw[an,aB,aa];by_cases b5:bU s (p.2.1+1)=10
       .have:iG (sub s (p.2.1+1) p.2.2.1) [10]=true:=by
         rw[S];unfold bU at b5;have ao:s.getD (p.2.1+1).toNat 0=10:=UInt8.toNat_inj.1 (by show _=10;omega);rw[ao];rfl
        simp_all [aeM]
       .have:iG (sub s (p.2.1+1) p.2.2.1) [10]=false:=by
         rw[S];have hq:s.getD (p.2.1+1).toNat 0≠10:=fun h=>b5 (by unfold bU;rw[h];rfl);simpa [iG] using hq
        rw[this,aB,aa];exact M _ (y _ _) (by simp_all [aeM]) (by rw[j])
      .have au:sub s (p.2.1+1) p.2.2.1=[]:=by
        grind [sub]
       rw[au,show(!iG ([]:bH) [])=false from rfl,ac];simp_all [aeM]
     .simp only[dV h13,ac];by_cases h4:p.1=4
      .have j:stepT s (dw s) at_=(p.2.2.1,sub s (p.2.1+1) (Ea p)):=by simp_all [stepT]
       have ab:p.2.1+1<=Ea p/\Ea p<=p.2.2.1:=by
        unfold Ea;by_cases B:p.2.2.2.2.1=true
        .grind
        .rw[aq B];have:=v.sh (by simpa using B) (by omega);omega
       simp only[gB h4,aa];rw[Xz A v (.inl h4),aY];simp only[gZ (n:=bi s) (lo:=p.2.1+1) (hi:=Ea p) (by omega) ab.1 (by rw[bz];omega),aa,W _ (y _ _),X _ (y _ _)];exact M _ (y _ _) (by rw[j]) (by rw[j])
      .simp only[dV h4,ac];by_cases h5:p.1=5
       .have j:stepT s (dw s) at_=(p.2.2.1,zK s (dw s) (Ea p) s.length (p.2.1+1)):=by simp_all [stepT]
        have ab:p.2.1+1<=Ea p/\Ea p<=p.2.2.1:=by
         unfold Ea;by_cases B:p.2.2.2.2.1=true
         .grind
         .rw[aq B];have:=v.sh (by simpa using B) (by omega);omega
        simp only[gB h5,aa,Xz A v (.inr h5),aY];have ad: ∀(q:bH),q=o++h-> ∃u d o',jI bD (Ea p) false (p.2.1+1) p.2.2.1 true true (p.1,(p.2.1,(p.2.2.1,(p.2.2.2.1,(p.2.2.2.2.1,()))))) f [] p.1 p.2.1 p.2.2.1 p.2.2.2.1 p.2.2.2.2.1 (bF h) s (dw s) (KG s) i (bF q)=
          a6 (.inl ((u,()),((p.2.2.1,true,true,(p.1,(p.2.1,(p.2.2.1,(p.2.2.2.1,(p.2.2.2.2.1,()))))),()),(f,()),(),(),()),(bF d,(p.1,p.2.1,p.2.2.1,p.2.2.2.1,p.2.2.2.2.1,()),bF h,(),(),(s,dw s,()),KG s,(),(i,()),bF o',(),())))/\
          o'++d=o++h++(stepT s (dw s) at_).2:=by
         intro q hq;obtain⟨u,d,o',D,E,r3⟩:=Hz s A (to_:=Ea p) (by omega) 10000000000000 (by omega) p.2.2.1 true true (p.1,(p.2.1,(p.2.2.1,(p.2.2.2.1,(p.2.2.2.2.1,()))))) f p.1 p.2.1 p.2.2.1 p.2.2.2.1 p.2.2.2.2.1 (bF h) i bD (p.2.1+1) false [] q (by unfold bD;omega) (by have:=dC (n:=s.length) (by omega);omega) (by omega) (by omega) (by grind);refine⟨u,d,o',D, ?_⟩
         grind [Qo,bD]
        have tail: ∀(u:Bool) (d o':bH),o'++d=o++h++(stepT s (dw s) at_).2->
          ∃U V,(bif bC (bi (bF d)) 0 then
            bif u then iJ N p.2.2.1 f [] s (dw s) (KG s) i (bF o')
            else bif dZ (bF (o'++d)) 1 then iJ N p.2.2.1 f [] s (dw s) (KG s) i (bF (o'++d))else a7
           else bif dZ (bF (o'++d)) 1 then iJ N p.2.2.1 f [] s (dw s) (KG s) i (bF (o'++d))else a7)=
           a6 (.inl ((),((f,()),(),(),()),(bF U,(),(),(s,dw s,()),KG s,(),(i,()),bF V,(),())))/\
           V++U=o++h++((stepT s (dw s) at_).2++rQ s (dw s) N (stepT s (dw s) at_).1)/\(V.length:Int)+U.length<=200000000*s.length:=by
         intro u d o' B;have K:=congrArg List.length B;simp only[aj]at K;have av:dZ (bF (o'++d)) 1=true:=xB (by grind);have g1:=go [] (o'++d) p.2.2.1 (by simp_all) (by rw[j]);rw[av,aa];rcases QT d with ⟨z,hl⟩|⟨z,hl⟩
         .rw[bJ (gB hl)];rw[z,List.append_nil]at g1 ⊢;cases u<;>exact g1
         .rw[dE (dV)];exact g1
        by_cases z:h=[]
        .rw[bJ (by rw[z];rfl)];obtain⟨u,d,o',D,E⟩:=ad o (by simp_all);rw[D,aY];simp only[dB,aa,Ep,nI];exact tail u d o' E
        .rw[dE (by simpa [iG] using z)];obtain⟨u,d,o',D,E⟩:=ad (o++h) rfl;rw[D,aY];simp only[dB,aa,Ep,nI];exact tail u d o' E
       .have j:stepT s (dw s) at_=(p.2.2.1,yj s p):=by simp_all [stepT]
        simp only[dV h5,ac];exact M _ (y _ _) (by rw[j];rfl) (by rw[j])
  .rw[dE (iy (by rw[bz];omega)),aq e]
   grind
theorem ao7 (s:bH) (e:s.length<=10000):abK s=a6 (agP s,()):=by
 have hl:=Oo s;rw[abK,auF s (by omega),aY];simp only;have f:=Rh (dw s) (by omega) s [] s s (dw s) [] bD 0 [] (dC) (by omega);rw[show og bD (dw s) (bi (dw s)) 0 s [] s s (dw s) [] []=_ from f,aY];simp only[dB,List.drop_zero];obtain⟨g,j,h,d,l⟩:=MM s e [] [] bD 0 [] [] (by have:=dC (n:=s.length) (by omega);omega) (by omega) (by omega) (by simp);rw[show iJ bD 0 [] [] s (dw s) (JW [] 0 (dw s)) [] []=_ from h,aY];have i:rQ s (dw s) bD 0=agP s:=L6 s _ _ _ (by have:=dC (n:=s.length) (by omega);omega) (by omega);rw[i,aO,aO]at d;simp only[dB,Ep,nI,fB,aa];rw[bJ (xB (by grind)),d];by_cases he:g=[]
 .simp_all
 simp_all [dE,iG]
end
section
open Bool renaming false_eq_true → ag, not_true → ax, and_true → ay, not_false → aB
open List renaming drop_eq_getElem_cons → aF, length_cons → aH, length_drop → aQ
open Go.RowKit
theorem abw {l:List Dlm} (h:l.length<=1000000):pq l=some (l,()):=by
 grind [pq,tu,FT]
theorem agw {s:List UInt8} (d:s.length<=10000) {a:Nat} (e:a<s.length):Xf s (a:Int)=some (((zI s a:Nat):Int),()):=by
 grind [asf,zI]
theorem agT {s:List UInt8} {a:Nat} (d:a<s.length):zJ (s.drop a)≠0↔ui (bU s a)=true\/Jk (s.drop a)=true:=by
 grind [byte_at,aF,Mc]
theorem agM (t:bH): ∀n,(Qk t n).2≠0->ofF (t.take (Qk t n).2)=(Qk t n).1
 |0,h=>absurd rfl h
 |n+1,h=>by
  rw[Qk]at h ⊢;split
  .rfl
  .rename_i d
   rw[aq d]at h;exact agM t n h
theorem aly {s:List UInt8} (f:s.length<=10000) {a:Nat} (d:a<s.length):abE s (a:Int)=some (pO s a,()):=by
 have e:gm s (a:Int)=true:=dQ;obtain⟨k,g,h,q⟩:=ank (pJ s a);have u:=agT d
 (rewrite [abE];delta Tt;rw[auB (by omega) d,aY,bJ e,g,aY])
 simp only[h,e,aa,ahh (show a<=s.length by omega),aY,alO (show s.length<1000000 by omega) (show a<=s.length by omega)];by_cases hb:zJ (s.drop a)≠0
 .have v:pO s a=(1,(a:Int),((a+zJ (s.drop a):Nat):Int),false,()):=by simp_all [pO]
  grind
 .have i:ui (bU s (a:Int))=false:=by
   simp_all
  have j:Jk (s.drop a)=false:=by
   simp_all
  rw[i,j,ac,ac];unfold pO;rw[aq hb];by_cases h10:bU s (a:Int)=10
  .rw[bJ (gB h10),am h10,bQ];rfl
  .rw[dE (dV h10),aq h10];by_cases h35:bU s (a:Int)=35
   .rw[bJ (gB h35),am h35,ajf (by omega) (by omega),aY]
   .rw[dE (dV h35),aq h35];have l:=(acR (s.drop a)).1;rw[aQ]at l;by_cases hop:(Pv (s.drop a)).2≠0
    .rw[bJ (eU),am hop]
     grind [bQ]
    .rw[dE (jc),aq hop,ajH (by omega) (by omega),aY];by_cases hn:Un (s.drop a)≠0
     .rw[bJ (eU),am hn,aY]
     .rw[dE (jc),aq hn,agw f d,aY];have x:=Zm (s:=s) (a:=a) (by omega);have y:=WL (s:=s) (a:=a) (b:=zI s a);obtain⟨t,o,p⟩:=ad2 (ZG s a (zI s a)) (by omega);simp only;rw[bJ (gZ (by omega) (by omega) (by rw[bz];omega)),adF,o,aY];simp only;rw[p];rfl
theorem agR {s:List UInt8} (g:s.length<=10000) {a:Nat} (h:a<s.length) {x:Wq} (hl:x.2.1.length<=100000):
  abG (sub s (pO s a).2.1 (pO s a).2.2.1) (pO s a).1 (x.1,(x.2.1,(x.2.2.1,())))=some (Fa s a x,()):=by
 rw[abG];simp only[abw (show x.2.1.length<=1000000 by omega),aY];unfold pO Fa;by_cases hb:zJ (s.drop a)≠0
 .rw[am hb,am hb];rfl
 .rw[aq hb,aq hb];by_cases h10:bU s (a:Int)=10
  .have d:gY 0 (bi x.2.1)=decide (0<x.2.1.length):=by
    simp_all [gY,bi]
   rw[am h10,am h10,<-d];rfl
  .rw[aq h10,aq h10];by_cases h35:bU s (a:Int)=35
   .rw[am h35,am h35];rfl
   .rw[aq h35,aq h35];by_cases hop:(Pv (s.drop a)).2≠0
    .rw[am hop,am hop];simp only;rw[show bC 4 1=false from rfl,ac,show bC 4 2=false from rfl,ac,show bC 4 4=true from rfl,aa,CY,ajI,aY];have:ofF ((s.drop a).take (Pv (s.drop a)).2)=(Pv (s.drop a)).1:=agM _ _ hop;rw[this];simp only;by_cases h4:(Pv (s.drop a)).1=4
     .simp_all [gB]
     .rw[dE (dV)];by_cases e:(Pv (s.drop a)).1=5
      .simp_all [gB]
      .rw[dE (dV),aq (by omega)]
    .rw[aq hop,aq hop];by_cases hn:Un (s.drop a)≠0
     .rw[am hn,am hn];rfl
     .rw[aq hn,aq hn];have i:=WL (s:=s) (a:=a) (b:=zI s a);simp only;rw[show bC 6 1=false from rfl,ac,show bC 6 2=false from rfl,ac,show bC 6 4=false from rfl,ac,show bC 6 6=true from rfl,aa,adF];by_cases h0:x.1=0
      .simp_all [gB]
      .have e:bC x.1 5=decide (x.1=5):=rfl;have f: ∀y,dZ (bI x.2.1 [y]) 24=true:=fun y=>FT (by grind [bI]);rw[dV h0,aB,aa,aq h0,ao7 _ (by omega),aY];simp only[qQ,fB,qP,f,aa,ay];rfl
theorem apb {s:List UInt8} (g:s.length<=10000) {a:Nat} (h:a<s.length) (x:Wq) (hp:x.2.2.1=true->x.2.1≠[]) (hl:x.2.1.length<=100000):
  amg s (a:Int) x=some ((oQ s a x).1,((oQ s a x).2,())):=by
 obtain⟨f,e,l,u⟩:=x;cases u;simp only at hp hl
 (rewrite [amg];delta aaf aae;rw[dE (jc),dE (XW (by rw[bz];omega))])
 unfold oQ;cases l with
 |true=>
  obtain⟨d,r,rfl⟩: ∃d r,e=d::r:=by
   cases e with
   |nil=>simp_all
   |cons d r=>simp
  simp only[aa,if_true];rw[bJ (eU (by simp_all [bz])),apU];simp only;rw[bJ (dQ (by omega) (by simp)),show bT (d::r) ([],(false,())) 0=d from rfl,apY (by omega) d (by omega),aY];simp only[List.headD_cons];by_cases hh:(Jv s d.1 d.2.1 a).2=true
  rotate_left
  .rw[Bool.not_eq_true]at hh;simp only[hh,ag,if_false,aB,aa,fB,kY,qP,ay,aY]
  .have o:sub (d::r) 1 (bi (d::r))=r:=by simp[sub,bz]
   have p:gY 0 (bi r)=decide (1<(d::r).length):=by
    simp_all [gY,bi]
   have i:gy (bi (d::r)) 1 (bi (d::r))=true:=gZ (by omega) (by grind [bz]) (by omega);rw[aH]at hl;simp only[hh,if_true,ax,ac,i,o,aa,abw (show r.length<=1000000 by omega),aY,fB,qP,ay,p];rfl
 |false=>
  simp only[ac,ag,if_false];have j:=BC g h (f,(e,(false,())));have q:oQ s a (f,(e,(false,())))=(pO s a,Fa s a (f,(e,(false,())))):=by rfl
  rw[q]at j;simp only at j;rw[aly g h,aY];simp only;have i:gy (bi s) (pO s a).2.1 (pO s a).2.2.1=true:=gZ (by omega) (by omega) (by rw[bz];omega);rw[i,aa,agR g h (x:=(f,(e,(false,())))) hl,aY];simp only[qQ,fB,qP,kY,aa,ay]
theorem QK {s:List UInt8} (d:s.length<=10000) (f:Int) (g:Bool): ∀(N a:Nat) (l:List Tok) (x:Wq) (t:Tok),s.length-a<N->a<=s.length->OkX x->x.2.1.length<=a->l.length<=a->
  tK N (a:Int) t.1 t.2.1 t.2.2.1 t.2.2.2.1 x.1 x.2.1 x.2.2.1 s l x.1 x.2.1 x.2.2.1 f g=
   some (.inl ((),((),(),(),()),((s,()),(),(sH s N a l x).1,((sH s N a l x).2.1,(sH s N a l x).2.2.1,(sH s N a l x).2.2.2.1,()),(),(f,g,()),())))
 |0,a,l,x,t,h,_,_,_,_=>by omega
 |N+1,a,l,x,t,h,v,i,z,hl=>by
  rw[tK,CV,sH];by_cases e:a<s.length
  .have A:=BC d e x;have p:=Y5 s a i;have q:(x.1,(x.2.1,(x.2.2.1,())))=x:=rfl;rw[bJ (eU (by rw[bz];omega)),q,apb d e x i (by omega),aY,am e];have u: ∀y,dZ (bI l [y]) 32=true:=fun y=>FT (by grind [bI]);simp only[u,fB,qP,kY,aa,ay];obtain⟨b,j⟩: ∃b:Nat,(oQ s a x).1.2.2.1=(b:Int):=⟨(oQ s a x).1.2.2.1.toNat,by omega⟩;have o:=QK d f g N b (l++[(oQ s a x).1]) (oQ s a x).2 (oQ s a x).1 (by omega) (by omega) p.1 (by omega) (by grind);rw[j]at o ⊢;rw[Int.toNat_natCast,<-o];rw[<-j];rfl
  simp_all [iy,bz,aq]
theorem agG {s:List UInt8} (d:s.length<=10000:=by omega):Xi s=some ((jV s).1,((jV s).2,())):=by
 have h:=QK d 0 false bD 0 [] (0,[],false,()) (0,0,0,false,()) (dC) (by omega) (fun h=>by cases h) (by simp) (by simp);have e:sH s bD 0 [] (0,[],false,())=jV s:=QJ d _ _ _ _ _ (by have:=dC (n:=s.length) (by omega);omega) (by omega);rw[Xi,show tK bD 0 0 0 0 false 0 [] false s [] 0 [] false 0 false=_ from h,aY,e];rfl
end
section
open Bool renaming and_true → ay
open List renaming length_append → aj, getElem_mem → aG, length_map → aI
open Go.RowKit
theorem F6 {s:List UInt8} (v:s.length<=10000) (l:List Tok) (hl:l.length<=10000) (g: ∀t∈l,OkT s t): ∀(N k:Nat),l.length-k<N->k<=l.length->
  Az N s l (bi l) (k:Int) (fP s (l.take k))=some (.inl ((),(fP s l,())))
 |0,k,h,_=>by omega
 |N+1,k,h,hk=>by
  (rewrite [Az,VO];delta xY rG dD)
  by_cases e:k<l.length
  .have x:bT l (0,(0,(0,(false,())))) (k:Int)=l[k]:=by
    unfold bT;rw[Int.toNat_natCast,List.getD_eq_getElem?_getD,List.getElem?_eq_getElem e];rfl
   have z:gm l (k:Int)=true:=dQ;obtain⟨A,I,J⟩:=g _ (aG e);have B:gy (bi s) l[k].2.1 l[k].2.2.1=true:=gZ A (by omega) (by rw[bz];omega);have K:(fP s (l.take k)).length<=10000:=by
    unfold fP;rw[aI];have:=List.length_filter_le aiI (l.take k);rw[List.length_take]at this;omega
   have D: ∀y,dZ (bI (fP s (l.take k)) [y]) 40=true:=fun y=>FT (by unfold bI;simp only[aj,List.length_singleton];omega);have i:=F6 v l hl g N (k+1) (by omega) (by omega);have j:l.take (k+1)=l.take k++[l[k]]:=by rw[List.take_add_one,List.getElem?_eq_getElem e];rfl
   have E:bV .i64 (k:Int) 1=((k+1:Nat):Int):=by rw[bQ];omega
   have o:gY l[k].2.1 0=false:=jc;have p:gY l[k].2.2.1 l[k].2.1=false:=jc;have q:gY (bi s) l[k].2.2.1=false:=jc (by rw[bz];omega);have G:amd s (l[k].1,(l[k].2.1,(l[k].2.2.1,(l[k].2.2.2.1,()))))=some (sub s l[k].2.1 l[k].2.2.1,()):=by
    rw[amd];simp only[o,p,q,B,aa,ac]
   have d:aiI l[k]=true->Az N s l (bi l) ((k+1:Nat):Int) (bI (fP s (l.take k)) [(l[k].1,(sub s l[k].2.1 l[k].2.2.1,(l[k].2.1,(l[k].2.2.1,()))))])=some (.inl ((),(fP s l,()))):=fun f=>by
    rw[<-i];congr 1;unfold fP;rw[j,List.filter_append,List.map_append,List.filter_cons_of_pos f];rfl
   have u:aiI l[k]=false->Az N s l (bi l) ((k+1:Nat):Int) (fP s (l.take k))=some (.inl ((),(fP s l,()))):=fun f=>by
    rw[<-i];congr 1;unfold fP;rw[j,List.filter_append,List.filter_cons_of_neg (by rw[f];simp)];simp
   rw[bJ (eU (by rw[bz];omega)),z,aa];simp only[x,o,p,q,ac,E,G,aY,fB,qQ,qP,ay,aa,D];unfold aiI at d u;by_cases h4:l[k].1=4
   .simp only[gB h4,aa];exact d (by simp[h4])
   .by_cases h5:l[k].1=5
    .simp only[dV h4,gB h5,aa,ac];exact d (by simp[h5])
    .by_cases h6:l[k].1=6
     .simp only[dV h4,dV h5,gB h6,aa,ac];exact d (by simp[h6])
     .by_cases h2:l[k].1=2
      .simp only[dV h4,dV h5,dV h6,gB h2,aa,ac];exact d (by simp[h2])
      .simp only[dV h4,dV h5,dV h6,dV h2,aa,ac];exact u (by simp[h2,h4,h5,h6])
  .rw[dE (iy (by rw[bz];omega)),List.take_of_length_le (by omega)]
theorem Wp {s:List UInt8} (d:s.length<=10000):Xk s (jV s).1=some (fP s (jV s).1,()):=by
 obtain⟨e,f,g⟩:=Ua d;have h:=F6 d (jV s).1 (by omega) e bD 0 (dC) (by omega);rw[Xk,show Az bD s (jV s).1 (bi (jV s).1) 0 []=_ from h,aY];rfl
end
end Go.Proofs.YtlhpdcadgbjhiaaGreatDoor
