/- Parts of the proof, joined and shortened by a program: the plain machine, the functions as it prints them, and the mathematics over them. -/
import Derived.Test.YtlhpdcadgbjhiaaGreatDoorY4
import Derived.Test.YtlhpdcadgbjhiaaGreatDoorY5
import Derived.Test.YtlhpdcadgbjhiaaGreatDoorY6
set_option linter.unusedVariables false
set_option linter.unusedSimpArgs false
set_option maxRecDepth 100000
set_option maxHeartbeats 4000000
namespace Go.Proofs.YtlhpdcadgbjhiaaGreatDoor
section
open Option renaming some → a6, none → a7
open Bool renaming not_false → az
open Int renaming eq_ofNat_of_zero_le → aX, toNat_natCast → aZ
open List renaming append_assoc → ag, length_append → ai, drop_eq_getElem_cons → aA, drop_zero → aJ, nil_append → aO, drop_of_length_le → aQ
open Go.RowKit
theorem QZ (t:bZ):(dD t).length=t.length:=by simp[dD]
theorem IC (t:bZ):ofBytes (dD t)=t:=by simp[ofBytes,dD,Function.comp_def]
theorem qo (a b:bZ):bT (dD a) (dD b)=dD (a++b):=by simp[bT,dD]
theorem acu {s:List UInt8} {i:Int} (h0:0<=i) (h:i<s.length):[bY s i]=dD (sub s i (i+1)):=by
 obtain⟨n,rfl⟩:=aX h0;have d:n<s.length:=by omega
 rw[show(n:Int)+1=((n+1:Nat):Int) by omega,AL,aA d,List.take_succ_cons,List.take_zero,byte_at d];rfl
theorem LC (M:List qm) (a b c:Int):kN (nS M a b) c=if c=a then b else kN M c:=by
 unfold kN
 induction M with
 |nil=>
  unfold nS D8;by_cases h:c=a
  .simp_all [fK]
  .rw[dI (dX h),aq h];rfl
 |cons e M d=>
  obtain⟨k,v⟩:=e;unfold nS;by_cases h1:a=k
  .rw[bV (fK h1)];subst h1;unfold D8;by_cases h:c=a
   .simp_all [fK]
   simp_all [dX]
  .rw[dI (dX h1)];unfold D8;by_cases h:c=k
   .grind
   simp_all [dX]
def O0 (M:List qm):Nat->List kP->List qm
 |_,[]=>M
 |k,p::l=>O0 (nS M p.2.1 ((k+1:Nat):Int)) (k+1) l
theorem IQ (c:Int): ∀(l:List kP) (M:List qm) (k:Nat),l.Pairwise (fun p q=>p.2.1<q.2.1)->
  (wS l c=a7/\kN (O0 M k l) c=kN M c)\/(∃p,wS l c=a6 p/\ ∃j,l[j]? =a6 p/\kN (O0 M k l) c=((k+j+1:Nat):Int))
 |[],M,k,_=>.inl ⟨rfl,rfl⟩
 |p::l,M,k,h=>by
  obtain⟨s,i⟩:=List.pairwise_cons.1 h;have g:=IQ c l (nS M p.2.1 ((k+1:Nat):Int)) (k+1) i;rw[O0];unfold wS at*;rw[List.find?_cons];by_cases e:p.2.1=c
  .rw[show(p.2.1==c)=true by simpa using e];refine .inr ⟨p,rfl,0,rfl, ?_⟩;rcases g with ⟨d,f⟩|⟨q,d,j,f,o⟩
   .simp_all [LC]
   grind
  .rw[show(p.2.1==c)=false by simpa using e];rcases g with ⟨d,f⟩|⟨q,d,j,f,o⟩
   .exact .inl ⟨d,by rw[f,LC,aq (fun h=>e h.symm)]⟩
   .exact .inr ⟨q,d,j+1,f,by omega⟩
def PU (s:bZ):List qm:=O0 [] 0 (dm s)
theorem aev {s:List UInt8} {c:Int} (h:wS (dm s) c=a7):kN (PU s) c=0:=by
 rcases IQ c (dm s) [] 0 (Xa s)with ⟨_,h2⟩|⟨p,h1,_⟩
 .exact h2
 simp_all
theorem aew {s:List UInt8} (d:s.length<=10000) {c:Int} {p:kP} (h:wS (dm s) c=a6 p):
  bP (kN (PU s) c) 0=false/\fD (dm s) (eU .i64 (kN (PU s) c) 1)=true/\dw (dm s) (0,(0,(0,(0,(false,()))))) (eU .i64 (kN (PU s) c) 1)=p:=by
 rcases IQ c (dm s) [] 0 (Xa s)with ⟨h1,_⟩|⟨q,h1,j,h2,h3⟩
 .simp_all
 .rw[h]at h1;cases h1;obtain⟨e,f⟩:=List.getElem?_eq_some_iff.1 h2
  grind [Cc,PU,iw,dX,dV,dw]
theorem Xh (L:List kP) (hl:L.length<1000000) (a b c d:bZ) (e:List kP) (f:List Int): ∀(N k:Nat) (M:List qm),L.length-k<N->k<=L.length->
  qJ N L (bI L) (k:Int) a b c d e M f=a6 (.inl ((),((a,b,c,()),(),()),((d,e,()),O0 M k (L.drop k),(),f,())))
 |0,k,M,h,_=>by omega
 |N+1,k,M,h,hk=>by
  rw[qJ,yF];by_cases e1:k<L.length
  .have g:dw L (0,(0,(0,(0,(false,()))))) (k:Int)=L[k]:=by
    simp_all [dw]
   rw[bV (eH (by rw[bK];omega)),bV (dV),g,dn,show(k:Int)+1=((k+1:Nat):Int) by omega,
    Xh L hl a b c d e f N (k+1) _ (by omega) (by omega),aA e1,O0]
  .rw[dI (ig (by rw[bK];omega)),aQ (by omega)];rfl
theorem aug {p:kP} (h0:0<=p.2.1) (d:p.2.1<1000000):ads (p.1,(p.2.1,(p.2.2.1,(p.2.2.2.1,(p.2.2.2.2.1,())))))=a6 (lone p,()):=by
 rw[ads,lone];simp only;rw[dn];by_cases h:p.1=12
 .rw[bV (fK h)]
  grind [fK,dX]
 simp_all [dX]
theorem adJ {s:List UInt8} (q:s.length<=10000) {p:kP} (d:PF s p) (h:p.1=4\/p.1=5):
  ajm (p.1,(p.2.1,(p.2.2.1,(p.2.2.2.1,(p.2.2.2.2.1,())))))=a6 (p.2.1+1,(xI p,())):=by
 have h0:=d.f0;have g:=d.f1;have i:=d.t0;have j:=d.t1;have e:=d.sh;obtain⟨m,f,t,u,o,⟨⟩⟩:=p;have l:ajm (m,(f,(t,(u,(o,())))))=bif o then a6 (di .i64 f 1,(BM (eU .i64 t 0) (di .i64 f 1),()))else a6 (di .i64 f 1,(BM (eU .i64 t 1) (di .i64 f 1),())):=by
  rcases h with h|h
  .simp only at h;subst h;rfl
  .simp only at h;subst h;rfl
 simp only at h0 g i j e h ⊢;rw[l];unfold xI BM;cases o with
 |true=>rw[aa,dn,iw,Int.sub_zero,aq (by omega)];rfl
 |false=>
  have:=e rfl (by omega);rw[ac,dn,iw,aq (by omega)];rfl
theorem CW {a:List UInt8} (h:a.length<=140737488355328):dY (dD a) 1=true:=lM (by rw[QZ];omega)
theorem WV (h:bZ):(h=[]/\bI (dD h)=0)\/(h≠[]/\0<bI (dD h)):=by
 rw[bK,QZ];cases h with
 |nil=>simp
 |cons a l=>simp
theorem LM (s:bZ) (M:s.length<=10000) {to_:Int} (U:to_<=s.length) (B:Int) (V:B<=10000000000000) (i:Int) (j q:Bool) (u:kP) (v:bZ) (x y z A:Int) (D:Bool) (E:List Int) (G:bZ):
  ∀(N:Nat) (at_:Int) (K:Bool) (h o:bZ),0<N->to_-at_<N->0<=at_->at_<=s.length->(o.length:Int)+h.length<=B+10000*at_->
  ∃I d o',kT N to_ K at_ i j q u v (dD h) x y z A D E s (dm s) (PU s) G (dD o)=
   a6 (.inl ((I,()),((i,j,q,u,()),(v,()),(),(),()),(dD d,(x,y,z,A,D,()),E,(),(),(s,dm s,()),PU s,(),(G,()),dD o',(),())))/\
   o'++d=o++h++rP s (dm s) to_ N at_/\(o'.length:Int)+d.length<=B+10000*s.length
 |0,at_,K,h,o,hN,_,_,_,_=>by omega
 |N+1,at_,K,h,o,hN,ak,h0,h1,hh=>by
  (rewrite [kT,yH];delta nD nC jX iP eX;rw[rP])
  by_cases e:at_<to_
  .have al:= @UR s at_;have an:=NF s (dm s) at_;have W: ∀(c:bZ) (g:Int),c=(iL s (dm s) at_).2.1->g=(iL s (dm s) at_).1->g<=s.length->
     ∃I d o',(bif dY (dD (h++c)) 1 then kT N to_ K g i j q u v (dD (h++c)) x y z A D E s (dm s) (PU s) G (dD o)else a7)=
      a6 (.inl ((I,()),((i,j,q,u,()),(v,()),(),(),()),(dD d,(x,y,z,A,D,()),E,(),(),(s,dm s,()),PU s,(),(G,()),dD o',(),())))/\
      o'++d=o++h++((iL s (dm s) at_).2.1++rP s (dm s) to_ N (iL s (dm s) at_).1)/\(o'.length:Int)+d.length<=B+10000*s.length:=by
    intro c g hc O S;subst hc O;rw[bV (CW (by grind))];obtain⟨I,d,o',X,r2,Y⟩:=LM s M U B V i j q u v x y z A D E G N (iL s (dm s) at_).1 K (h++(iL s (dm s) at_).2.1) o (by omega) (by omega) (by omega) S (by grind)
    grind
   have push: ∀(l:bZ) (g:Int),l=o++h++(iL s (dm s) at_).2.1->g=(iL s (dm s) at_).1->g<=s.length->
     ∃I d o',(bif dY (dD l) 1 then kT N to_ true g i j q u v [] x y z A D E s (dm s) (PU s) G (dD l)else a7)=
      a6 (.inl ((I,()),((i,j,q,u,()),(v,()),(),(),()),(dD d,(x,y,z,A,D,()),E,(),(),(s,dm s,()),PU s,(),(G,()),dD o',(),())))/\
      o'++d=o++h++((iL s (dm s) at_).2.1++rP s (dm s) to_ N (iL s (dm s) at_).1)/\(o'.length:Int)+d.length<=B+10000*s.length:=by
    intro l g hl O S;subst hl O;rw[bV (CW (by grind))];obtain⟨I,d,o',X,r2,Y⟩:=LM s M U B V i j q u v x y z A D E G N (iL s (dm s) at_).1 true [] (o++h++(iL s (dm s) at_).2.1) (by omega) (by omega) (by omega) S (by grind);refine⟨I,d,o',X, ?_,Y⟩;simp_all
   have Z:di .i64 at_ 1=at_+1:=dn;rw[bV (eH e),am e];cases hf:wS (dm s) at_ with
   |none=>
    have f:iL s (dm s) at_=(at_+1,sub s at_ (at_+1),false):=by unfold iL;rw[hf]
    rw[aev hf,show bP 0 0=true from rfl,aa,bV (dV h0 (by omega)),acu h0 (by omega),qo,Z]
    grind
   |some p=>
    obtain⟨J,ao⟩:=wU hf;have t0:=J.t0;have t1:=J.t1;obtain⟨m1,m2,m3⟩:=aew M hf;rw[m1,ac,m2,aa];simp only[m3];rw[aug J.f0 (by omega),bG];by_cases hlone:lone p=true
    .have f:iL s (dm s) at_=(at_+1,sub s at_ (at_+1),false):=by simp_all [iL]
     rw[hlone,aa,bV (dV h0 (by omega)),acu h0 (by omega),qo,Z]
     grind
    .rw[show lone p=false by simpa using hlone,ac];have ab:eU .i64 p.2.2.1 p.2.1=p.2.2.1-p.2.1:=iw;have ad:di .i64 p.2.1 1=p.2.1+1:=dn;simp only[ab,ad,qo];by_cases h13:p.1=13
     .have au:=J.es h13;have f:iL s (dm s) at_=(p.2.2.1,Vr s p,false):=by simp_all [iL]
      rw[bV (fK h13)];by_cases hto2:p.2.2.1=p.2.1+2
      .rw[dI (iG),bV (dV)];have ae:Vr s p=(if bY s (p.2.1+1)=36\/bY s (p.2.1+1)=96\/bY s (p.2.1+1)=34\/bY s (p.2.1+1)=92 then sub s (p.2.1+1) p.2.2.1
         else if bY s (p.2.1+1)=10 then []else nY s p):=by
        simp_all [Vr]
       have af:ofBytes [bY s (p.2.1+1)]=sub s (p.2.1+1) p.2.2.1:=by
        grind [acu,IC]
       simp only[af];by_cases b1:bY s (p.2.1+1)=36
       .simp_all [fK]
       .rw[dI (dX b1)];by_cases b2:bY s (p.2.1+1)=96
        .simp_all [fK]
        .rw[dI (dX b2)];by_cases b3:bY s (p.2.1+1)=34
         .simp_all [fK]
         .rw[dI (dX b3)];by_cases b4:bY s (p.2.1+1)=92
          .simp_all [fK]
          .rw[dI (dX b4)];have ah: ¬(bY s (p.2.1+1)=36\/bY s (p.2.1+1)=96\/bY s (p.2.1+1)=34\/bY s (p.2.1+1)=92):=by omega
           by_cases b5:bY s (p.2.1+1)=10
           .rw[bV (fK b5)]
            grind
           .rw[dI (dX b5),bV (fO J.f0 (by omega) (by rw[bK];omega))];exact W _ _ (by rw[f,ae,aq ah,aq b5];rfl) (by rw[f]) (by omega)
      .rw[bV (eH)];exact W _ _ (by simp_all [Vr]) (by rw[f]) (by omega)
     .have f:iL s (dm s) at_=(p.2.2.1,nY s p,true):=by simp_all [iL]
      rw[dI (dX h13)];have aj:fE (bI s) p.2.1 p.2.2.1=true:=fO J.f0 (by omega) (by rw[bK];omega);simp only[IC,qo,aj,aa];rcases WV h with ⟨he,hl⟩|⟨he,hl⟩
      .subst he;rw[dI (iG)];exact push _ _ (by rw[f,List.append_nil];rfl) (by rw[f]) (by omega)
      .rw[bV (eH hl),bV (CW (by grind))];exact push _ _ (by rw[f];rfl) (by rw[f]) (by omega)
  .rw[dI (ig e),aq e]
   grind
theorem RX (s:bZ) (A:s.length<=10000) (f i:bZ): ∀(N:Nat) (at_:Int) (h o:bZ),(s.length:Int)-at_<N->0<=at_->at_<=s.length->(o.length:Int)+h.length<=200000000*at_->
  ∃d o',jl N at_ f (dD h) s (dm s) (PU s) i (dD o)=
   a6 (.inl ((),((f,()),(),(),()),(dD d,(),(),(s,dm s,()),PU s,(),(i,()),dD o',(),())))/\
   o'++d=o++h++lC s (dm s) N at_/\(o'.length:Int)+d.length<=200000000*s.length
 |0,at_,h,o,hN,_,_,_=>by omega
 |N+1,at_,h,o,hN,h0,h1,hh=>by
  (rewrite [jl,yG];delta tV tN tK tJ tH iI jW jV pO dB;rw[lC])
  by_cases e:at_<s.length
  .have ax:= @UT s at_;have af:=afi (s:=s) e;have ay:(stepT s (dm s) at_).2.length<=100010000:=by
    have h1:=NG s (dm s) at_;have h2:s.length*s.length<=10000*10000:=Nat.mul_le_mul A A;omega
   have go: ∀(g l:bZ) (J:Int),l++g=o++h++(stepT s (dm s) at_).2->J=(stepT s (dm s) at_).1->
     ∃d o',jl N J f (dD g) s (dm s) (PU s) i (dD l)=
      a6 (.inl ((),((f,()),(),(),()),(dD d,(),(),(s,dm s,()),PU s,(),(i,()),dD o',(),())))/\
      o'++d=o++h++((stepT s (dm s) at_).2++lC s (dm s) N (stepT s (dm s) at_).1)/\(o'.length:Int)+d.length<=200000000*s.length:=by
    intro g l J hl G;subst G;have K:=congrArg List.length hl;simp only[ai]at K;obtain⟨d,o',D,E,r3⟩:=RX s A f i N (stepT s (dm s) at_).1 g l (by omega) (by omega) af (by omega)
    grind
   have ah: ∀x:bZ,x.length<=200000000->dY (dD (h++x)) 1=true:=fun x M=>CW (by grind);have X: ∀x:bZ,x.length<=200000000->dY (dD (o++x)) 1=true:=fun x M=>CW (by grind);have aj:dY (dD (o++h)) 1=true:=CW (by grind);have Y: ∀x:bZ,x.length<=200000000->dY (dD (o++h++x)) 1=true:=fun x M=>CW (by grind);have aB:di .i64 at_ 1=at_+1:=dn;have y: ∀a b,(sub s a b).length<=200000000:=fun a b=>by grind [IZ]
   rw[bV (eH (b:=bI s) e),am e];cases hf:wS (dm s) at_ with
   |none=>
    have j:stepT s (dm s) at_=(at_+1,sub s at_ (at_+1)):=by unfold stepT;rw[hf]
    rw[aev hf,show bP 0 0=true from rfl,aa];simp_all [acu,qo,dV,mW,eP]
   |some p=>
    obtain⟨v,aF⟩:=wU hf;have t0:=v.t0;have t1:=v.t1;obtain⟨m1,m2,m3⟩:=aew A hf;have ak:fE (bI s) p.2.1 p.2.2.1=true:=fO v.f0 (by omega) (by rw[bK];omega);have al:fE (bI s) (p.2.1+1) p.2.2.1=true:=fO (by omega) (by omega) (by rw[bK];omega);have an:di .i64 p.2.1 1=p.2.1+1:=dn;rw[m1,ac,m2,aa];simp only[m3];rw[aug v.f0 (by omega),bG];simp only[an,ak,al,IC,qo,aa,ah _ (y _ _),X _ (y _ _),Y _ (y _ _),aj];have O: ∀(x:bZ),x.length<=200000000->x=(stepT s (dm s) at_).2->p.2.2.1=(stepT s (dm s) at_).1->
     ∃d o',(bif gG h []then jl N p.2.2.1 f [] s (dm s) (PU s) i (dD (o++x))
      else jl N p.2.2.1 f [] s (dm s) (PU s) i (dD (o++h++x)))=
      a6 (.inl ((),((f,()),(),(),()),(dD d,(),(),(s,dm s,()),PU s,(),(i,()),dD o',(),())))/\
      o'++d=o++h++((stepT s (dm s) at_).2++lC s (dm s) N (stepT s (dm s) at_).1)/\(o'.length:Int)+d.length<=200000000*s.length:=by
     intro x M Z G;by_cases z:h=[]
     .subst z;rw[bV (by rfl)];exact go [] _ _ (by rw[<-Z];simp) G
     .rw[dI (by simpa [gG] using z)];exact go [] _ _ (by rw[<-Z];simp) G
    by_cases hpl':lone p=true\/p.1=14
    .have j:stepT s (dm s) at_=(p.2.2.1,nY s p):=by simp_all [stepT]
     have:=go (h++sub s p.2.1 p.2.2.1) o p.2.2.1 (by rw[j,ag];rfl) (by rw[j]);by_cases I:lone p=true
     .simp_all
     .have S:p.1=14:=hpl'.resolve_left I;simp only[show lone p=false by simpa using I,S,show bP 14 14=true from rfl,aa,ac];exact this
    .have I:lone p=false:=by
      simp_all
     have S:p.1≠14:=fun h=>hpl' (.inr h);simp only[I,dX S,ac];by_cases h13:p.1=13
     .have aG:=v.es h13;have j:stepT s (dm s) at_=(p.2.2.1,Vs s p):=by simp_all [stepT]
      simp only[fK h13,dX (show p.1≠4 by omega),aa,ac];by_cases hto2:p.2.2.1=p.2.1+2
      .have U:sub s (p.2.1+1) p.2.2.1=[s.getD (p.2.1+1).toNat 0]:=by
        obtain⟨n,hn⟩:=aX (show 0<=p.2.1+1 by omega);have ab:n<s.length:=by omega
        rw[hn,show p.2.2.1=((n+1:Nat):Int) by omega,AL,aA ab,List.take_succ_cons,List.take_zero,aZ,List.getD_eq_getElem?_getD,List.getElem?_eq_getElem ab];rfl
       have ao:gG (sub s (p.2.1+1) p.2.2.1) []=false:=by rw[U];simp[gG]
       rw[ao,az,aa];by_cases b5:bY s (p.2.1+1)=10
       .have:gG (sub s (p.2.1+1) p.2.2.1) [10]=true:=by
         rw[U];unfold bY at b5;have au:s.getD (p.2.1+1).toNat 0=10:=UInt8.toNat_inj.1 (by show _=10;omega);rw[au];rfl
        simp_all [Vs]
       .have:gG (sub s (p.2.1+1) p.2.2.1) [10]=false:=by
         rw[U];have hq:s.getD (p.2.1+1).toNat 0≠10:=fun h=>b5 (by unfold bY;rw[h];rfl);simpa [gG] using hq
        rw[this,az,aa];exact O _ (y _ _) (by simp_all [Vs]) (by rw[j])
      .have av:sub s (p.2.1+1) p.2.2.1=[]:=by
        grind [sub]
       rw[av,show(!gG ([]:bZ) [])=false from rfl,ac];simp_all [Vs]
     .simp only[dX h13,ac];by_cases h4:p.1=4
      .have j:stepT s (dm s) at_=(p.2.2.1,sub s (p.2.1+1) (xI p)):=by simp_all [stepT]
       have ad:p.2.1+1<=xI p/\xI p<=p.2.2.1:=by
        unfold xI;by_cases B:p.2.2.2.2.1=true
        .grind
        .rw[aq B];have:=v.sh (by simpa using B) (by omega);omega
       simp only[fK h4,aa];rw[adJ A v (.inl h4),bG];simp only[fO (n:=bI s) (lo:=p.2.1+1) (hi:=xI p) (by omega) ad.1 (by rw[bK];omega),aa,X _ (y _ _),Y _ (y _ _)];exact O _ (y _ _) (by rw[j]) (by rw[j])
      .simp only[dX h4,ac];by_cases h5:p.1=5
       .have j:stepT s (dm s) at_=(p.2.2.1,rP s (dm s) (xI p) s.length (p.2.1+1)):=by simp_all [stepT]
        have ad:p.2.1+1<=xI p/\xI p<=p.2.2.1:=by
         unfold xI;by_cases B:p.2.2.2.2.1=true
         .grind
         .rw[aq B];have:=v.sh (by simpa using B) (by omega);omega
        simp only[fK h5,aa,adJ A v (.inr h5),bG];have ae: ∀(q:bZ),q=o++h-> ∃u d o',kT bM (xI p) false (p.2.1+1) p.2.2.1 true true (p.1,(p.2.1,(p.2.2.1,(p.2.2.2.1,(p.2.2.2.2.1,()))))) f [] p.1 p.2.1 p.2.2.1 p.2.2.2.1 p.2.2.2.2.1 (dD h) s (dm s) (PU s) i (dD q)=
          a6 (.inl ((u,()),((p.2.2.1,true,true,(p.1,(p.2.1,(p.2.2.1,(p.2.2.2.1,(p.2.2.2.2.1,()))))),()),(f,()),(),(),()),(dD d,(p.1,p.2.1,p.2.2.1,p.2.2.2.1,p.2.2.2.2.1,()),dD h,(),(),(s,dm s,()),PU s,(),(i,()),dD o',(),())))/\
          o'++d=o++h++(stepT s (dm s) at_).2:=by
         intro q hq;obtain⟨u,d,o',D,E,r3⟩:=LM s A (to_:=xI p) (by omega) 10000000000000 (by omega) p.2.2.1 true true (p.1,(p.2.1,(p.2.2.1,(p.2.2.2.1,(p.2.2.2.2.1,()))))) f p.1 p.2.1 p.2.2.1 p.2.2.2.1 p.2.2.2.2.1 (dD h) i bM (p.2.1+1) false [] q (by unfold bM;omega) (by have:=dK (n:=s.length) (by omega);omega) (by omega) (by omega) (by grind);refine⟨u,d,o',D, ?_⟩
         grind [LP,bM]
        have tail: ∀(u:Bool) (d o':bZ),o'++d=o++h++(stepT s (dm s) at_).2->
          ∃V W,(bif bP (bI (dD d)) 0 then
            bif u then jl N p.2.2.1 f [] s (dm s) (PU s) i (dD o')
            else bif dY (dD (o'++d)) 1 then jl N p.2.2.1 f [] s (dm s) (PU s) i (dD (o'++d))else a7
           else bif dY (dD (o'++d)) 1 then jl N p.2.2.1 f [] s (dm s) (PU s) i (dD (o'++d))else a7)=
           a6 (.inl ((),((f,()),(),(),()),(dD V,(),(),(s,dm s,()),PU s,(),(i,()),dD W,(),())))/\
           W++V=o++h++((stepT s (dm s) at_).2++lC s (dm s) N (stepT s (dm s) at_).1)/\(W.length:Int)+V.length<=200000000*s.length:=by
         intro u d o' B;have K:=congrArg List.length B;simp only[ai]at K;have aw:dY (dD (o'++d)) 1=true:=CW (by grind);have g1:=go [] (o'++d) p.2.2.1 (by simp_all) (by rw[j]);rw[aw,aa];rcases WV d with ⟨z,hl⟩|⟨z,hl⟩
         .rw[bV (fK hl)];rw[z,List.append_nil]at g1 ⊢;cases u<;>exact g1
         .rw[dI (dX)];exact g1
        by_cases z:h=[]
        .rw[bV (by rw[z];rfl)];obtain⟨u,d,o',D,E⟩:=ae o (by simp_all);rw[D,bG];simp only[dN,aa,IC,qo];exact tail u d o' E
        .rw[dI (by simpa [gG] using z)];obtain⟨u,d,o',D,E⟩:=ae (o++h) rfl;rw[D,bG];simp only[dN,aa,IC,qo];exact tail u d o' E
       .have j:stepT s (dm s) at_=(p.2.2.1,nY s p):=by simp_all [stepT]
        simp only[dX h5,ac];exact O _ (y _ _) (by rw[j];rfl) (by rw[j])
  .rw[dI (ig (by rw[bK];omega)),aq e]
   grind
theorem aCS (s:bZ) (e:s.length<=10000):aiY s=a6 (Jk s,()):=by
 have hl:=Cc s;rw[aiY,aJF s (by omega),bG];simp only;have f:=Xh (dm s) (by omega) s [] s s (dm s) [] bM 0 [] (dK) (by omega);rw[show qJ bM (dm s) (bI (dm s)) 0 s [] s s (dm s) [] []=_ from f,bG];simp only[dN,aJ];obtain⟨g,j,h,d,l⟩:=RX s e [] [] bM 0 [] [] (by have:=dK (n:=s.length) (by omega);omega) (by omega) (by omega) (by simp);rw[show jl bM 0 [] [] s (dm s) (O0 [] 0 (dm s)) [] []=_ from h,bG];have i:lC s (dm s) bM 0=Jk s:=H8 s _ _ _ (by have:=dK (n:=s.length) (by omega);omega) (by omega);rw[i,aO,aO]at d;simp only[dN,IC,qo,eP,aa];rw[bV (CW (by grind)),d];by_cases he:g=[]
 .simp_all
 simp_all [dI,gG]
end
section
open Bool renaming false_eq_true → ah, not_true → au, and_true → ay, not_false → az, not_eq_true → aY
open Int renaming toNat_natCast → aZ
open List renaming drop_eq_getElem_cons → aA, length_cons → aH, length_drop → aP
open Go.RowKit
theorem aiF {l:List Dlm} (h:l.length<=1000000):rM l=some (l,()):=by
 grind [rM,vX,lM]
theorem apJ {s:List UInt8} (d:s.length<=10000) {a:Nat} (e:a<s.length):adl s (a:Int)=some (((uP s a:Nat):Int),()):=by
 grind [aGR,uP]
theorem aqb {s:List UInt8} {a:Nat} (d:a<s.length):wL (s.drop a)≠0↔o8 (bY s a)=true\/zJ (s.drop a)=true:=by
 grind [byte_at,aA,Jl]
theorem ap3 (t:bZ): ∀n,(PK t n).2≠0->ofF (t.take (PK t n).2)=(PK t n).1
 |0,h=>absurd rfl h
 |n+1,h=>by
  rw[PK]at h ⊢;split
  .rfl
  .rename_i d
   rw[aq d]at h;exact ap3 t n h
theorem axH {s:List UInt8} (f:s.length<=10000) {a:Nat} (d:a<s.length):aiR s (a:Int)=some (jR s a,()):=by
 have e:fD s (a:Int)=true:=dV;obtain⟨k,g,h,q⟩:=azZ (lN s a);have u:=aqb d
 (rewrite [aiR];delta YA;rw[aJB (by omega) d,bG,bV e,g,bG])
 simp only[h,e,aa,aqY (show a<=s.length by omega),bG,ax0 (show s.length<1000000 by omega) (show a<=s.length by omega)];by_cases hb:wL (s.drop a)≠0
 .have v:jR s a=(1,(a:Int),((a+wL (s.drop a):Nat):Int),false,()):=by simp_all [jR]
  grind
 .have i:o8 (bY s (a:Int))=false:=by
   simp_all
  have j:zJ (s.drop a)=false:=by
   simp_all
  rw[i,j,ac,ac];unfold jR;rw[aq hb];by_cases h10:bY s (a:Int)=10
  .rw[bV (fK h10),am h10,dn];rfl
  .rw[dI (dX h10),aq h10];by_cases h35:bY s (a:Int)=35
   .rw[bV (fK h35),am h35,aua (by omega) (by omega),bG]
   .rw[dI (dX h35),aq h35];have l:=(PV (s.drop a)).1;rw[aP]at l;by_cases hop:(BO (s.drop a)).2≠0
    .rw[bV (eH),am hop]
     grind [dn]
    .rw[dI (iG),aq hop,auV (by omega) (by omega),bG];by_cases hn:BN (s.drop a)≠0
     .rw[bV (eH),am hn,bG]
     .rw[dI (iG),aq hn,apJ f d,bG];have x:=Vg (s:=s) (a:=a) (by omega);have y:=RS (s:=s) (a:=a) (b:=uP s a);obtain⟨t,o,p⟩:=amx (Yn s a (uP s a)) (by omega);simp only;rw[bV (fO (by omega) (by omega) (by rw[bK];omega)),acf,o,bG];simp only;rw[p];rfl
theorem ap9 {s:List UInt8} (g:s.length<=10000) {a:Nat} (h:a<s.length) {x:XY} (hl:x.2.1.length<=100000):
  aiS (sub s (jR s a).2.1 (jR s a).2.2.1) (jR s a).1 (x.1,(x.2.1,(x.2.2.1,())))=some (lI s a x,()):=by
 rw[aiS];simp only[aiF (show x.2.1.length<=1000000 by omega),bG];unfold jR lI;by_cases hb:wL (s.drop a)≠0
 .rw[am hb,am hb];rfl
 .rw[aq hb,aq hb];by_cases h10:bY s (a:Int)=10
  .have d:gV 0 (bI x.2.1)=decide (0<x.2.1.length):=by
    simp_all [gV,bI]
   rw[am h10,am h10,<-d];rfl
  .rw[aq h10,aq h10];by_cases h35:bY s (a:Int)=35
   .rw[am h35,am h35];rfl
   .rw[aq h35,aq h35];by_cases hop:(BO (s.drop a)).2≠0
    .rw[am hop,am hop];simp only;rw[show bP 4 1=false from rfl,ac,show bP 4 2=false from rfl,ac,show bP 4 4=true from rfl,aa,AL,auX,bG];have:ofF ((s.drop a).take (BO (s.drop a)).2)=(BO (s.drop a)).1:=ap3 _ _ hop;rw[this];simp only;by_cases h4:(BO (s.drop a)).1=4
     .simp_all [fK]
     .rw[dI (dX)];by_cases e:(BO (s.drop a)).1=5
      .simp_all [fK]
      .rw[dI (dX),aq (by omega)]
    .rw[aq hop,aq hop];by_cases hn:BN (s.drop a)≠0
     .rw[am hn,am hn];rfl
     .rw[aq hn,aq hn];have i:=RS (s:=s) (a:=a) (b:=uP s a);simp only;rw[show bP 6 1=false from rfl,ac,show bP 6 2=false from rfl,ac,show bP 6 4=false from rfl,ac,show bP 6 6=true from rfl,aa,acf];by_cases h0:x.1=0
      .simp_all [fK]
      .have e:bP x.1 5=decide (x.1=5):=rfl;have f: ∀y,dY (bT x.2.1 [y]) 24=true:=fun y=>lM (by grind [bT]);rw[dX h0,az,aa,aq h0,aCS _ (by omega),bG];simp only[mW,eP,iC,f,aa,ay];rfl
theorem aC2 {s:List UInt8} (g:s.length<=10000) {a:Nat} (h:a<s.length) (x:XY) (hp:x.2.2.1=true->x.2.1≠[]) (hl:x.2.1.length<=100000):
  ayB s (a:Int) x=some ((mf s a x).1,((mf s a x).2,())):=by
 obtain⟨f,e,l,u⟩:=x;cases u;simp only at hp hl
 (rewrite [ayB];delta agD agC;rw[dI (iG),dI (JO (by rw[bK];omega))])
 unfold mf;cases l with
 |true=>
  obtain⟨d,r,rfl⟩: ∃d r,e=d::r:=by
   cases e with
   |nil=>simp_all
   |cons d r=>simp
  simp only[aa,if_true];rw[bV (eH (by simp_all [bK])),aDQ];simp only;rw[bV (dV (by omega) (by simp)),show dw (d::r) ([],(false,())) 0=d from rfl,aDU (by omega) d (by omega),bG];simp only[List.headD_cons];by_cases hh:(CX s d.1 d.2.1 a).2=true
  rotate_left
  .rw[aY]at hh;simp only[hh,ah,if_false,az,aa,eP,gQ,iC,ay,bG]
  .have o:sub (d::r) 1 (bI (d::r))=r:=by simp[sub,bK]
   have p:gV 0 (bI r)=decide (1<(d::r).length):=by
    simp_all [gV,bI]
   have i:fE (bI (d::r)) 1 (bI (d::r))=true:=fO (by omega) (by grind [bK]) (by omega);rw[aH]at hl;simp only[hh,if_true,au,ac,i,o,aa,aiF (show r.length<=1000000 by omega),bG,eP,iC,ay,p];rfl
 |false=>
  simp only[ac,ah,if_false];have j:=AC g h (f,(e,(false,())));have q:mf s a (f,(e,(false,())))=(jR s a,lI s a (f,(e,(false,())))):=by rfl
  rw[q]at j;simp only at j;rw[axH g h,bG];simp only;have i:fE (bI s) (jR s a).2.1 (jR s a).2.2.1=true:=fO (by omega) (by omega) (by rw[bK];omega);rw[i,aa,ap9 g h (x:=(f,(e,(false,())))) hl,bG];simp only[mW,eP,iC,gQ,aa,ay]
theorem WJ {s:List UInt8} (d:s.length<=10000) (f:Int) (g:Bool): ∀(N a:Nat) (l:List Tok) (x:XY) (t:Tok),s.length-a<N->a<=s.length->OkX x->x.2.1.length<=a->l.length<=a->
  wu N (a:Int) t.1 t.2.1 t.2.2.1 t.2.2.2.1 x.1 x.2.1 x.2.2.1 s l x.1 x.2.1 x.2.2.1 f g=
   some (.inl ((),((),(),(),()),((s,()),(),(qN s N a l x).1,((qN s N a l x).2.1,(qN s N a l x).2.2.1,(qN s N a l x).2.2.2.1,()),(),(f,g,()),())))
 |0,a,l,x,t,h,_,_,_,_=>by omega
 |N+1,a,l,x,t,h,v,i,z,hl=>by
  rw[wu,Gj,qN];by_cases e:a<s.length
  .have A:=AC d e x;have p:=UU s a i;have q:(x.1,(x.2.1,(x.2.2.1,())))=x:=rfl;rw[bV (eH (by rw[bK];omega)),q,aC2 d e x i (by omega),bG,am e];have u: ∀y,dY (bT l [y]) 32=true:=fun y=>lM (by grind [bT]);simp only[u,eP,iC,gQ,aa,ay];obtain⟨b,j⟩: ∃b:Nat,(mf s a x).1.2.2.1=(b:Int):=⟨(mf s a x).1.2.2.1.toNat,by omega⟩;have o:=WJ d f g N b (l++[(mf s a x).1]) (mf s a x).2 (mf s a x).1 (by omega) (by omega) p.1 (by omega) (by grind);rw[j]at o ⊢;rw[aZ,<-o];rw[<-j];rfl
  simp_all [ig,bK,aq]
theorem aGU {s:List UInt8} (d:s.length<=10000):asK s=some ((oq s).1,((oq s).2,())):=by
 have h:=WJ d 0 false bM 0 [] (0,[],false,()) (0,0,0,false,()) (dK) (by omega) (fun h=>by cases h) (by simp) (by simp);have e:qN s bM 0 [] (0,[],false,())=oq s:=MF d _ _ _ _ _ (by have:=dK (n:=s.length) (by omega);omega) (by omega);rw[asK,show wu bM 0 0 0 0 false 0 [] false s [] 0 [] false 0 false=_ from h,bG,e];rfl
end
section
open Bool renaming and_true → ay
open Int renaming toNat_natCast → aZ
open List renaming length_append → ai, getElem_mem → aG, length_map → aK, take_of_length_le → bn, length_singleton → bu
open Go.RowKit
theorem JQ {s:List UInt8} (v:s.length<=10000) (l:List Tok) (hl:l.length<=10000) (g: ∀t∈l,OkT s t): ∀(N k:Nat),l.length-k<N->k<=l.length->
  DY N s l (bI l) (k:Int) (gp s (l.take k))=some (.inl ((),(gp s l,())))
 |0,k,h,_=>by omega
 |N+1,k,h,hk=>by
  (rewrite [DY,abV];delta AA uM dZ)
  by_cases e:k<l.length
  .have x:dw l (0,(0,(0,(false,())))) (k:Int)=l[k]:=by
    unfold dw;rw[aZ,List.getD_eq_getElem?_getD,List.getElem?_eq_getElem e];rfl
   have z:fD l (k:Int)=true:=dV;obtain⟨A,I,J⟩:=g _ (aG e);have B:fE (bI s) l[k].2.1 l[k].2.2.1=true:=fO A (by omega) (by rw[bK];omega);have K:(gp s (l.take k)).length<=10000:=by
    unfold gp;rw[aK];have:=List.length_filter_le adM (l.take k);rw[List.length_take]at this;omega
   have D: ∀y,dY (bT (gp s (l.take k)) [y]) 40=true:=fun y=>lM (by unfold bT;simp only[ai,bu];omega);have i:=JQ v l hl g N (k+1) (by omega) (by omega);have j:l.take (k+1)=l.take k++[l[k]]:=by rw[List.take_add_one,List.getElem?_eq_getElem e];rfl
   have E:di .i64 (k:Int) 1=((k+1:Nat):Int):=by rw[dn];omega
   have o:gV l[k].2.1 0=false:=iG;have p:gV l[k].2.2.1 l[k].2.1=false:=iG;have q:gV (bI s) l[k].2.2.1=false:=iG (by rw[bK];omega);have G:ayx s (l[k].1,(l[k].2.1,(l[k].2.2.1,(l[k].2.2.2.1,()))))=some (sub s l[k].2.1 l[k].2.2.1,()):=by
    rw[ayx];simp only[o,p,q,B,aa,ac]
   have d:adM l[k]=true->DY N s l (bI l) ((k+1:Nat):Int) (bT (gp s (l.take k)) [(l[k].1,(sub s l[k].2.1 l[k].2.2.1,(l[k].2.1,(l[k].2.2.1,()))))])=some (.inl ((),(gp s l,()))):=fun f=>by
    rw[<-i];congr 1;unfold gp;rw[j,List.filter_append,List.map_append,List.filter_cons_of_pos f];rfl
   have u:adM l[k]=false->DY N s l (bI l) ((k+1:Nat):Int) (gp s (l.take k))=some (.inl ((),(gp s l,()))):=fun f=>by
    rw[<-i];congr 1;unfold gp;rw[j,List.filter_append,List.filter_cons_of_neg (by rw[f];simp)];simp
   rw[bV (eH (by rw[bK];omega)),z,aa];simp only[x,o,p,q,ac,E,G,bG,eP,mW,iC,ay,aa,D];unfold adM at d u;by_cases h4:l[k].1=4
   .simp only[fK h4,aa];exact d (by simp[h4])
   .by_cases h5:l[k].1=5
    .simp only[dX h4,fK h5,aa,ac];exact d (by simp[h5])
    .by_cases h6:l[k].1=6
     .simp only[dX h4,dX h5,fK h6,aa,ac];exact d (by simp[h6])
     .by_cases h2:l[k].1=2
      .simp only[dX h4,dX h5,dX h6,fK h2,aa,ac];exact d (by simp[h2])
      .simp only[dX h4,dX h5,dX h6,dX h2,aa,ac];exact u (by simp[h2,h4,h5,h6])
  .rw[dI (ig (by rw[bK];omega)),bn (by omega)]
theorem apU {s:List UInt8} (d:s.length<=10000):asL s (oq s).1=some (gp s (oq s).1,()):=by
 obtain⟨e,f,g⟩:=PS d;have h:=JQ d (oq s).1 (by omega) e bM 0 (dK) (by omega);rw[asL,show DY bM s (oq s).1 (bI (oq s).1) 0 []=_ from h,bG];rfl
end
end Go.Proofs.YtlhpdcadgbjhiaaGreatDoor
