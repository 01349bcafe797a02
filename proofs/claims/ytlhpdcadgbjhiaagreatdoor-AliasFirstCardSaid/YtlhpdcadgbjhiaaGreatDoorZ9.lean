/- Parts of the proof, joined and shortened by a program: the plain machine, the functions as it prints them, and the mathematics over them. -/
import Derived.Test.YtlhpdcadgbjhiaaGreatDoorZ4
import Derived.Test.YtlhpdcadgbjhiaaGreatDoorZ5
import Derived.Test.YtlhpdcadgbjhiaaGreatDoorZ6
set_option linter.unusedVariables false
set_option linter.unusedSimpArgs false
set_option maxRecDepth 100000
set_option maxHeartbeats 4000000
namespace Go.Proofs.YtlhpdcadgbjhiaaGreatDoor
section
open Option renaming some → a6, none → a7
open Bool renaming not_false → az
open Int renaming toNat_natCast → aV
open List renaming append_assoc → ai, length_append → aj, drop_eq_getElem_cons → aA, nil_append → aF, drop_of_length_le → aO, drop_zero → aS
open Go.RowKit
theorem QS (t:bZ):(dA t).length=t.length:=by simp[dA]
theorem BZ (t:bZ):ofBytes (dA t)=t:=by simp[ofBytes,dA,Function.comp_def]
theorem mZ (a b:bZ):bT (dA a) (dA b)=dA (a++b):=by simp[bT,dA]
theorem aLz:dA []=([]:List Int):=rfl
theorem acP {s:List UInt8} {i:Int} (e:0<=i) (h:i<s.length):[bY s i]=dA (sub s i (i+1)):=by
 obtain⟨n,rfl⟩:=Int.eq_ofNat_of_zero_le e;have d:n<s.length:=by omega
 rw[show(n:Int)+1=((n+1:Nat):Int) by omega,vT,aA d,List.take_succ_cons,List.take_zero,byte_at d];rfl
theorem amX (M:List oH) (a b c:Int):lU (lH M a b) c=if c=a then b else lU M c:=by
 unfold lU
 induction M with
 |nil=>
  unfold lH Ed;by_cases h:c=a
  .simp_all [gq]
  .rw[dN (dZ h),aq h];rfl
 |cons e M d=>
  obtain⟨k,v⟩:=e;unfold lH;by_cases h1:a=k
  .rw[cO (gq h1)];subst h1;unfold Ed;by_cases h:c=a
   .simp_all [gq]
   simp_all [dZ]
  .rw[dN (dZ h1)];unfold Ed;by_cases h:c=k
   .grind
   simp_all [dZ]
def OZ (M:List oH):Nat->List kP->List oH
 |_,[]=>M
 |k,p::l=>OZ (lH M p.2.1 ((k+1:Nat):Int)) (k+1) l
theorem IU (c:Int): ∀(l:List kP) (M:List oH) (k:Nat),l.Pairwise (fun p q=>p.2.1<q.2.1)->
  (wE l c=a7/\lU (OZ M k l) c=lU M c)\/(∃p,wE l c=a6 p/\ ∃j,l[j]? =a6 p/\lU (OZ M k l) c=((k+j+1:Nat):Int))
 |[],M,k,_=>.inl ⟨rfl,rfl⟩
 |p::l,M,k,h=>by
  obtain⟨s,i⟩:=List.pairwise_cons.1 h;have g:=IU c l (lH M p.2.1 ((k+1:Nat):Int)) (k+1) i;rw[OZ];unfold wE at*;rw[List.find?_cons];by_cases e:p.2.1=c
  .rw[show(p.2.1==c)=true by simpa using e];refine .inr ⟨p,rfl,0,rfl, ?_⟩;rcases g with ⟨d,f⟩|⟨q,d,j,f,o⟩
   .simp_all [amX]
   grind
  .rw[show(p.2.1==c)=false by simpa using e];rcases g with ⟨d,f⟩|⟨q,d,j,f,o⟩
   .exact .inl ⟨d,by rw[f,amX,aq (fun h=>e h.symm)]⟩
   .exact .inr ⟨q,d,j+1,f,by omega⟩
def PT (s:bZ):List oH:=OZ [] 0 (dn s)
theorem aeI {s:List UInt8} {c:Int} (h:wE (dn s) c=a7):lU (PT s) c=0:=by
 rcases IU c (dn s) [] 0 (Xl s)with ⟨_,h2⟩|⟨p,h1,_⟩
 .exact h2
 simp_all
theorem aeJ {s:List UInt8} (d:s.length<=10000) {c:Int} {p:kP} (h:wE (dn s) c=a6 p):
  bV (lU (PT s) c) 0=false/\fV (dn s) (eU .i64 (lU (PT s) c) 1)=true/\dJ (dn s) (0,(0,(0,(0,(false,()))))) (eU .i64 (lU (PT s) c) 1)=p:=by
 rcases IU c (dn s) [] 0 (Xl s)with ⟨h1,_⟩|⟨q,h1,j,h2,h3⟩
 .simp_all
 .rw[h]at h1;cases h1;obtain⟨e,f⟩:=List.getElem?_eq_some_iff.1 h2
  grind [CE,PT,iW,dZ,eu,dJ]
theorem Xv (L:List kP) (hl:L.length<1000000) (a b c d:bZ) (e:List kP) (f:List Int): ∀(N k:Nat) (M:List oH),L.length-k<N->k<=L.length->
  pO N L (bM L) (k:Int) a b c d e M f=a6 (.inl ((),((a,b,c,()),(),()),((d,e,()),OZ M k (L.drop k),(),f,())))
 |0,k,M,h,_=>by omega
 |N+1,k,M,h,hk=>by
  rw[pO,yu];by_cases e1:k<L.length
  .have g:dJ L (0,(0,(0,(0,(false,()))))) (k:Int)=L[k]:=by
    simp_all [dJ]
   rw[cO (fO (by rw[bP];omega)),cO (eu),g,dI,show(k:Int)+1=((k+1:Nat):Int) by omega,
    Xv L hl a b c d e f N (k+1) _ (by omega) (by omega),aA e1,OZ]
  .rw[dN (iE (by rw[bP];omega)),aO (by omega)];rfl
theorem auG {p:kP} (d:0<=p.2.1) (e:p.2.1<1000000):adH (p.1,(p.2.1,(p.2.2.1,(p.2.2.2.1,(p.2.2.2.2.1,())))))=a6 (lone p,()):=by
 rw[adH,lone];simp only;rw[dI];by_cases h:p.1=12
 .rw[cO (gq h)]
  grind [gq,dZ]
 simp_all [dZ]
theorem adY {s:List UInt8} (v:s.length<=10000) {p:kP} (d:PF s p) (h:p.1=4\/p.1=5):
  ajJ (p.1,(p.2.1,(p.2.2.1,(p.2.2.2.1,(p.2.2.2.2.1,())))))=a6 (p.2.1+1,(xk p,())):=by
 have g:=d.f0;have i:=d.f1;have j:=d.t0;have l:=d.t1;have e:=d.sh;obtain⟨m,f,t,u,o,⟨⟩⟩:=p;have q:ajJ (m,(f,(t,(u,(o,())))))=bif o then a6 (dw .i64 f 1,(BX (eU .i64 t 0) (dw .i64 f 1),()))else a6 (dw .i64 f 1,(BX (eU .i64 t 1) (dw .i64 f 1),())):=by
  rcases h with h|h
  .simp only at h;subst h;rfl
  .simp only at h;subst h;rfl
 simp only at g i j l e h ⊢;rw[q];unfold xk BX;cases o with
 |true=>rw[aa,dI,iW,Int.sub_zero,aq (by omega)];rfl
 |false=>
  have:=e rfl (by omega);rw[ac,dI,iW,aq (by omega)];rfl
theorem xG {a:List UInt8} (h:a.length<=140737488355328):dY (dA a) 1=true:=lN (by rw[QS];omega)
theorem Xf (h:bZ):(h=[]/\bM (dA h)=0)\/(h≠[]/\0<bM (dA h)):=by
 rw[bP,QS];cases h with
 |nil=>simp
 |cons a l=>simp
theorem LP (s:bZ) (L:s.length<=10000) {to_:Int} (S:to_<=s.length) (B:Int) (U:B<=10000000000000) (g:Int) (i j:Bool) (q:kP) (u:bZ) (v x y z:Int) (A:Bool) (D:List Int) (E:bZ):
  ∀(N:Nat) (at_:Int) (J:Bool) (h o:bZ),0<N->to_-at_<N->0<=at_->at_<=s.length->(o.length:Int)+h.length<=B+10000*at_->
  ∃G d o',kY N to_ J at_ g i j q u (dA h) v x y z A D s (dn s) (PT s) E (dA o)=
   a6 (.inl ((G,()),((g,i,j,q,()),(u,()),(),(),()),(dA d,(v,x,y,z,A,()),D,(),(),(s,dn s,()),PT s,(),(E,()),dA o',(),())))/\
   o'++d=o++h++qP s (dn s) to_ N at_/\(o'.length:Int)+d.length<=B+10000*s.length
 |0,at_,J,h,o,hN,_,_,_,_=>by omega
 |N+1,at_,J,h,o,hN,ak,K,h1,hh=>by
  (rewrite [kY,yx];delta mM mJ kw iQ eX;rw[qP])
  by_cases e:at_<to_
  .have al:= @UY s at_;have an:=NH s (dn s) at_;have V: ∀(c:bZ) (nx:Int),c=(iL s (dn s) at_).2.1->nx=(iL s (dn s) at_).1->nx<=s.length->
     ∃G d o',(bif dY (dA (h++c)) 1 then kY N to_ J nx g i j q u (dA (h++c)) v x y z A D s (dn s) (PT s) E (dA o)else a7)=
      a6 (.inl ((G,()),((g,i,j,q,()),(u,()),(),(),()),(dA d,(v,x,y,z,A,()),D,(),(),(s,dn s,()),PT s,(),(E,()),dA o',(),())))/\
      o'++d=o++h++((iL s (dn s) at_).2.1++qP s (dn s) to_ N (iL s (dn s) at_).1)/\(o'.length:Int)+d.length<=B+10000*s.length:=by
    intro c nx hc M O;subst hc M;rw[cO (xG (by grind))];obtain⟨G,d,o',W,r2,X⟩:=LP s L S B U g i j q u v x y z A D E N (iL s (dn s) at_).1 J (h++(iL s (dn s) at_).2.1) o (by omega) (by omega) (by omega) O (by grind)
    grind
   have push: ∀(l:bZ) (nx:Int),l=o++h++(iL s (dn s) at_).2.1->nx=(iL s (dn s) at_).1->nx<=s.length->
     ∃G d o',(bif dY (dA l) 1 then kY N to_ true nx g i j q u [] v x y z A D s (dn s) (PT s) E (dA l)else a7)=
      a6 (.inl ((G,()),((g,i,j,q,()),(u,()),(),(),()),(dA d,(v,x,y,z,A,()),D,(),(),(s,dn s,()),PT s,(),(E,()),dA o',(),())))/\
      o'++d=o++h++((iL s (dn s) at_).2.1++qP s (dn s) to_ N (iL s (dn s) at_).1)/\(o'.length:Int)+d.length<=B+10000*s.length:=by
    intro l nx hl M O;subst hl M;rw[cO (xG (by grind))];obtain⟨G,d,o',W,r2,X⟩:=LP s L S B U g i j q u v x y z A D E N (iL s (dn s) at_).1 true [] (o++h++(iL s (dn s) at_).2.1) (by omega) (by omega) (by omega) O (by grind);refine⟨G,d,o',W, ?_,X⟩;simp_all
   have Y:dw .i64 at_ 1=at_+1:=dI;rw[cO (fO e),am e];cases hf:wE (dn s) at_ with
   |none=>
    have f:iL s (dn s) at_=(at_+1,sub s at_ (at_+1),false):=by unfold iL;rw[hf]
    rw[aeI hf,show bV 0 0=true from rfl,aa,cO (eu K (by omega)),acP K (by omega),mZ,Y]
    grind
   |some p=>
    obtain⟨I,ao⟩:=wF hf;have t0:=I.t0;have t1:=I.t1;obtain⟨m1,m2,m3⟩:=aeJ L hf;rw[m1,ac,m2,aa];simp only[m3];rw[auG I.f0 (by omega),bI];by_cases hlone:lone p=true
    .have f:iL s (dn s) at_=(at_+1,sub s at_ (at_+1),false):=by simp_all [iL]
     rw[hlone,aa,cO (eu K (by omega)),acP K (by omega),mZ,Y]
     grind
    .rw[show lone p=false by simpa using hlone,ac];have ab:eU .i64 p.2.2.1 p.2.1=p.2.2.1-p.2.1:=iW;have ad:dw .i64 p.2.1 1=p.2.1+1:=dI;simp only[ab,ad,mZ];by_cases h13:p.1=13
     .have au:=I.es h13;have f:iL s (dn s) at_=(p.2.2.1,Vt s p,false):=by simp_all [iL]
      rw[cO (gq h13)];by_cases hto2:p.2.2.1=p.2.1+2
      .rw[dN (jh),cO (eu)];have ae:Vt s p=(if bY s (p.2.1+1)=36\/bY s (p.2.1+1)=96\/bY s (p.2.1+1)=34\/bY s (p.2.1+1)=92 then sub s (p.2.1+1) p.2.2.1
         else if bY s (p.2.1+1)=10 then []else ny s p):=by
        simp_all [Vt]
       have af:ofBytes [bY s (p.2.1+1)]=sub s (p.2.1+1) p.2.2.1:=by
        grind [acP,BZ]
       simp only[af];by_cases b1:bY s (p.2.1+1)=36
       .simp_all [gq]
       .rw[dN (dZ b1)];by_cases b2:bY s (p.2.1+1)=96
        .simp_all [gq]
        .rw[dN (dZ b2)];by_cases b3:bY s (p.2.1+1)=34
         .simp_all [gq]
         .rw[dN (dZ b3)];by_cases b4:bY s (p.2.1+1)=92
          .simp_all [gq]
          .rw[dN (dZ b4)];have ag: ¬(bY s (p.2.1+1)=36\/bY s (p.2.1+1)=96\/bY s (p.2.1+1)=34\/bY s (p.2.1+1)=92):=by omega
           by_cases b5:bY s (p.2.1+1)=10
           .rw[cO (gq b5)]
            grind
           .rw[dN (dZ b5),cO (gu I.f0 (by omega) (by rw[bP];omega))];exact V _ _ (by rw[f,ae,aq ag,aq b5];rfl) (by rw[f]) (by omega)
      .rw[cO (fO)];exact V _ _ (by simp_all [Vt]) (by rw[f]) (by omega)
     .have f:iL s (dn s) at_=(p.2.2.1,ny s p,true):=by simp_all [iL]
      rw[dN (dZ h13)];have ah:fH (bM s) p.2.1 p.2.2.1=true:=gu I.f0 (by omega) (by rw[bP];omega);simp only[BZ,mZ,ah,aa];rcases Xf h with ⟨Z,hl⟩|⟨Z,hl⟩
      .subst Z;rw[dN (jh)];exact push _ _ (by rw[f,List.append_nil];rfl) (by rw[f]) (by omega)
      .rw[cO (fO hl),cO (xG (by grind))];exact push _ _ (by rw[f];rfl) (by rw[f]) (by omega)
  .rw[dN (iE e),aq e]
   grind
theorem RP (s:bZ) (A:s.length<=10000) (f i:bZ): ∀(N:Nat) (at_:Int) (h o:bZ),(s.length:Int)-at_<N->0<=at_->at_<=s.length->(o.length:Int)+h.length<=200000000*at_->
  ∃d o',jr N at_ f (dA h) s (dn s) (PT s) i (dA o)=
   a6 (.inl ((),((f,()),(),(),()),(dA d,(),(),(s,dn s,()),PT s,(),(i,()),dA o',(),())))/\
   o'++d=o++h++lm s (dn s) N at_/\(o'.length:Int)+d.length<=200000000*s.length
 |0,at_,h,o,hN,_,_,_=>by omega
 |N+1,at_,h,o,hN,h0,h1,hh=>by
  (rewrite [jr,yw];delta su rZ rY rX rW iG ku jZ oP dB;rw[lm])
  by_cases e:at_<s.length
  .have av:= @UZ s at_;have ad:=afz (s:=s) e;have aw:(stepT s (dn s) at_).2.length<=100010000:=by
    have h1:=NI s (dn s) at_;have h2:s.length*s.length<=10000*10000:=Nat.mul_le_mul A A;omega
   have go: ∀(g l:bZ) (nx:Int),l++g=o++h++(stepT s (dn s) at_).2->nx=(stepT s (dn s) at_).1->
     ∃d o',jr N nx f (dA g) s (dn s) (PT s) i (dA l)=
      a6 (.inl ((),((f,()),(),(),()),(dA d,(),(),(s,dn s,()),PT s,(),(i,()),dA o',(),())))/\
      o'++d=o++h++((stepT s (dn s) at_).2++lm s (dn s) N (stepT s (dn s) at_).1)/\(o'.length:Int)+d.length<=200000000*s.length:=by
    intro g l nx hl G;subst G;have J:=congrArg List.length hl;simp only[aj]at J;obtain⟨d,o',D,E,r3⟩:=RP s A f i N (stepT s (dn s) at_).1 g l (by omega) (by omega) ad (by omega)
    grind
   have ae: ∀x:bZ,x.length<=200000000->dY (dA (h++x)) 1=true:=fun x K=>xG (by grind);have V: ∀x:bZ,x.length<=200000000->dY (dA (o++x)) 1=true:=fun x K=>xG (by grind);have af:dY (dA (o++h)) 1=true:=xG (by grind);have W: ∀x:bZ,x.length<=200000000->dY (dA (o++h++x)) 1=true:=fun x K=>xG (by grind);have ax:dw .i64 at_ 1=at_+1:=dI;have y: ∀a b,(sub s a b).length<=200000000:=fun a b=>by grind [I7]
   rw[cO (fO (b:=bM s) e),am e];cases hf:wE (dn s) at_ with
   |none=>
    have j:stepT s (dn s) at_=(at_+1,sub s at_ (at_+1)):=by unfold stepT;rw[hf]
    rw[aeI hf,show bV 0 0=true from rfl,aa];simp_all [acP,mZ,eu,kW,fJ]
   |some p=>
    obtain⟨v,ay⟩:=wF hf;have t0:=v.t0;have t1:=v.t1;obtain⟨m1,m2,m3⟩:=aeJ A hf;have ag:fH (bM s) p.2.1 p.2.2.1=true:=gu v.f0 (by omega) (by rw[bP];omega);have ah:fH (bM s) (p.2.1+1) p.2.2.1=true:=gu (by omega) (by omega) (by rw[bP];omega);have ak:dw .i64 p.2.1 1=p.2.1+1:=dI;rw[m1,ac,m2,aa];simp only[m3];rw[auG v.f0 (by omega),bI];simp only[ak,ag,ah,BZ,mZ,aa,ae _ (y _ _),V _ (y _ _),W _ (y _ _),af];have L: ∀(x:bZ),x.length<=200000000->x=(stepT s (dn s) at_).2->p.2.2.1=(stepT s (dn s) at_).1->
     ∃d o',(bif fP h []then jr N p.2.2.1 f [] s (dn s) (PT s) i (dA (o++x))
      else jr N p.2.2.1 f [] s (dn s) (PT s) i (dA (o++h++x)))=
      a6 (.inl ((),((f,()),(),(),()),(dA d,(),(),(s,dn s,()),PT s,(),(i,()),dA o',(),())))/\
      o'++d=o++h++((stepT s (dn s) at_).2++lm s (dn s) N (stepT s (dn s) at_).1)/\(o'.length:Int)+d.length<=200000000*s.length:=by
     intro x K X G;by_cases z:h=[]
     .subst z;rw[cO (by rfl)];exact go [] _ _ (by rw[<-X];simp) G
     .rw[dN (by simpa [fP] using z)];exact go [] _ _ (by rw[<-X];simp) G
    by_cases hpl':lone p=true\/p.1=14
    .have j:stepT s (dn s) at_=(p.2.2.1,ny s p):=by simp_all [stepT]
     have:=go (h++sub s p.2.1 p.2.2.1) o p.2.2.1 (by rw[j,ai];rfl) (by rw[j]);by_cases I:lone p=true
     .simp_all
     .have M:p.1=14:=hpl'.resolve_left I;simp only[show lone p=false by simpa using I,M,show bV 14 14=true from rfl,aa,ac];exact this
    .have I:lone p=false:=by
      simp_all
     have M:p.1≠14:=fun h=>hpl' (.inr h);simp only[I,dZ M,ac];by_cases h13:p.1=13
     .have aB:=v.es h13;have j:stepT s (dn s) at_=(p.2.2.1,Vu s p):=by simp_all [stepT]
      simp only[gq h13,dZ (show p.1≠4 by omega),aa,ac];by_cases hto2:p.2.2.1=p.2.1+2
      .have O:sub s (p.2.1+1) p.2.2.1=[s.getD (p.2.1+1).toNat 0]:=by
        obtain⟨n,hn⟩:=Int.eq_ofNat_of_zero_le (show 0<=p.2.1+1 by omega);have Y:n<s.length:=by omega
        rw[hn,show p.2.2.1=((n+1:Nat):Int) by omega,vT,aA Y,List.take_succ_cons,List.take_zero,aV,List.getD_eq_getElem?_getD,List.getElem?_eq_getElem Y];rfl
       have al:fP (sub s (p.2.1+1) p.2.2.1) []=false:=by rw[O];simp[fP]
       rw[al,az,aa];by_cases b5:bY s (p.2.1+1)=10
       .have:fP (sub s (p.2.1+1) p.2.2.1) [10]=true:=by
         rw[O];unfold bY at b5;have an:s.getD (p.2.1+1).toNat 0=10:=UInt8.toNat_inj.1 (by show _=10;omega);rw[an];rfl
        simp_all [Vu]
       .have:fP (sub s (p.2.1+1) p.2.2.1) [10]=false:=by
         rw[O];have Z:s.getD (p.2.1+1).toNat 0≠10:=fun h=>b5 (by unfold bY;rw[h];rfl);simpa [fP] using Z
        rw[this,az,aa];exact L _ (y _ _) (by simp_all [Vu]) (by rw[j])
      .have ao:sub s (p.2.1+1) p.2.2.1=[]:=by
        grind [sub]
       rw[ao,show(!fP ([]:bZ) [])=false from rfl,ac];simp_all [Vu]
     .simp only[dZ h13,ac];by_cases h4:p.1=4
      .have j:stepT s (dn s) at_=(p.2.2.1,sub s (p.2.1+1) (xk p)):=by simp_all [stepT]
       have ab:p.2.1+1<=xk p/\xk p<=p.2.2.1:=by
        unfold xk;by_cases B:p.2.2.2.2.1=true
        .grind
        .rw[aq B];have:=v.sh (by simpa using B) (by omega);omega
       simp only[gq h4,aa];rw[adY A v (.inl h4),bI];simp only[gu (n:=bM s) (lo:=p.2.1+1) (hi:=xk p) (by omega) ab.1 (by rw[bP];omega),aa,V _ (y _ _),W _ (y _ _)];exact L _ (y _ _) (by rw[j]) (by rw[j])
      .simp only[dZ h4,ac];by_cases h5:p.1=5
       .have j:stepT s (dn s) at_=(p.2.2.1,qP s (dn s) (xk p) s.length (p.2.1+1)):=by simp_all [stepT]
        have ab:p.2.1+1<=xk p/\xk p<=p.2.2.1:=by
         unfold xk;by_cases B:p.2.2.2.2.1=true
         .grind
         .rw[aq B];have:=v.sh (by simpa using B) (by omega);omega
        simp only[gq h5,aa,adY A v (.inr h5),bI];have dbl: ∀(q:bZ),q=o++h-> ∃u d o',kY bQ (xk p) false (p.2.1+1) p.2.2.1 true true (p.1,(p.2.1,(p.2.2.1,(p.2.2.2.1,(p.2.2.2.2.1,()))))) f [] p.1 p.2.1 p.2.2.1 p.2.2.2.1 p.2.2.2.2.1 (dA h) s (dn s) (PT s) i (dA q)=
          a6 (.inl ((u,()),((p.2.2.1,true,true,(p.1,(p.2.1,(p.2.2.1,(p.2.2.2.1,(p.2.2.2.2.1,()))))),()),(f,()),(),(),()),(dA d,(p.1,p.2.1,p.2.2.1,p.2.2.2.1,p.2.2.2.2.1,()),dA h,(),(),(s,dn s,()),PT s,(),(i,()),dA o',(),())))/\
          o'++d=o++h++(stepT s (dn s) at_).2:=by
         intro q Z;obtain⟨u,d,o',D,E,r3⟩:=LP s A (to_:=xk p) (by omega) 10000000000000 (by omega) p.2.2.1 true true (p.1,(p.2.1,(p.2.2.1,(p.2.2.2.1,(p.2.2.2.2.1,()))))) f p.1 p.2.1 p.2.2.1 p.2.2.2.1 p.2.2.2.2.1 (dA h) i bQ (p.2.1+1) false [] q (by unfold bQ;omega) (by have:=dX (n:=s.length) (by omega);omega) (by omega) (by omega) (by grind);refine⟨u,d,o',D, ?_⟩
         grind [LQ,bQ]
        have tail: ∀(u:Bool) (d o':bZ),o'++d=o++h++(stepT s (dn s) at_).2->
          ∃S U,(bif bV (bM (dA d)) 0 then
            bif u then jr N p.2.2.1 f [] s (dn s) (PT s) i (dA o')
            else bif dY (dA (o'++d)) 1 then jr N p.2.2.1 f [] s (dn s) (PT s) i (dA (o'++d))else a7
           else bif dY (dA (o'++d)) 1 then jr N p.2.2.1 f [] s (dn s) (PT s) i (dA (o'++d))else a7)=
           a6 (.inl ((),((f,()),(),(),()),(dA S,(),(),(s,dn s,()),PT s,(),(i,()),dA U,(),())))/\
           U++S=o++h++((stepT s (dn s) at_).2++lm s (dn s) N (stepT s (dn s) at_).1)/\(U.length:Int)+S.length<=200000000*s.length:=by
         intro u d o' B;have J:=congrArg List.length B;simp only[aj]at J;have au:dY (dA (o'++d)) 1=true:=xG (by grind);have g1:=go [] (o'++d) p.2.2.1 (by simp_all) (by rw[j]);rw[au,aa];rcases Xf d with ⟨z,hl⟩|⟨z,hl⟩
         .rw[cO (gq hl)];rw[z,List.append_nil]at g1 ⊢;cases u<;>exact g1
         .rw[dN (dZ)];exact g1
        by_cases z:h=[]
        .rw[cO (by rw[z];rfl)];obtain⟨u,d,o',D,E⟩:=dbl o (by simp_all);rw[D,bI];simp only[dW,aa,BZ,mZ];exact tail u d o' E
        .rw[dN (by simpa [fP] using z)];obtain⟨u,d,o',D,E⟩:=dbl (o++h) rfl;rw[D,bI];simp only[dW,aa,BZ,mZ];exact tail u d o' E
       .have j:stepT s (dn s) at_=(p.2.2.1,ny s p):=by simp_all [stepT]
        simp only[dZ h5,ac];exact L _ (y _ _) (by rw[j];rfl) (by rw[j])
  .rw[dN (iE (by rw[bP];omega)),aq e]
   grind
theorem aDn (s:bZ) (e:s.length<=10000):ajn s=a6 (Jo s,()):=by
 have hl:=CE s;rw[ajn,aLD s (by omega),bI];simp only;have f:=Xv (dn s) (by omega) s [] s s (dn s) [] bQ 0 [] (dX) (by omega);rw[show pO bQ (dn s) (bM (dn s)) 0 s [] s s (dn s) [] []=_ from f,bI];simp only[dW,aS];obtain⟨g,l,i,d,o⟩:=RP s e [] [] bQ 0 [] [] (by have:=dX (n:=s.length) (by omega);omega) (by omega) (by omega) (by simp);rw[show jr bQ 0 [] [] s (dn s) (OZ [] 0 (dn s)) [] []=_ from i,bI];have j:lm s (dn s) bQ 0=Jo s:=Ig s _ _ _ (by have:=dX (n:=s.length) (by omega);omega) (by omega);rw[j,aF,aF]at d;simp only[dW,BZ,mZ,fJ,aa];rw[cO (xG (by grind)),d];by_cases he:g=[]
 .simp_all
 simp_all [dN,fP]
end
section
open Bool renaming false_eq_true → ag, not_true → ax, and_true → ay, not_false → az, not_eq_true → bg
open Int renaming toNat_natCast → aV
open List renaming drop_eq_getElem_cons → aA, length_cons → aG, length_drop → aP
open Go.RowKit
theorem ai1 {l:List Dlm} (h:l.length<=1000000):qN l=some (l,()):=by
 grind [qN,vC,lN]
theorem aqf {s:List UInt8} (d:s.length<=10000) {a:Nat} (e:a<s.length):adA s (a:Int)=some (((qI s a:Nat):Int),()):=by
 grind [aH4,qI]
theorem aqJ {s:List UInt8} {a:Nat} (d:a<s.length):ul (s.drop a)≠0↔lW (bY s a)=true\/pI (s.drop a)=true:=by
 grind [byte_at,aA,zI]
theorem aqA (t:bZ): ∀n,(PG t n).2≠0->ofF (t.take (PG t n).2)=(PG t n).1
 |0,h=>absurd rfl h
 |n+1,h=>by
  rw[PG]at h ⊢;split
  .rfl
  .rename_i d
   rw[aq d]at h;exact aqA t n h
theorem aya {s:List UInt8} (f:s.length<=10000) {a:Nat} (d:a<s.length):ajf s (a:Int)=some (jG s a,()):=by
 have e:fV s (a:Int)=true:=eu;obtain⟨k,g,i,u⟩:=aAv (lG s a);have v:=aqJ d
 (rewrite [ajf];delta YL;rw[aLA (by omega) d,bI,cO e,g,bI])
 simp only[i,e,aa,arz (show a<=s.length by omega),bI,ayz (show s.length<1000000 by omega) (show a<=s.length by omega)];by_cases hb:ul (s.drop a)≠0
 .have x:jG s a=(1,(a:Int),((a+ul (s.drop a):Nat):Int),false,()):=by simp_all [jG]
  grind
 .have j:lW (bY s (a:Int))=false:=by
   simp_all
  have l:pI (s.drop a)=false:=by
   simp_all
  rw[j,l,ac,ac];unfold jG;rw[aq hb];by_cases h10:bY s (a:Int)=10
  .rw[cO (gq h10),am h10,dI];rfl
  .rw[dN (dZ h10),aq h10];by_cases h35:bY s (a:Int)=35
   .rw[cO (gq h35),am h35,auz (by omega) (by omega),bI]
   .rw[dN (dZ h35),aq h35];have o:=(PV (s.drop a)).1;rw[aP]at o;by_cases hop:(Af (s.drop a)).2≠0
    .rw[cO (fO),am hop]
     grind [dI]
    .rw[dN (jh),aq hop,avk (by omega) (by omega),bI];by_cases hn:yT (s.drop a)≠0
     .rw[cO (fO),am hn,bI]
     .rw[dN (jh),aq hn,aqf f d,bI];have y:=Vm (s:=s) (a:=a) (by omega);have z:=RJ (s:=s) (a:=a) (b:=qI s a);obtain⟨t,p,q⟩:=amY (RI s a (qI s a)) (by omega);simp only;rw[cO (gu (by omega) (by omega) (by rw[bP];omega)),acC,p,bI];simp only;rw[q];rfl
theorem aqH {s:List UInt8} (g:s.length<=10000) {a:Nat} (i:a<s.length) {x:Vs} (hl:x.2.1.length<=100000):
  ajg (sub s (jG s a).2.1 (jG s a).2.2.1) (jG s a).1 (x.1,(x.2.1,(x.2.2.1,())))=some (kQ s a x,()):=by
 rw[ajg];simp only[ai1 (show x.2.1.length<=1000000 by omega),bI];unfold jG kQ;by_cases hb:ul (s.drop a)≠0
 .rw[am hb,am hb];rfl
 .rw[aq hb,aq hb];by_cases h10:bY s (a:Int)=10
  .have d:gY 0 (bM x.2.1)=decide (0<x.2.1.length):=by
    simp_all [gY,bM]
   rw[am h10,am h10,<-d];rfl
  .rw[aq h10,aq h10];by_cases h35:bY s (a:Int)=35
   .rw[am h35,am h35];rfl
   .rw[aq h35,aq h35];by_cases hop:(Af (s.drop a)).2≠0
    .rw[am hop,am hop];simp only;rw[show bV 4 1=false from rfl,ac,show bV 4 2=false from rfl,ac,show bV 4 4=true from rfl,aa,vT,avm,bI];have:ofF ((s.drop a).take (Af (s.drop a)).2)=(Af (s.drop a)).1:=aqA _ _ hop;rw[this];simp only;by_cases h4:(Af (s.drop a)).1=4
     .simp_all [gq]
     .rw[dN (dZ)];by_cases e:(Af (s.drop a)).1=5
      .simp_all [gq]
      .rw[dN (dZ),aq (by omega)]
    .rw[aq hop,aq hop];by_cases hn:yT (s.drop a)≠0
     .rw[am hn,am hn];rfl
     .rw[aq hn,aq hn];have j:=RJ (s:=s) (a:=a) (b:=qI s a);simp only;rw[show bV 6 1=false from rfl,ac,show bV 6 2=false from rfl,ac,show bV 6 4=false from rfl,ac,show bV 6 6=true from rfl,aa,acC];by_cases h0:x.1=0
      .simp_all [gq]
      .have e:bV x.1 5=decide (x.1=5):=rfl;have f: ∀y,dY (bT x.2.1 [y]) 24=true:=fun y=>lN (by grind [bT]);rw[dZ h0,az,aa,aq h0,aDn _ (by omega),bI];simp only[kW,fJ,iC,f,aa,ay];rfl
theorem aDu {s:List UInt8} (g:s.length<=10000) {a:Nat} (i:a<s.length) (x:Vs) (hp:x.2.2.1=true->x.2.1≠[]) (hl:x.2.1.length<=100000):
  azc s (a:Int) x=some ((jP s a x).1,((jP s a x).2,())):=by
 obtain⟨f,e,o,u⟩:=x;cases u;simp only at hp hl
 (rewrite [azc];delta ag2 ag1;rw[dN (jh),dN (Hl (by rw[bP];omega))])
 unfold jP;cases o with
 |true=>
  obtain⟨d,r,rfl⟩: ∃d r,e=d::r:=by
   cases e with
   |nil=>simp_all
   |cons d r=>simp
  simp only[aa,if_true];rw[cO (fO (by simp_all [bP])),aEd];simp only;rw[cO (eu (by omega) (by simp)),show dJ (d::r) ([],(false,())) 0=d from rfl,aEh (by omega) d (by omega),bI];simp only[List.headD_cons];by_cases hh:(Dk s d.1 d.2.1 a).2=true
  rotate_left
  .rw[bg]at hh;simp only[hh,ag,if_false,az,aa,fJ,iF,iC,ay,bI]
  .have p:sub (d::r) 1 (bM (d::r))=r:=by simp[sub,bP]
   have q:gY 0 (bM r)=decide (1<(d::r).length):=by
    simp_all [gY,bM]
   have j:fH (bM (d::r)) 1 (bM (d::r))=true:=gu (by omega) (by grind [bP]) (by omega);rw[aG]at hl;simp only[hh,if_true,ax,ac,j,p,aa,ai1 (show r.length<=1000000 by omega),bI,fJ,iC,ay,q];rfl
 |false=>
  simp only[ac,ag,if_false];have l:=EO g i (f,(e,(false,())));have v:jP s a (f,(e,(false,())))=(jG s a,kQ s a (f,(e,(false,())))):=by rfl
  rw[v]at l;simp only at l;rw[aya g i,bI];simp only;have j:fH (bM s) (jG s a).2.1 (jG s a).2.2.1=true:=gu (by omega) (by omega) (by rw[bP];omega);rw[j,aa,aqH g i (x:=(f,(e,(false,())))) hl,bI];simp only[kW,fJ,iC,iF,aa,ay]
theorem WV {s:List UInt8} (d:s.length<=10000) (f:Int) (g:Bool): ∀(N a:Nat) (l:List Tok) (x:Vs) (t:Tok),s.length-a<N->a<=s.length->OkX x->x.2.1.length<=a->l.length<=a->
  vI N (a:Int) t.1 t.2.1 t.2.2.1 t.2.2.2.1 x.1 x.2.1 x.2.2.1 s l x.1 x.2.1 x.2.2.1 f g=
   some (.inl ((),((),(),(),()),((s,()),(),(oN s N a l x).1,((oN s N a l x).2.1,(oN s N a l x).2.2.1,(oN s N a l x).2.2.2.1,()),(),(f,g,()),())))
 |0,a,l,x,t,h,_,_,_,_=>by omega
 |N+1,a,l,x,t,h,v,i,z,hl=>by
  rw[vI,Gs,oN];by_cases e:a<s.length
  .have A:=EO d e x;have p:=U0 s a i;have q:(x.1,(x.2.1,(x.2.2.1,())))=x:=rfl;rw[cO (fO (by rw[bP];omega)),q,aDu d e x i (by omega),bI,am e];have u: ∀y,dY (bT l [y]) 32=true:=fun y=>lN (by grind [bT]);simp only[u,fJ,iC,iF,aa,ay];obtain⟨b,j⟩: ∃b:Nat,(jP s a x).1.2.2.1=(b:Int):=⟨(jP s a x).1.2.2.1.toNat,by omega⟩;have o:=WV d f g N b (l++[(jP s a x).1]) (jP s a x).2 (jP s a x).1 (by omega) (by omega) p.1 (by omega) (by grind);rw[j]at o ⊢;rw[aV,<-o];rw[<-j];rfl
  simp_all [iE,bP,aq]
theorem aIa {s:List UInt8} (d:s.length<=10000):aoe s=some ((zV s).1,((zV s).2,())):=by
 have h:=WV d 0 false bQ 0 [] (0,[],false,()) (0,0,0,false,()) (dX) (by omega) (fun h=>by cases h) (by simp) (by simp);have e:oN s bQ 0 [] (0,[],false,())=zV s:=MF d _ _ _ _ _ (by have:=dX (n:=s.length) (by omega);omega) (by omega);rw[aoe,show vI bQ 0 0 0 0 false 0 [] false s [] 0 [] false 0 false=_ from h,bI,e];rfl
end
section
open Bool renaming and_true → ay
open Int renaming toNat_natCast → aV
open List renaming length_append → aj, length_map → aQ, getElem_mem → aX, length_singleton → bC, take_of_length_le → bD
open Go.RowKit
theorem JU {s:List UInt8} (v:s.length<=10000) (l:List Tok) (hl:l.length<=10000) (g: ∀t∈l,OkT s t): ∀(N k:Nat),l.length-k<N->k<=l.length->
  D8 N s l (bM l) (k:Int) (iV s (l.take k))=some (.inl ((),(iV s l,())))
 |0,k,h,_=>by omega
 |N+1,k,h,hk=>by
  (rewrite [D8,acg];delta Az ui ed)
  by_cases e:k<l.length
  .have x:dJ l (0,(0,(0,(false,())))) (k:Int)=l[k]:=by
    unfold dJ;rw[aV,List.getD_eq_getElem?_getD,List.getElem?_eq_getElem e];rfl
   have z:fV l (k:Int)=true:=eu;obtain⟨A,I,J⟩:=g _ (aX e);have B:fH (bM s) l[k].2.1 l[k].2.2.1=true:=gu A (by omega) (by rw[bP];omega);have K:(iV s (l.take k)).length<=10000:=by
    unfold iV;rw[aQ];have:=List.length_filter_le Y5 (l.take k);rw[List.length_take]at this;omega
   have D: ∀y,dY (bT (iV s (l.take k)) [y]) 40=true:=fun y=>lN (by unfold bT;simp only[aj,bC];omega);have i:=JU v l hl g N (k+1) (by omega) (by omega);have j:l.take (k+1)=l.take k++[l[k]]:=by rw[List.take_add_one,List.getElem?_eq_getElem e];rfl
   have E:dw .i64 (k:Int) 1=((k+1:Nat):Int):=by rw[dI];omega
   have o:gY l[k].2.1 0=false:=jh;have p:gY l[k].2.2.1 l[k].2.1=false:=jh;have q:gY (bM s) l[k].2.2.1=false:=jh (by rw[bP];omega);have G:ay5 s (l[k].1,(l[k].2.1,(l[k].2.2.1,(l[k].2.2.2.1,()))))=some (sub s l[k].2.1 l[k].2.2.1,()):=by
    rw[ay5];simp only[o,p,q,B,aa,ac]
   have d:Y5 l[k]=true->D8 N s l (bM l) ((k+1:Nat):Int) (bT (iV s (l.take k)) [(l[k].1,(sub s l[k].2.1 l[k].2.2.1,(l[k].2.1,(l[k].2.2.1,()))))])=some (.inl ((),(iV s l,()))):=fun f=>by
    rw[<-i];congr 1;unfold iV;rw[j,List.filter_append,List.map_append,List.filter_cons_of_pos f];rfl
   have u:Y5 l[k]=false->D8 N s l (bM l) ((k+1:Nat):Int) (iV s (l.take k))=some (.inl ((),(iV s l,()))):=fun f=>by
    rw[<-i];congr 1;unfold iV;rw[j,List.filter_append,List.filter_cons_of_neg (by rw[f];simp)];simp
   rw[cO (fO (by rw[bP];omega)),z,aa];simp only[x,o,p,q,ac,E,G,bI,fJ,kW,iC,ay,aa,D];unfold Y5 at d u;by_cases h4:l[k].1=4
   .simp only[gq h4,aa];exact d (by simp[h4])
   .by_cases h5:l[k].1=5
    .simp only[dZ h4,gq h5,aa,ac];exact d (by simp[h5])
    .by_cases h6:l[k].1=6
     .simp only[dZ h4,dZ h5,gq h6,aa,ac];exact d (by simp[h6])
     .by_cases h2:l[k].1=2
      .simp only[dZ h4,dZ h5,dZ h6,gq h2,aa,ac];exact d (by simp[h2])
      .simp only[dZ h4,dZ h5,dZ h6,dZ h2,aa,ac];exact u (by simp[h2,h4,h5,h6])
  .rw[dN (iE (by rw[bP];omega)),bD (by omega)]
theorem aqt {s:List UInt8} (d:s.length<=10000):aof s (zV s).1=some (iV s (zV s).1,()):=by
 obtain⟨e,f,g⟩:=akd d;have h:=JU d (zV s).1 (by omega) e bQ 0 (dX) (by omega);rw[aof,show D8 bQ s (zV s).1 (bM (zV s).1) 0 []=_ from h,bI];rfl
end
end Go.Proofs.YtlhpdcadgbjhiaaGreatDoor
