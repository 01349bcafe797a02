/- Parts of the proof, joined and shortened by a program: the plain machine, the functions as it prints them, and the mathematics over them. -/
import Derived.Test.YtkichehglnecnaaGreatDoorZ4
import Derived.Test.YtkichehglnecnaaGreatDoorZ5
import Derived.Test.YtkichehglnecnaaGreatDoorZ6
set_option linter.unusedVariables false
set_option linter.unusedSimpArgs false
set_option maxRecDepth 100000
set_option maxHeartbeats 4000000
namespace Go.Proofs.YtkichehglnecnaaGreatDoor
section
open Option renaming some → a6, none → a7
open Bool renaming not_false → aA
open Int renaming toNat_natCast → aS
open List renaming append_assoc → ah, length_append → ai, nil_append → aB, drop_eq_getElem_cons → aF, drop_of_length_le → aI, drop_zero → aY, append_nil → bg
open Go.RowKit
theorem apP (t:bV):(cZ t).length=t.length:=by simp[cZ]
theorem uU (t:bV):ofBytes (cZ t)=t:=by simp[ofBytes,cZ,Function.comp_def]
theorem lq (a b:bV):bU (cZ a) (cZ b)=cZ (a++b):=by simp[bU,cZ]
theorem aN6:cZ []=([]:List Int):=rfl
theorem IC {s:List UInt8} {i:Int} (e:0<=i) (h:i<s.length):[cu s i]=cZ (sub s i (i+1)):=by
 obtain⟨n,rfl⟩:=Int.eq_ofNat_of_zero_le e;have d:n<s.length:=by omega
 rw[show(n:Int)+1=((n+1:Nat):Int) by omega,vC,aF d,List.take_succ_cons,List.take_zero,byte_at d];rfl
theorem apS (M:List lW) (a b c:Int):nV (xe M a b) c=if c=a then b else nV M c:=by
 unfold nV
 induction M with
 |nil=>
  unfold xe Hm;by_cases h:c=a
  .simp_all [eG]
  .rw[dG (dM h),aq h];rfl
 |cons e M d=>
  obtain⟨k,v⟩:=e;unfold xe;by_cases h1:a=k
  .rw[bW (eG h1)];subst h1;unfold Hm;by_cases h:c=a
   .simp_all [eG]
   simp_all [dM]
  .rw[dG (dM h1)];unfold Hm;by_cases h:c=k
   .grind
   simp_all [dM]
def Ik (M:List lW):Nat->List jY->List lW
 |_,[]=>M
 |k,p::l=>Ik (xe M p.2.1 ((k+1:Nat):Int)) (k+1) l
theorem MC (c:Int): ∀(l:List jY) (M:List lW) (k:Nat),l.Pairwise (fun p q=>p.2.1<q.2.1)->
  (jE l c=a7/\nV (Ik M k l) c=nV M c)\/(∃p,jE l c=a6 p/\ ∃j,l[j]? =a6 p/\nV (Ik M k l) c=((k+j+1:Nat):Int))
 |[],M,k,_=>.inl ⟨rfl,rfl⟩
 |p::l,M,k,h=>by
  obtain⟨o,i⟩:=List.pairwise_cons.1 h;have g:=MC c l (xe M p.2.1 ((k+1:Nat):Int)) (k+1) i;rw[Ik];unfold jE at*;rw[List.find?_cons];by_cases e:p.2.1=c
  .rw[show(p.2.1==c)=true by simpa using e];refine .inr ⟨p,rfl,0,rfl, ?_⟩;rcases g with ⟨d,f⟩|⟨q,d,j,f,m⟩
   .simp_all [apS]
   grind
  .rw[show(p.2.1==c)=false by simpa using e];rcases g with ⟨d,f⟩|⟨q,d,j,f,m⟩
   .exact .inl ⟨d,by rw[f,apS,aq (fun h=>e h.symm)]⟩
   .exact .inr ⟨q,d,j+1,f,by omega⟩
def Gx (s:bV):List lW:=Ik [] 0 (bP s)
theorem OA {s:List UInt8} {c:Int} (h:jE (bP s) c=a7):nV (Gx s) c=0:=by
 rcases MC c (bP s) [] 0 (QB s)with ⟨_,h2⟩|⟨p,h1,_⟩
 .exact h2
 simp_all
theorem OB {s:List UInt8} (d:s.length<=10000) {c:Int} {p:jY} (h:jE (bP s) c=a6 p):
  bY (nV (Gx s) c) 0=false/\gy (bP s) (eP .i64 (nV (Gx s) c) 1)=true/\ed (bP s) (0,(0,(0,(0,(false,()))))) (eP .i64 (nV (Gx s) c) 1)=p:=by
 rcases MC c (bP s) [] 0 (QB s)with ⟨h1,_⟩|⟨q,h1,j,h2,h3⟩
 .simp_all
 .rw[h]at h1;cases h1;obtain⟨e,f⟩:=List.getElem?_eq_some_iff.1 h2
  grind [uV,Gx,ig,dM,eF,ed]
theorem aax (L:List jY) (hl:L.length<1000000) (a b c d:bV) (e:List jY) (f:List Int): ∀(N k:Nat) (M:List lW),L.length-k<N->k<=L.length->
  uQ N L (bK L) (k:Int) a b c d e M f=a6 (.inl ((),((a,b,c,()),(),()),((d,e,()),Ik M k (L.drop k),(),f,())))
 |0,k,M,h,_=>by omega
 |N+1,k,M,h,hk=>by
  rw[uQ,F7];by_cases e1:k<L.length
  .have g:ed L (0,(0,(0,(0,(false,()))))) (k:Int)=L[k]:=by
    simp_all [ed]
   rw[bW (fG (by rw[bM];omega)),bW (eF),g,dB,show(k:Int)+1=((k+1:Nat):Int) by omega,
    aax L hl a b c d e f N (k+1) _ (by omega) (by omega),aF e1,Ik]
  .rw[dG (gU (by rw[bM];omega)),aI (by omega)];rfl
theorem acz {p:jY} (d:0<=p.2.1) (e:p.2.1<1000000):V5 (p.1,(p.2.1,(p.2.2.1,(p.2.2.2.1,(p.2.2.2.2.1,())))))=a6 (lone p,()):=by
 rw[V5,lone];simp only;rw[dB];by_cases h:p.1=12
 .rw[bW (eG h)]
  grind [eG,dM]
 simp_all [dM]
theorem NQ {s:List UInt8} (v:s.length<=10000) {p:jY} (d:PF s p) (h:p.1=4\/p.1=5):
  agw (p.1,(p.2.1,(p.2.2.1,(p.2.2.2.1,(p.2.2.2.2.1,())))))=a6 (p.2.1+1,(mQ p,())):=by
 have g:=d.f0;have i:=d.f1;have j:=d.t0;have l:=d.t1;have e:=d.sh;obtain⟨m,f,t,u,o,⟨⟩⟩:=p;have q:agw (m,(f,(t,(u,(o,())))))=bif o then a6 (cO .i64 f 1,(Fh (eP .i64 t 0) (cO .i64 f 1),()))else a6 (cO .i64 f 1,(Fh (eP .i64 t 1) (cO .i64 f 1),())):=by
  rcases h with h|h
  .simp only at h;subst h;rfl
  .simp only at h;subst h;rfl
 simp only at g i j l e h ⊢;rw[q];unfold mQ Fh;cases o with
 |true=>rw[aa,dB,ig,Int.sub_zero,aq (by omega)];rfl
 |false=>
  have:=e rfl (by omega);rw[ac,dB,ig,aq (by omega)];rfl
theorem tY {a:List UInt8} (h:a.length<=140737488355328):eu (cZ a) 1=true:=qR (by rw[apP];omega)
theorem Qu (h:bV):(h=[]/\bK (cZ h)=0)\/(h≠[]/\0<bK (cZ h)):=by
 rw[bM,apP];cases h with
 |nil=>simp
 |cons a l=>simp
theorem PP (s:bV) (L:s.length<=10000) {to_:Int} (S:to_<=s.length) (B:Int) (U:B<=10000000000000) (g:Int) (i j:Bool) (m:jY) (q:bV) (u v x y:Int) (z:Bool) (A:List Int) (D:bV):
  ∀(N:Nat) (at_:Int) (I:Bool) (h o:bV),0<N->to_-at_<N->0<=at_->at_<=s.length->(o.length:Int)+h.length<=B+10000*at_->
  ∃E d o',mD N to_ I at_ g i j m q (cZ h) u v x y z A s (bP s) (Gx s) D (cZ o)=
   a6 (.inl ((E,()),((g,i,j,m,()),(q,()),(),(),()),(cZ d,(u,v,x,y,z,()),A,(),(),(s,bP s,()),Gx s,(),(D,()),cZ o',(),())))/\
   o'++d=o++h++oI s (bP s) to_ N at_/\(o'.length:Int)+d.length<=B+10000*s.length
 |0,at_,I,h,o,hN,_,_,_,_=>by omega
 |N+1,at_,I,h,o,hN,ak,J,h1,hh=>by
  (rewrite [mD,BV];delta oP oO lH jd fO;rw[oI])
  by_cases e:at_<to_
  .have al:= @Iy s at_;have an:=JO s (bP s) at_;have V: ∀(c:bV) (nx:Int),c=(gz s (bP s) at_).2.1->nx=(gz s (bP s) at_).1->nx<=s.length->
     ∃E d o',(bif eu (cZ (h++c)) 1 then mD N to_ I nx g i j m q (cZ (h++c)) u v x y z A s (bP s) (Gx s) D (cZ o)else a7)=
      a6 (.inl ((E,()),((g,i,j,m,()),(q,()),(),(),()),(cZ d,(u,v,x,y,z,()),A,(),(),(s,bP s,()),Gx s,(),(D,()),cZ o',(),())))/\
      o'++d=o++h++((gz s (bP s) at_).2.1++oI s (bP s) to_ N (gz s (bP s) at_).1)/\(o'.length:Int)+d.length<=B+10000*s.length:=by
    intro c nx hc M O;subst hc M;rw[bW (tY (by grind))];obtain⟨E,d,o',W,r2,X⟩:=PP s L S B U g i j m q u v x y z A D N (gz s (bP s) at_).1 I (h++(gz s (bP s) at_).2.1) o (by omega) (by omega) (by omega) O (by grind)
    grind
   have push: ∀(l:bV) (nx:Int),l=o++h++(gz s (bP s) at_).2.1->nx=(gz s (bP s) at_).1->nx<=s.length->
     ∃E d o',(bif eu (cZ l) 1 then mD N to_ true nx g i j m q [] u v x y z A s (bP s) (Gx s) D (cZ l)else a7)=
      a6 (.inl ((E,()),((g,i,j,m,()),(q,()),(),(),()),(cZ d,(u,v,x,y,z,()),A,(),(),(s,bP s,()),Gx s,(),(D,()),cZ o',(),())))/\
      o'++d=o++h++((gz s (bP s) at_).2.1++oI s (bP s) to_ N (gz s (bP s) at_).1)/\(o'.length:Int)+d.length<=B+10000*s.length:=by
    intro l nx K M O;subst K M;rw[bW (tY (by grind))];obtain⟨E,d,o',W,r2,X⟩:=PP s L S B U g i j m q u v x y z A D N (gz s (bP s) at_).1 true [] (o++h++(gz s (bP s) at_).2.1) (by omega) (by omega) (by omega) O (by grind);refine⟨E,d,o',W, ?_,X⟩;simp_all
   have Y:cO .i64 at_ 1=at_+1:=dB;rw[bW (fG e),am e];cases hf:jE (bP s) at_ with
   |none=>
    have f:gz s (bP s) at_=(at_+1,sub s at_ (at_+1),false):=by unfold gz;rw[hf]
    rw[OA hf,show bY 0 0=true from rfl,aa,bW (eF J (by omega)),IC J (by omega),lq,Y]
    grind
   |some p=>
    obtain⟨G,ao⟩:=tX hf;have t0:=G.t0;have t1:=G.t1;obtain⟨m1,m2,m3⟩:=OB L hf;rw[m1,ac,m2,aa];simp only[m3];rw[acz G.f0 (by omega),bI];by_cases hlone:lone p=true
    .have f:gz s (bP s) at_=(at_+1,sub s at_ (at_+1),false):=by simp_all [gz]
     rw[hlone,aa,bW (eF J (by omega)),IC J (by omega),lq,Y]
     grind
    .rw[show lone p=false by simpa using hlone,ac];have ab:eP .i64 p.2.2.1 p.2.1=p.2.2.1-p.2.1:=ig;have ad:cO .i64 p.2.1 1=p.2.1+1:=dB;simp only[ab,ad,lq];by_cases h13:p.1=13
     .have au:=G.es h13;have f:gz s (bP s) at_=(p.2.2.1,Lt s p,false):=by simp_all [gz]
      rw[bW (eG h13)];by_cases hto2:p.2.2.1=p.2.1+2
      .rw[dG (lD),bW (eF)];have ae:Lt s p=(if cu s (p.2.1+1)=36\/cu s (p.2.1+1)=96\/cu s (p.2.1+1)=34\/cu s (p.2.1+1)=92 then sub s (p.2.1+1) p.2.2.1
         else if cu s (p.2.1+1)=10 then []else nK s p):=by
        simp_all [Lt]
       have af:ofBytes [cu s (p.2.1+1)]=sub s (p.2.1+1) p.2.2.1:=by
        grind [IC,uU]
       simp only[af];by_cases b1:cu s (p.2.1+1)=36
       .simp_all [eG]
       .rw[dG (dM b1)];by_cases b2:cu s (p.2.1+1)=96
        .simp_all [eG]
        .rw[dG (dM b2)];by_cases b3:cu s (p.2.1+1)=34
         .simp_all [eG]
         .rw[dG (dM b3)];by_cases b4:cu s (p.2.1+1)=92
          .simp_all [eG]
          .rw[dG (dM b4)];have ag: ¬(cu s (p.2.1+1)=36\/cu s (p.2.1+1)=96\/cu s (p.2.1+1)=34\/cu s (p.2.1+1)=92):=by omega
           by_cases b5:cu s (p.2.1+1)=10
           .rw[bW (eG b5)]
            grind
           .rw[dG (dM b5),bW (fQ G.f0 (by omega) (by rw[bM];omega))];exact V _ _ (by rw[f,ae,aq ag,aq b5];rfl) (by rw[f]) (by omega)
      .rw[bW (fG)];exact V _ _ (by simp_all [Lt]) (by rw[f]) (by omega)
     .have f:gz s (bP s) at_=(p.2.2.1,nK s p,true):=by simp_all [gz]
      rw[dG (dM h13)];have aj:eY (bK s) p.2.1 p.2.2.1=true:=fQ G.f0 (by omega) (by rw[bM];omega);simp only[uU,lq,aj,aa];rcases Qu h with ⟨Z,K⟩|⟨Z,K⟩
      .subst Z;rw[dG (lD)];exact push _ _ (by rw[f,bg];rfl) (by rw[f]) (by omega)
      .rw[bW (fG K),bW (tY (by grind))];exact push _ _ (by rw[f];rfl) (by rw[f]) (by omega)
  .rw[dG (gU e),aq e]
   grind
theorem VL (s:bV) (z:s.length<=10000) (f i:bV): ∀(N:Nat) (at_:Int) (h o:bV),(s.length:Int)-at_<N->0<=at_->at_<=s.length->(o.length:Int)+h.length<=200000000*at_->
  ∃d o',jO N at_ f (cZ h) s (bP s) (Gx s) i (cZ o)=
   a6 (.inl ((),((f,()),(),(),()),(cZ d,(),(),(s,bP s,()),Gx s,(),(i,()),cZ o',(),())))/\
   o'++d=o++h++jP s (bP s) N at_/\(o'.length:Int)+d.length<=200000000*s.length
 |0,at_,h,o,hN,_,_,_=>by omega
 |N+1,at_,h,o,hN,h0,h1,hh=>by
  (rewrite [jO,BU];delta wC wB wz ww wu iW lG lF rH dC;rw[jP])
  by_cases e:at_<s.length
  .have av:= @Ap s at_;have ad:=Yn (s:=s) e;have aw:(stepT s (bP s) at_).2.length<=100010000:=by
    have h1:=JP s (bP s) at_;have h2:s.length*s.length<=10000*10000:=Nat.mul_le_mul z z;omega
   have go: ∀(g l:bV) (nx:Int),l++g=o++h++(stepT s (bP s) at_).2->nx=(stepT s (bP s) at_).1->
     ∃d o',jO N nx f (cZ g) s (bP s) (Gx s) i (cZ l)=
      a6 (.inl ((),((f,()),(),(),()),(cZ d,(),(),(s,bP s,()),Gx s,(),(i,()),cZ o',(),())))/\
      o'++d=o++h++((stepT s (bP s) at_).2++jP s (bP s) N (stepT s (bP s) at_).1)/\(o'.length:Int)+d.length<=200000000*s.length:=by
    intro g l nx E G;subst G;have J:=congrArg List.length E;simp only[ai]at J;obtain⟨d,o',B,D,r3⟩:=VL s z f i N (stepT s (bP s) at_).1 g l (by omega) (by omega) ad (by omega)
    grind
   have ae: ∀x:bV,x.length<=200000000->eu (cZ (h++x)) 1=true:=fun x K=>tY (by grind);have V: ∀x:bV,x.length<=200000000->eu (cZ (o++x)) 1=true:=fun x K=>tY (by grind);have af:eu (cZ (o++h)) 1=true:=tY (by grind);have W: ∀x:bV,x.length<=200000000->eu (cZ (o++h++x)) 1=true:=fun x K=>tY (by grind);have ax:cO .i64 at_ 1=at_+1:=dB;have v: ∀a b,(sub s a b).length<=200000000:=fun a b=>by grind [Gh]
   rw[bW (fG (b:=bK s) e),am e];cases hf:jE (bP s) at_ with
   |none=>
    have j:stepT s (bP s) at_=(at_+1,sub s at_ (at_+1)):=by unfold stepT;rw[hf]
    rw[OA hf,show bY 0 0=true from rfl,aa];simp_all [IC,lq,eF,lN,eU]
   |some p=>
    obtain⟨u,ay⟩:=tX hf;have t0:=u.t0;have t1:=u.t1;obtain⟨m1,m2,m3⟩:=OB z hf;have ag:eY (bK s) p.2.1 p.2.2.1=true:=fQ u.f0 (by omega) (by rw[bM];omega);have aj:eY (bK s) (p.2.1+1) p.2.2.1=true:=fQ (by omega) (by omega) (by rw[bM];omega);have ak:cO .i64 p.2.1 1=p.2.1+1:=dB;rw[m1,ac,m2,aa];simp only[m3];rw[acz u.f0 (by omega),bI];simp only[ak,ag,aj,uU,lq,aa,ae _ (v _ _),V _ (v _ _),W _ (v _ _),af];have L: ∀(x:bV),x.length<=200000000->x=(stepT s (bP s) at_).2->p.2.2.1=(stepT s (bP s) at_).1->
     ∃d o',(bif gp h []then jO N p.2.2.1 f [] s (bP s) (Gx s) i (cZ (o++x))
      else jO N p.2.2.1 f [] s (bP s) (Gx s) i (cZ (o++h++x)))=
      a6 (.inl ((),((f,()),(),(),()),(cZ d,(),(),(s,bP s,()),Gx s,(),(i,()),cZ o',(),())))/\
      o'++d=o++h++((stepT s (bP s) at_).2++jP s (bP s) N (stepT s (bP s) at_).1)/\(o'.length:Int)+d.length<=200000000*s.length:=by
     intro x K X G;by_cases y:h=[]
     .subst y;rw[bW (by rfl)];exact go [] _ _ (by rw[<-X];simp) G
     .rw[dG (by simpa [gp] using y)];exact go [] _ _ (by rw[<-X];simp) G
    by_cases hpl':lone p=true\/p.1=14
    .have j:stepT s (bP s) at_=(p.2.2.1,nK s p):=by simp_all [stepT]
     have:=go (h++sub s p.2.1 p.2.2.1) o p.2.2.1 (by rw[j,ah];rfl) (by rw[j]);by_cases I:lone p=true
     .simp_all
     .have M:p.1=14:=hpl'.resolve_left I;simp only[show lone p=false by simpa using I,M,show bY 14 14=true from rfl,aa,ac];exact this
    .have I:lone p=false:=by
      simp_all
     have M:p.1≠14:=fun h=>hpl' (.inr h);simp only[I,dM M,ac];by_cases h13:p.1=13
     .have az:=u.es h13;have j:stepT s (bP s) at_=(p.2.2.1,Lu s p):=by simp_all [stepT]
      simp only[eG h13,dM (show p.1≠4 by omega),aa,ac];by_cases hto2:p.2.2.1=p.2.1+2
      .have O:sub s (p.2.1+1) p.2.2.1=[s.getD (p.2.1+1).toNat 0]:=by
        obtain⟨n,hn⟩:=Int.eq_ofNat_of_zero_le (show 0<=p.2.1+1 by omega);have Y:n<s.length:=by omega
        rw[hn,show p.2.2.1=((n+1:Nat):Int) by omega,vC,aF Y,List.take_succ_cons,List.take_zero,aS,List.getD_eq_getElem?_getD,List.getElem?_eq_getElem Y];rfl
       have al:gp (sub s (p.2.1+1) p.2.2.1) []=false:=by rw[O];simp[gp]
       rw[al,aA,aa];by_cases b5:cu s (p.2.1+1)=10
       .have:gp (sub s (p.2.1+1) p.2.2.1) [10]=true:=by
         rw[O];unfold cu at b5;have an:s.getD (p.2.1+1).toNat 0=10:=UInt8.toNat_inj.1 (by show _=10;omega);rw[an];rfl
        simp_all [Lu]
       .have:gp (sub s (p.2.1+1) p.2.2.1) [10]=false:=by
         rw[O];have Z:s.getD (p.2.1+1).toNat 0≠10:=fun h=>b5 (by unfold cu;rw[h];rfl);simpa [gp] using Z
        rw[this,aA,aa];exact L _ (v _ _) (by simp_all [Lu]) (by rw[j])
      .have ao:sub s (p.2.1+1) p.2.2.1=[]:=by
        grind [sub]
       rw[ao,show(!gp ([]:bV) [])=false from rfl,ac];simp_all [Lu]
     .simp only[dM h13,ac];by_cases h4:p.1=4
      .have j:stepT s (bP s) at_=(p.2.2.1,sub s (p.2.1+1) (mQ p)):=by simp_all [stepT]
       have ab:p.2.1+1<=mQ p/\mQ p<=p.2.2.1:=by
        unfold mQ;by_cases A:p.2.2.2.2.1=true
        .grind
        .rw[aq A];have:=u.sh (by simpa using A) (by omega);omega
       simp only[eG h4,aa];rw[NQ z u (.inl h4),bI];simp only[fQ (n:=bK s) (lo:=p.2.1+1) (hi:=mQ p) (by omega) ab.1 (by rw[bM];omega),aa,V _ (v _ _),W _ (v _ _)];exact L _ (v _ _) (by rw[j]) (by rw[j])
      .simp only[dM h4,ac];by_cases h5:p.1=5
       .have j:stepT s (bP s) at_=(p.2.2.1,oI s (bP s) (mQ p) s.length (p.2.1+1)):=by simp_all [stepT]
        have ab:p.2.1+1<=mQ p/\mQ p<=p.2.2.1:=by
         unfold mQ;by_cases A:p.2.2.2.2.1=true
         .grind
         .rw[aq A];have:=u.sh (by simpa using A) (by omega);omega
        simp only[eG h5,aa,NQ z u (.inr h5),bI];have dbl: ∀(q:bV),q=o++h-> ∃m d o',mD bT (mQ p) false (p.2.1+1) p.2.2.1 true true (p.1,(p.2.1,(p.2.2.1,(p.2.2.2.1,(p.2.2.2.2.1,()))))) f [] p.1 p.2.1 p.2.2.1 p.2.2.2.1 p.2.2.2.2.1 (cZ h) s (bP s) (Gx s) i (cZ q)=
          a6 (.inl ((m,()),((p.2.2.1,true,true,(p.1,(p.2.1,(p.2.2.1,(p.2.2.2.1,(p.2.2.2.2.1,()))))),()),(f,()),(),(),()),(cZ d,(p.1,p.2.1,p.2.2.1,p.2.2.2.1,p.2.2.2.2.1,()),cZ h,(),(),(s,bP s,()),Gx s,(),(i,()),cZ o',(),())))/\
          o'++d=o++h++(stepT s (bP s) at_).2:=by
         intro q Z;obtain⟨m,d,o',B,D,r3⟩:=PP s z (to_:=mQ p) (by omega) 10000000000000 (by omega) p.2.2.1 true true (p.1,(p.2.1,(p.2.2.1,(p.2.2.2.1,(p.2.2.2.2.1,()))))) f p.1 p.2.1 p.2.2.1 p.2.2.2.1 p.2.2.2.2.1 (cZ h) i bT (p.2.1+1) false [] q (by unfold bT;omega) (by have:=dJ (n:=s.length) (by omega);omega) (by omega) (by omega) (by grind);refine⟨m,d,o',B, ?_⟩
         grind [IQ,bT]
        have tail: ∀(m:Bool) (d o':bV),o'++d=o++h++(stepT s (bP s) at_).2->
          ∃S U,(bif bY (bK (cZ d)) 0 then
            bif m then jO N p.2.2.1 f [] s (bP s) (Gx s) i (cZ o')
            else bif eu (cZ (o'++d)) 1 then jO N p.2.2.1 f [] s (bP s) (Gx s) i (cZ (o'++d))else a7
           else bif eu (cZ (o'++d)) 1 then jO N p.2.2.1 f [] s (bP s) (Gx s) i (cZ (o'++d))else a7)=
           a6 (.inl ((),((f,()),(),(),()),(cZ S,(),(),(s,bP s,()),Gx s,(),(i,()),cZ U,(),())))/\
           U++S=o++h++((stepT s (bP s) at_).2++jP s (bP s) N (stepT s (bP s) at_).1)/\(U.length:Int)+S.length<=200000000*s.length:=by
         intro m d o' A;have J:=congrArg List.length A;simp only[ai]at J;have au:eu (cZ (o'++d)) 1=true:=tY (by grind);have g1:=go [] (o'++d) p.2.2.1 (by simp_all) (by rw[j]);rw[au,aa];rcases Qu d with ⟨y,E⟩|⟨y,E⟩
         .rw[bW (eG E)];rw[y,bg]at g1 ⊢;cases m<;>exact g1
         .rw[dG (dM)];exact g1
        by_cases y:h=[]
        .rw[bW (by rw[y];rfl)];obtain⟨m,d,o',B,D⟩:=dbl o (by simp_all);rw[B,bI];simp only[dR,aa,uU,lq];exact tail m d o' D
        .rw[dG (by simpa [gp] using y)];obtain⟨m,d,o',B,D⟩:=dbl (o++h) rfl;rw[B,bI];simp only[dR,aa,uU,lq];exact tail m d o' D
       .have j:stepT s (bP s) at_=(p.2.2.1,nK s p):=by simp_all [stepT]
        simp only[dM h5,ac];exact L _ (v _ _) (by rw[j];rfl) (by rw[j])
  .rw[dG (gU (by rw[bM];omega)),aq e]
   grind
theorem aF9 (s:bV) (e:s.length<=10000):amD s=a6 (Gl s,()):=by
 have l:=uV s;rw[amD,aGf s (by omega),bI];simp only;have f:=aax (bP s) (by omega) s [] s s (bP s) [] bT 0 [] (dJ) (by omega);rw[show uQ bT (bP s) (bK (bP s)) 0 s [] s s (bP s) [] []=_ from f,bI];simp only[dR,aY];obtain⟨g,m,i,d,o⟩:=VL s e [] [] bT 0 [] [] (by have:=dJ (n:=s.length) (by omega);omega) (by omega) (by omega) (by simp);rw[show jO bT 0 [] [] s (bP s) (Ik [] 0 (bP s)) [] []=_ from i,bI];have j:jP s (bP s) bT 0=Gl s:=zC s _ _ _ (by have:=dJ (n:=s.length) (by omega);omega) (by omega);rw[j,aB,aB]at d;simp only[dR,uU,lq,eU,aa];rw[bW (tY (by grind)),d];by_cases he:g=[]
 .simp_all
 simp_all [dG,gp]
end
section
open Bool renaming false_eq_true → ag, not_true → ax, and_true → ay, not_false → aA, not_eq_true → bz
open Int renaming toNat_natCast → aS
open List renaming drop_eq_getElem_cons → aF, length_cons → aG, length_drop → aU
open Go.RowKit
theorem al5 {l:List Dlm} (h:l.length<=1000000):uH l=some (l,()):=by
 grind [uH,yZ,qR]
theorem ate {s:List UInt8} (d:s.length<=10000) {a:Nat} (e:a<s.length):agB s (a:Int)=some (((mP s a:Nat):Int),()):=by
 grind [aK1,mP]
theorem atG {s:List UInt8} {a:Nat} (d:a<s.length):uB (s.drop a)≠0↔nY (cu s a)=true\/pq (s.drop a)=true:=by
 grind [byte_at,aF,tN]
theorem atu (t:bV): ∀n,(TG t n).2≠0->ofF (t.take (TG t n).2)=(TG t n).1
 |0,h=>absurd rfl h
 |n+1,h=>by
  rw[TG]at h ⊢;split
  .rfl
  .rename_i d
   rw[aq d]at h;exact atu t n h
theorem aAL {s:List UInt8} (f:s.length<=10000) {a:Nat} (d:a<s.length):amq s (a:Int)=some (jI s a,()):=by
 have e:gy s (a:Int)=true:=eF;obtain⟨k,g,i,q⟩:=aIB (nM s a);have u:=atG d
 (rewrite [amq];delta abY;rw[aN8 (by omega) d,bI,bW e,g,bI])
 simp only[i,e,aa,auA (show a<=s.length by omega),bI,aBg (show s.length<1000000 by omega) (show a<=s.length by omega)];by_cases hb:uB (s.drop a)≠0
 .have v:jI s a=(1,(a:Int),((a+uB (s.drop a):Nat):Int),false,()):=by simp_all [jI]
  grind
 .have j:nY (cu s (a:Int))=false:=by
   simp_all
  have l:pq (s.drop a)=false:=by
   simp_all
  rw[j,l,ac,ac];unfold jI;rw[aq hb];by_cases h10:cu s (a:Int)=10
  .rw[bW (eG h10),am h10,dB];rfl
  .rw[dG (dM h10),aq h10];by_cases h35:cu s (a:Int)=35
   .rw[bW (eG h35),am h35,axk (by omega) (by omega),bI]
   .rw[dG (dM h35),aq h35];have m:=(TV (s.drop a)).1;rw[aU]at m;by_cases hop:(CS (s.drop a)).2≠0
    .rw[bW (fG),am hop]
     grind [dB]
    .rw[dG (lD),aq hop,ax5 (by omega) (by omega),bI];by_cases hn:Ae (s.drop a)≠0
     .rw[bW (fG),am hn,bI]
     .rw[dG (lD),aq hn,ate f d,bI];have x:=YK (s:=s) (a:=a) (by omega);have y:=VJ (s:=s) (a:=a) (b:=mP s a);obtain⟨t,o,p⟩:=apU (AL s a (mP s a)) (by omega);simp only;rw[bW (fQ (by omega) (by omega) (by rw[bM];omega)),afo,o,bI];simp only;rw[p];rfl
theorem atD {s:List UInt8} (g:s.length<=10000) {a:Nat} (i:a<s.length) {x:YQ} (hl:x.2.1.length<=100000):
  amr (sub s (jI s a).2.1 (jI s a).2.2.1) (jI s a).1 (x.1,(x.2.1,(x.2.2.1,())))=some (kK s a x,()):=by
 rw[amr];simp only[al5 (show x.2.1.length<=1000000 by omega),bI];unfold jI kK;by_cases hb:uB (s.drop a)≠0
 .rw[am hb,am hb];rfl
 .rw[aq hb,aq hb];by_cases h10:cu s (a:Int)=10
  .have d:iF 0 (bK x.2.1)=decide (0<x.2.1.length):=by
    simp_all [iF,bK]
   rw[am h10,am h10,<-d];rfl
  .rw[aq h10,aq h10];by_cases h35:cu s (a:Int)=35
   .rw[am h35,am h35];rfl
   .rw[aq h35,aq h35];by_cases hop:(CS (s.drop a)).2≠0
    .rw[am hop,am hop];simp only;rw[show bY 4 1=false from rfl,ac,show bY 4 2=false from rfl,ac,show bY 4 4=true from rfl,aa,vC,aki,bI];have:ofF ((s.drop a).take (CS (s.drop a)).2)=(CS (s.drop a)).1:=atu _ _ hop;rw[this];simp only;by_cases h4:(CS (s.drop a)).1=4
     .simp_all [eG]
     .rw[dG (dM)];by_cases e:(CS (s.drop a)).1=5
      .simp_all [eG]
      .rw[dG (dM),aq (by omega)]
    .rw[aq hop,aq hop];by_cases hn:Ae (s.drop a)≠0
     .rw[am hn,am hn];rfl
     .rw[aq hn,aq hn];have j:=VJ (s:=s) (a:=a) (b:=mP s a);simp only;rw[show bY 6 1=false from rfl,ac,show bY 6 2=false from rfl,ac,show bY 6 4=false from rfl,ac,show bY 6 6=true from rfl,aa,afo];by_cases h0:x.1=0
      .simp_all [eG]
      .have e:bY x.1 5=decide (x.1=5):=rfl;have f: ∀y,eu (bU x.2.1 [y]) 24=true:=fun y=>qR (by grind [bU]);rw[dM h0,aA,aa,aq h0,aF9 _ (by omega),bI];simp only[lN,eU,iL,f,aa,ay];rfl
theorem att {s:List UInt8} (g:s.length<=10000) {a:Nat} (i:a<s.length) (x:YQ) (hp:x.2.2.1=true->x.2.1≠[]) (hl:x.2.1.length<=100000):
  agm s (a:Int) x=some ((jC s a x).1,((jC s a x).2,())):=by
 obtain⟨f,e,m,u⟩:=x;cases u;simp only at hp hl
 (rewrite [agm];delta abW abV;rw[dG (lD),dG (Sm (by rw[bM];omega))])
 unfold jC;cases m with
 |true=>
  obtain⟨d,r,rfl⟩: ∃d r,e=d::r:=by
   cases e with
   |nil=>simp_all
   |cons d r=>simp
  simp only[aa,if_true];rw[bW (fG (by simp_all [bM])),awd];simp only;rw[bW (eF (by omega) (by simp)),show ed (d::r) ([],(false,())) 0=d from rfl,aG6 (by omega) d (by omega),bI];simp only[List.headD_cons];by_cases hh:(Gn s d.1 d.2.1 a).2=true
  rotate_left
  .rw[bz]at hh;simp only[hh,ag,if_false,aA,aa,eU,iD,iL,ay,bI]
  .have o:sub (d::r) 1 (bK (d::r))=r:=by simp[sub,bM]
   have p:iF 0 (bK r)=decide (1<(d::r).length):=by
    simp_all [iF,bK]
   have j:eY (bK (d::r)) 1 (bK (d::r))=true:=fQ (by omega) (by grind [bM]) (by omega);rw[aG]at hl;simp only[hh,if_true,ax,ac,j,o,aa,al5 (show r.length<=1000000 by omega),bI,eU,iL,ay,p];rfl
 |false=>
  simp only[ac,ag,if_false];have l:=xF g i (f,(e,(false,())));have q:jC s a (f,(e,(false,())))=(jI s a,kK s a (f,(e,(false,())))):=by rfl
  rw[q]at l;simp only at l;rw[aAL g i,bI];simp only;have j:eY (bK s) (jI s a).2.1 (jI s a).2.2.1=true:=fQ (by omega) (by omega) (by rw[bM];omega);rw[j,aa,atD g i (x:=(f,(e,(false,())))) hl,bI];simp only[lN,eU,iL,iD,aa,ay]
theorem aab {s:List UInt8} (d:s.length<=10000) (f:Int) (g:Bool): ∀(N a:Nat) (l:List Tok) (x:YQ) (t:Tok),s.length-a<N->a<=s.length->OkX x->x.2.1.length<=a->l.length<=a->
  uS N (a:Int) t.1 t.2.1 t.2.2.1 t.2.2.2.1 x.1 x.2.1 x.2.2.1 s l x.1 x.2.1 x.2.2.1 f g=
   some (.inl ((),((),(),(),()),((s,()),(),(nC s N a l x).1,((nC s N a l x).2.1,(nC s N a l x).2.2.1,(nC s N a l x).2.2.2.1,()),(),(f,g,()),())))
 |0,a,l,x,t,h,_,_,_,_=>by omega
 |N+1,a,l,x,t,h,u,i,v,z=>by
  rw[uS,F8,nC];by_cases e:a<s.length
  .have A:=xF d e x;have o:=Yo s a i;have p:(x.1,(x.2.1,(x.2.2.1,())))=x:=rfl;rw[bW (fG (by rw[bM];omega)),p,att d e x i (by omega),bI,am e];have q: ∀y,eu (bU l [y]) 32=true:=fun y=>qR (by grind [bU]);simp only[q,eU,iL,iD,aa,ay];obtain⟨b,j⟩: ∃b:Nat,(jC s a x).1.2.2.1=(b:Int):=⟨(jC s a x).1.2.2.1.toNat,by omega⟩;have m:=aab d f g N b (l++[(jC s a x).1]) (jC s a x).2 (jC s a x).1 (by omega) (by omega) o.1 (by omega) (by grind);rw[j]at m ⊢;rw[aS,<-m];rw[<-j];rfl
  simp_all [gU,bM,aq]
theorem aK7 {s:List UInt8} (d:s.length<=10000):aBG s=some ((kJ s).1,((kJ s).2,())):=by
 have h:=aab d 0 false bT 0 [] (0,[],false,()) (0,0,0,false,()) (dJ) (by omega) (fun h=>by cases h) (by simp) (by simp);have e:nC s bT 0 [] (0,[],false,())=kJ s:=Qg d _ _ _ _ _ (by have:=dJ (n:=s.length) (by omega);omega) (by omega);rw[aBG,show uS bT 0 0 0 0 false 0 [] false s [] 0 [] false 0 false=_ from h,bI,e];rfl
end
section
open Bool renaming and_true → ay
open Int renaming toNat_natCast → aS
open List renaming length_append → ai, length_map → aO, getElem_mem → aP, length_singleton → aV, length_take → aZ, take_of_length_le → bG
open Go.RowKit
theorem EY {s:List UInt8} (u:s.length<=10000) (l:List Tok) (hl:l.length<=10000) (g: ∀t∈l,OkT s t): ∀(N k:Nat),l.length-k<N->k<=l.length->
  Fb N s l (bK l) (k:Int) (iy s (l.take k))=some (.inl ((),(iy s l,())))
 |0,k,h,_=>by omega
 |N+1,k,h,hk=>by
  (rewrite [Fb,ae5];delta Et xE fB)
  by_cases e:k<l.length
  .have v:ed l (0,(0,(0,(false,())))) (k:Int)=l[k]:=by
    unfold ed;rw[aS,List.getD_eq_getElem?_getD,List.getElem?_eq_getElem e];rfl
   have x:gy l (k:Int)=true:=eF;obtain⟨z,G,I⟩:=g _ (aP e);have A:eY (bK s) l[k].2.1 l[k].2.2.1=true:=fQ z (by omega) (by rw[bM];omega);have J:(iy s (l.take k)).length<=10000:=by
    unfold iy;rw[aO];have:=List.length_filter_le ach (l.take k);rw[aZ]at this;omega
   have B: ∀y,eu (bU (iy s (l.take k)) [y]) 40=true:=fun y=>qR (by unfold bU;simp only[ai,aV];omega);have i:=EY u l hl g N (k+1) (by omega) (by omega);have j:l.take (k+1)=l.take k++[l[k]]:=by rw[List.take_add_one,List.getElem?_eq_getElem e];rfl
   have D:cO .i64 (k:Int) 1=((k+1:Nat):Int):=by rw[dB];omega
   have m:iF l[k].2.1 0=false:=lD;have o:iF l[k].2.2.1 l[k].2.1=false:=lD;have p:iF (bK s) l[k].2.2.1=false:=lD (by rw[bM];omega);have E:aBT s (l[k].1,(l[k].2.1,(l[k].2.2.1,(l[k].2.2.2.1,()))))=some (sub s l[k].2.1 l[k].2.2.1,()):=by
    rw[aBT];simp only[m,o,p,A,aa,ac]
   have d:ach l[k]=true->Fb N s l (bK l) ((k+1:Nat):Int) (bU (iy s (l.take k)) [(l[k].1,(sub s l[k].2.1 l[k].2.2.1,(l[k].2.1,(l[k].2.2.1,()))))])=some (.inl ((),(iy s l,()))):=fun f=>by
    rw[<-i];congr 1;unfold iy;rw[j,List.filter_append,List.map_append,List.filter_cons_of_pos f];rfl
   have q:ach l[k]=false->Fb N s l (bK l) ((k+1:Nat):Int) (iy s (l.take k))=some (.inl ((),(iy s l,()))):=fun f=>by
    rw[<-i];congr 1;unfold iy;rw[j,List.filter_append,List.filter_cons_of_neg (by rw[f];simp)];simp
   rw[bW (fG (by rw[bM];omega)),x,aa];simp only[v,m,o,p,ac,D,E,bI,eU,lN,iL,ay,aa,B];unfold ach at d q;by_cases h4:l[k].1=4
   .simp only[eG h4,aa];exact d (by simp[h4])
   .by_cases h5:l[k].1=5
    .simp only[dM h4,eG h5,aa,ac];exact d (by simp[h5])
    .by_cases h6:l[k].1=6
     .simp only[dM h4,dM h5,eG h6,aa,ac];exact d (by simp[h6])
     .by_cases h2:l[k].1=2
      .simp only[dM h4,dM h5,dM h6,eG h2,aa,ac];exact d (by simp[h2])
      .simp only[dM h4,dM h5,dM h6,dM h2,aa,ac];exact q (by simp[h2,h4,h5,h6])
  .rw[dG (gU (by rw[bM];omega)),bG (by omega)]
theorem aK5 {s:List UInt8} (d:s.length<=10000):agH s (kJ s).1=some (iy s (kJ s).1,()):=by
 obtain⟨e,f,g⟩:=NZ d;have h:=EY d (kJ s).1 (by omega) e bT 0 (dJ) (by omega);rw[agH,show Fb bT s (kJ s).1 (bK (kJ s).1) 0 []=_ from h,bI];rfl
end
section
open List renaming length_append → ai, length_singleton → aV
open Go.RowKit
def iq (l:List Tok):Tok:=l.getLastD (0,(0,(0,(false,()))))
theorem aL9:iq []=(0,(0,(0,(false,())))):=rfl
theorem NW (r:List Tok) (t:Tok):iq (r++[t])=t:=by simp[iq]
theorem axj (r:List Tok) (t:Tok) (h:r.length<1000000):iF 0 (bK (r++[t]))=true/\gy (r++[t]) (eP .i64 (bK (r++[t])) 1)=true/\ed (r++[t]) (0,(0,(0,(false,())))) (eP .i64 (bK (r++[t])) 1)=t:=by
 have d:eP .i64 (bK (r++[t])) 1=(r.length:Int):=by
  rw[bM,ig (by simp only[ai,aV];omega) (by simp only[ai,aV];omega)];simp
 rw[d];exact⟨fG (by rw[bM];simp only[ai,aV];omega),eF (by omega) (by simp only[ai,aV];omega),qF rfl⟩
theorem arx {u:List UInt8} (f:u.length<=10000):(iq (kJ u).1).1≠0->0<=(iq (kJ u).1).2.1/\(iq (kJ u).1).2.1<=u.length/\u≠[]:=by
 intro h;rcases List.eq_nil_or_concat (kJ u).1 with e|⟨r,t,e⟩
 .rw[e]at h;exact absurd rfl h
 .rw[List.concat_eq_append]at e;have d:=(NZ f).1 t (by rw[e];simp);rw[e,NW];have g:=d.f0;have j:=d.ft;have i:=d.t1;refine⟨g,by omega, ?_⟩;rintro rfl;simp only[List.length_nil]at i;omega
end
end Go.Proofs.YtkichehglnecnaaGreatDoor
