/- Parts of the proof, joined and shortened by a program: the plain machine, the functions as it prints them, and the mathematics over them. -/
import Derived.Test.YtlhpdcadgbjhiaaGreatDoorZ3
set_option linter.unusedVariables false
set_option linter.unusedSimpArgs false
set_option maxRecDepth 100000
set_option maxHeartbeats 4000000
namespace Go.Proofs.YtlhpdcadgbjhiaaGreatDoor
section
open Int renaming toNat_natCast → aV
open List renaming length_append → aj, length_map → aQ
open Nat renaming le_refl → ae, lt_or_ge → aJ
open Go.RowKit
def aMU (p:kP):Int:=p.1
def aMT (p:kP):Int:=p.2.1
def pTo (p:kP):Int:=p.2.2.1
def pUp (p:kP):Int:=p.2.2.2.1
def aMV (p:kP):Bool:=p.2.2.2.2.1
theorem akY {e:Type} {l:List e} {d:e} {i:Nat} (h:l.length<=i):dK l d i=d:=by
 simp_all [dK]
theorem nY {e:Type} {l:List e} {d:e} {i:Nat} (h:i<l.length):dK l d i=l[i]:=by
 simp_all [dK]
theorem getD_take {e:Type} {l:List e} {d:e} {i n:Nat} (h:i<n):(l.take n).getD i d=l.getD i d:=by
 simp_all
theorem IG {e:Type} {l:List e} {d x:e} {i j:Nat} (h:i≠j):dK (iw l i x) d j=dK l d j:=by
 simp_all [dK,iw]
def KW (a:Int) (p:kP):kP:=(p.1,p.2.1,a,p.2.2.2.1,false,())
theorem Gl (L:List kP) (j:Nat) (a:Int) (k:Nat) (d:j<L.length):dK (Pj L j a) dP k=if j=k then KW a (dK L dP k)else dK L dP k:=by
 unfold Pj;by_cases h:j=k
 .subst h;rw[am rfl,F7 d];rfl
 .rw[aq h,IG h]
theorem MR (L:List kP) (j:Nat) (m:Int) (k:Nat) (d:j<L.length):dK (Xc L j m) dP k=if j=k then(m,(dK L dP k).2)else dK L dP k:=by
 unfold Xc;by_cases h:j=k
 .subst h;rw[am rfl,F7 d]
 .rw[aq h,IG h]
theorem UJ (F:List GY) (a:Int) (H:List Int) (c:Nat) (l: ∀n,n<H.length->0<=H.getD n 0): ∀(n:Nat) (L:List kP),c<=n->n<=H.length->
  (∀m,m<n->(H.getD m 0).toNat<L.length)->
  (∀m,m<c->m<F.length/\(F.getD m dF).2.1=(dK L dP (H.getD m 0).toNat).2.1)->
  (∀m,c<=m->m<n-> ¬(m+1<=F.length/\(F.getD m dF).2.1=(dK L dP (H.getD m 0).toNat).2.1))->
  (ou F a n L (H.take n)).2=H.take c/\
  (∀j,(∃m,c<=m/\m<n/\(H.getD m 0).toNat=j)->dK (ou F a n L (H.take n)).1 dP j=KW (a+1) (dK L dP j))/\
  (∀j,(∀m,c<=m->m<n->(H.getD m 0).toNat≠j)->dK (ou F a n L (H.take n)).1 dP j=dK L dP j)
 |0,L,o,p,hl,q,g=>by
  have:c=0:=by omega
  subst this;exact⟨rfl,fun j ⟨m,_,h,_⟩=>by omega,fun j _=>rfl⟩
 |n+1,L,o,p,hl,q,g=>by
  rw[ou,getD_take (by omega)];by_cases e:c=n+1
  .grind
  .have s:=g n (by omega) (by omega);have f:=hl n (by omega);have z: ∀k,(dK (Pj L (H.getD n 0).toNat (a+1)) dP k).2.1=(dK L dP k).2.1:=fun k=>by
    rw[Gl _ _ _ _ f];split<;>rfl
   rw[aq s,List.take_take,show min n (n+1)=n by omega];obtain⟨u,v,x⟩:=UJ F a H c l n (Pj L (H.getD n 0).toNat (a+1)) (by omega) (by omega) (fun m i=>by grind [Gj])
    (fun m i=>by grind) (fun m i y=>by grind)
   refine⟨u,fun j d=> ?_,fun j d=> ?_⟩
   .by_cases hq: ∃m,c<=m/\m<n/\(H.getD m 0).toNat=j
    .rw[v j hq,Gl _ _ _ _ f];split<;>rfl
    .obtain⟨m,A,y,B⟩:=d;have:m=n:=by
      grind
     simp_all [Gl]
   .rw[x j (fun k hk D=>d k hk (by omega)),Gl _ _ _ _ f,aq (d n (by omega) (by omega))]
theorem TQ (F:List GY) (H:List Int) (f: ∀m n,m<H.length->n<H.length->(H.getD m 0).toNat=(H.getD n 0).toNat->m=n): ∀(k i:Nat) (L:List kP),i+k<=H.length->
  (∀m,m<H.length->(H.getD m 0).toNat<L.length)->
  (∀m,i<=m->m<i+k->dK (Ad F H k i L) dP (H.getD m 0).toNat=(counts (F.getD m dF).1,(dK L dP (H.getD m 0).toNat).2))/\
  (∀j,(∀m,i<=m->m<i+k->(H.getD m 0).toNat≠j)->dK (Ad F H k i L) dP j=dK L dP j)
 |0,i,L,h,hl=>⟨fun m o p=>by omega,fun j _=>rfl⟩
 |k+1,i,L,h,hl=>by
  have d:=hl i (by omega);obtain⟨q,g⟩:=TQ F H f k (i+1) (Xc L (H.getD i 0).toNat (counts (F.getD i dF).1)) (by omega) (fun m s=>by grind [FZ]);rw[Ad];refine⟨fun m o p=> ?_,fun j l=> ?_⟩
  .by_cases e:m=i
   .subst e;rw[g _ (fun k hk v x=>by grind),MR _ _ _ _ d,am rfl]
   .rw[q m (by omega) (by omega),MR _ _ _ _ d,aq (fun u=>e (f i m (by omega) (by omega) u).symm)]
  .rw[g j (fun m s y=>l m (by omega) (by omega)),MR _ _ _ _ d,aq (l i (by omega) (by omega))]
def G6 (F:List GY) (v:Int):Option Int:=(F.find? fun f=>f.2.1==v).map (·.1)
theorem Sr {F:List GY} (hd: ∀m n,m<F.length->n<F.length->(F.getD m dF).2.1=(F.getD n dF).2.1->m=n) {m:Nat} (d:m<F.length):G6 F (F.getD m dF).2.1=some (F.getD m dF).1:=by
 have e: ∃f,F.find? (fun f=>f.2.1==(F.getD m dF).2.1)=some f:=by
  cases h:F.find? (fun f=>f.2.1==(F.getD m dF).2.1)with
  |some f=>exact⟨f,rfl⟩
  |none=>
   grind
 grind [List.getElem_of_mem,G6]
theorem Iq {F:List GY} {v:Int} (h: ∀m,m<F.length->(F.getD m dF).2.1≠v):G6 F v=none:=by
 grind [G6,List.getElem_of_mem]
def mQ (F:List GY) (a:Int) (p:kP):kP:=
 if p.2.2.2.2.1=true then(match G6 F p.2.1 with
  |some m=>(counts m,p.2)
  |none=>KW (a+1) p)else p
def Zz (F:List GY) (a:Int):Bool:=match F.getLast? with
 |some f=>decide (f.2.1=a)
 |none=>false
def atC (L:List Int) (v:Int):Int:=((L.findIdx fun p=>p==v:Nat):Int)
def yS (F:List GY) (a:Int) (fr:List Int):kP:=(counts (F.getLastD dF).1,a,0,(if F.length=1 then-1 else atC fr (F.getD (F.length-2) dF).2.1),true,())
def Ou (F:List GY) (a:Int) (L:List kP):List kP:=L.map (mQ F a)++if Zz F a=true then [yS F a (L.map (·.2.1))]else []
structure Inv (L:List kP) (H:List Int) (F:List GY) (k:Int):Prop where
 len:H.length=F.length
 nn: ∀n,n<H.length->0<=H.getD n 0/\(H.getD n 0).toNat<L.length
 frm: ∀n,n<H.length->(dK L dP (H.getD n 0).toNat).2.1=(F.getD n dF).2.1/\(dK L dP (H.getD n 0).toNat).2.2.2.2.1=true
 opn: ∀j,(dK L dP j).2.2.2.2.1=true-> ∃n,n<H.length/\(H.getD n 0).toNat=j
 lt: ∀j,j<L.length->(dK L dP j).2.1<k
 inj: ∀i j,i<L.length->j<L.length->(dK L dP i).2.1=(dK L dP j).2.1->i=j
 fd: ∀m n,m<F.length->n<F.length->(F.getD m dF).2.1=(F.getD n dF).2.1->m=n
theorem Inv.hd {L:List kP} {H:List Int} {F:List GY} {k:Int} (h:Inv L H F k): ∀m n,m<H.length->n<H.length->(H.getD m 0).toNat=(H.getD n 0).toNat->m=n:=fun m n d f e=>by
 have g:=(h.frm m d).1;have i:=(h.frm n f).1;rw[e,i]at g;exact(h.fd n m (by rw[<-h.len];exact f) (by rw[<-h.len];exact d) g).symm
theorem qR {F:List GY} {n:Nat} (h:n<F.length:=by omega):(F.getD n dF).2.1=(F.map (·.2.1)).getD n 0:=by
 simp_all
theorem ayV {f:Type} {d:f} {l e:List f} (h:l.length=e.length) (h2: ∀j,j<l.length->dK l d j=dK e d j):l=e:=by
 grind [List.ext_getElem,nY]
theorem adW {L:List kP} (d: ∀i j,i<L.length->j<L.length->(dK L dP i).2.1=(dK L dP j).2.1->i=j) {j:Nat} (e:j<L.length):atC (L.map (·.2.1)) (dK L dP j).2.1=(j:Int):=by
 have f: ∀i,i<L.length->(L.map (·.2.1))[i]? =some (dK L dP i).2.1:=fun i g=>by
  simp_all [nY]
 unfold atC
 grind
theorem awn {L:List kP} {H:List Int} {F g:List GY} {k:Int} (h:Inv L H F k) {c:Nat} (hc:c<=F.length)
  (hF:g.map (·.2.1)=(F.map (·.2.1)).take c\/g.map (·.2.1)=(F.map (·.2.1)).take c++[k]):
  (ou g k H.length L H).2.length<=g.length/\g.length<=(ou g k H.length L H).2.length+1/\
  (ab3 L H g k).1=Ou g k L/\Inv (ab3 L H g k).1 (ab3 L H g k).2 g (k+1):=by
 have aU:g.length=c\/g.length=c+1:=by
  have q:g.length=(g.map (·.2.1)).length:=(aQ ..).symm;rcases hF with e|e<;>rw[q,e]<;>simp<;>omega
 have aF:c<=H.length:=by rw[h.len];exact hc
 have v: ∀m,m<c->m<g.length/\(g.getD m dF).2.1=(F.getD m dF).2.1:=fun m s=>by
  refine⟨by omega, ?_⟩;rw[qR,qR (F:=F) (by omega)];rcases hF with e|e
  .rw[e,getD_take s]
  .rw[e,List.getD_eq_getElem?_getD,List.getElem?_append_left (by simp;omega),<-List.getD_eq_getElem?_getD,getD_take s]
 have E:c<g.length->(g.getD c dF).2.1=k:=fun s=>by
  rcases hF with e|e
  .have:g.length=(g.map (·.2.1)).length:=(aQ ..).symm;rw[e]at this;simp at this;omega
  .rw[qR s,e,List.getD_eq_getElem?_getD,List.getElem?_append_right (by simp;omega)];simp[Nat.min_eq_left hc]
 have G: ∀m,m<F.length->(F.getD m dF).2.1<k:=fun m s=>by
  rw[<-(h.frm m (by rw[h.len];exact s)).1];exact h.lt _ (h.nn m (by rw[h.len];exact s)).2
 obtain⟨Y,s2,s3⟩:=UJ g k H c (fun n o=>(h.nn n o).1) H.length L aF (ae _) (fun m s=>(h.nn m s).2)
  (fun m s=>⟨(v m s).1,(v m s).2.trans (h.frm m (by omega)).1.symm⟩)
  (fun m aW N ⟨hl,y⟩=>by
   have s:m=c:=by omega
   subst s;rw[E (by omega),(h.frm m N).1]at y;have:=G m (by rw[<-h.len];exact N);omega)
 rw[List.take_length]at Y s2 s3;have ad:=(NF g k H.length L H).1;have z:(H.take c).length=c:=by rw[List.length_take];omega
 have A: ∀m,m<c->(H.take c).getD m 0=H.getD m 0:=fun m s=>getD_take s;obtain⟨m1,m2⟩:=TQ g (H.take c) (fun m n s o e=>by
   rw[z]at s o;rw[A m s,A n o]at e;exact h.hd m n (by omega) (by omega) e) c 0 (ou g k H.length L H).1 (by omega) (fun m s=>by
   rw[z]at s;rw[A m s,ad];exact(h.nn m (by omega)).2)
 have an:=MQ g (H.take c) c 0 (ou g k H.length L H).1;have aG: ∀j,j<L.length->dK (Ad g (H.take c) c 0 (ou g k H.length L H).1) dP j=mQ g k (dK L dP j):=fun j u=>by
  unfold mQ;have V: ∀m n,m<g.length->n<g.length->(g.getD m dF).2.1=(g.getD n dF).2.1->m=n:=fun m n s o e=>by
   rcases aJ m c with q|q<;>rcases aJ n c with x|x
   .rw[(v m q).2,(v n x).2]at e;exact h.fd m n (by omega) (by omega) e
   .have:n=c:=by omega
    subst this;rw[(v m q).2,E o]at e;have:=G m (by omega);omega
   .have:m=c:=by omega
    subst this;rw[(v n x).2,E s]at e;have:=G n (by omega);omega
   .omega
  by_cases B:(dK L dP j).2.2.2.2.1=true
  .rw[am B];obtain⟨n,o,I⟩:=h.opn j B;have af:=(h.frm n o).1;rw[I]at af;rcases aJ n c with J|J
   .have e:=m1 n (by omega) (by omega);rw[A n J,I]at e;rw[e,s3 j (fun m s N O=>by have:=h.hd m n N o (O.trans I.symm);omega),af,<-(v n J).2,Sr V (v n J).1]
   .rw[m2 j (fun m _ s O=>by rw[A m (by omega)]at O;have:=h.hd m n (by omega) o (O.trans I.symm);omega),s2 j ⟨n,J,o,I⟩,Iq];intro m s e;rw[af]at e;rcases aJ m c with q|q
    .rw[(v m q).2]at e;have:=h.fd m n (by omega) (by rw[<-h.len];exact o) e;omega
    .have:m=c:=by omega
     subst this;rw[E s]at e;have:=G n (by rw[<-h.len];exact o);omega
  .rw[aq B];have ao: ∀m,m<H.length->(H.getD m 0).toNat≠j:=fun m s e=>B (by rw[<-e];exact(h.frm m s).2);rw[m2 j (fun m _ s O=>ao m (by omega) (by rw[<-A m (by omega)];exact O)),s3 j (fun m _ s=>ao m s)]
 have aH:Ad g (H.take c) c 0 (ou g k H.length L H).1=L.map (mQ g k):=ayV (d:=dP) (by rw[an,ad,aQ]) fun j u=>by
  rw[an,ad]at u;rw[aG j u,nY (l:=L.map _) (by rw[aQ];exact u),List.getElem_map,nY u]
 have D: ∀p,(mQ g k p).2.1=p.2.1:=fun p=>by
  unfold mQ;split
  .split<;>rfl
  .rfl
 have au:(ab3 L H g k)=if g.length=c then(L.map (mQ g k),H.take c)else
   (L.map (mQ g k)++[(counts (g.getD c dF).1,((g.getD c dF).2.1,(0,((if c=0 then-1 else(H.take c).getD (c-1) 0),(true,())))))],H.take c++[(L.length:Int)]):=by
  unfold ab3;simp only[Y,z,aH,aQ]
 have aI: ∀p,(mQ g k p).2.2.2.2.1=true->p.2.2.2.2.1=true/\ ∃m,G6 g p.2.1=some m:=fun p S=>by
  unfold mQ at S;split at S
  .rename_i B
   split at S
   .rename_i m s;exact⟨B,m,s⟩
   .cases S
  .rename_i B;exact absurd S B
 have V: ∀m n,m<g.length->n<g.length->(g.getD m dF).2.1=(g.getD n dF).2.1->m=n:=fun m n s o e=>by
  rcases aJ m c with q|q<;>rcases aJ n c with x|x
  .rw[(v m q).2,(v n x).2]at e;exact h.fd m n (by omega) (by omega) e
  .have:n=c:=by omega
   subst this;rw[(v m q).2,E o]at e;have:=G m (by omega);omega
  .have:m=c:=by omega
   subst this;rw[(v n x).2,E s]at e;have:=G n (by omega);omega
  .omega
 have U: ∀j,j<L.length->dK (L.map (mQ g k)) dP j=mQ g k (dK L dP j):=fun j u=>by
  rw[nY (l:=L.map _) (by rw[aQ];exact u),List.getElem_map,nY u]
 have av:Ou g k L=L.map (mQ g k)++if Zz g k=true then [yS g k (L.map (·.2.1))]else []:=rfl
 have aw: ∀n,n<c->(mQ g k (dK L dP (H.getD n 0).toNat)).2.1=(g.getD n dF).2.1/\(mQ g k (dK L dP (H.getD n 0).toNat)).2.2.2.2.1=true:=fun n o=>by
  have K:=h.frm n (by omega);refine⟨by rw[D,K.1,(v n o).2], ?_⟩;unfold mQ;rw[am K.2,K.1,<-(v n o).2,Sr V (v n o).1];exact K.2
 have ax: ∀j,j<L.length->(mQ g k (dK L dP j)).2.2.2.2.1=true-> ∃n,n<c/\(H.getD n 0).toNat=j:=fun j u B=>by
  obtain⟨q,m,s⟩:=aI _ B;obtain⟨n,o,I⟩:=h.opn j q;have K:=(h.frm n o).1;rw[I]at K;rcases aJ n c with J|J
  .exact⟨n,J,I⟩
  .rw[K,Iq]at s
   .cases s
   .intro m N e;rcases aJ m c with q|q
    .rw[(v m q).2]at e;have:=h.fd m n (by omega) (by rw[<-h.len];exact o) e;omega
    .have:m=c:=by omega
     subst this;rw[E N]at e;have:=G n (by rw[<-h.len];exact o);omega
 have ay: ∀{l:List kP} {j:Nat},(dK l dP j).2.2.2.2.1=true->j<l.length:=fun {l j} u=>by
  rcases aJ j l.length with q|q
  .exact q
  .rw[akY q]at u;cases u
 refine⟨by rw[Y,z];omega,by rw[Y,z];omega, ?_⟩;by_cases e:g.length=c
 .have ag:Zz g k=false:=by
   unfold Zz;cases hl:g.getLast? with
   |none=>rfl
   |some f=>
    have aK:g≠[]:=by rintro rfl;cases hl
    have S:0<g.length:=List.length_pos_iff.2 aK;have:g.getD (c-1) dF=f:=by
     rw[List.getLast?_eq_getElem?,e]at hl;rw[List.getD_eq_getElem?_getD,hl];rfl
    have x:=(v (c-1) (by omega)).2;rw[this]at x;have:=G (c-1) (by omega);exact decide_eq_false (by omega)
  rw[au,am e,av,ag];refine⟨by simp, ?_⟩;exact {
   len:=by rw[z,e]
   nn:=fun n o=>by rw[z]at o;rw[A n o,aQ];exact h.nn n (by omega)
   frm:=fun n o=>by
    rw[z]at o;rw[A n o,U _ (h.nn n (by omega)).2];exact aw n o
   opn:=fun j u=>by
    have hl:=ay u;rw[aQ]at hl;rw[U j hl]at u;obtain⟨n,o,y⟩:=ax j hl u;exact⟨n,by rw[z];exact o,by rw[A n o];exact y⟩
   lt:=fun j u=>by
    rw[aQ]at u;rw[U j u,D];have:=h.lt j u;omega
   inj:=fun i j W u y=>by
    rw[aQ]at W u;rw[U i W,U j u,D,D]at y;exact h.inj i j W u y
   fd:=V}
 .have az:g.length=c+1:=by omega
  have aA:g.getLast?=some (g.getD c dF):=by
   rw[List.getLast?_eq_getElem?,az,List.getD_eq_getElem?_getD,show c+1-1=c by omega,List.getElem?_eq_getElem (by omega)];rfl
  have aO:g.getLastD dF=g.getD c dF:=by rw[List.getLastD_eq_getLast?,aA];rfl
  have ah:=E (by omega);have ag:Zz g k=true:=by unfold Zz;rw[aA];exact decide_eq_true ah
  have aP:(if c=0 then-1 else(H.take c).getD (c-1) 0)=(if g.length=1 then-1 else atC (L.map (·.2.1)) (g.getD (g.length-2) dF).2.1):=by
   by_cases c0:c=0
   .rw[am c0,am (by omega)]
   .have o:=h.nn (c-1) (by omega);rw[aq c0,aq (by omega),A _ (by omega),show g.length-2=c-1 by omega,(v (c-1) (by omega)).2,<-(h.frm (c-1) (by omega)).1,adW h.inj o.2];omega
  have aS:(counts (g.getD c dF).1,((g.getD c dF).2.1,((0:Int),((if c=0 then-1 else(H.take c).getD (c-1) 0),(true,())))))=yS g k (L.map (·.2.1)):=by
   unfold yS;rw[aP,aO,ah]
  rw[au,aq e,av,ag,aS];refine⟨by simp, ?_⟩;have Z:(L.map (mQ g k)++[yS g k (L.map (·.2.1))]).length=L.length+1:=by simp
  have M: ∀j,j<L.length->dK (L.map (mQ g k)++[yS g k (L.map (·.2.1))]) dP j=mQ g k (dK L dP j):=fun j u=>by
   rw[<-U j u];unfold dK;rw[List.getD_eq_getElem?_getD,List.getD_eq_getElem?_getD,List.getElem?_append_left (by rw[aQ];exact u)]
  have ab:dK (L.map (mQ g k)++[yS g k (L.map (·.2.1))]) dP L.length=yS g k (L.map (·.2.1)):=by
   unfold dK;rw[List.getD_eq_getElem?_getD,List.getElem?_append_right (by simp)];simp
  have ai: ∀n,n<c->(H.take c++[(L.length:Int)]).getD n 0=H.getD n 0:=fun n o=>by
   rw[<-A n o,List.getD_eq_getElem?_getD,List.getD_eq_getElem?_getD,List.getElem?_append_left (by rw[z];exact o)]
  have ak:(H.take c++[(L.length:Int)]).getD c 0=L.length:=by
   rw[List.getD_eq_getElem?_getD,List.getElem?_append_right (by rw[z];omega)];simp[z]
  have X:(H.take c++[(L.length:Int)]).length=c+1:=by rw[aj,z];rfl
  have aB: ∀n,n<c+1->n<c\/n=c:=fun n o=>by omega
  have al:(yS g k (L.map (·.2.1))).2.1=k:=rfl;exact {
   len:=by rw[X,az]
   nn:=fun n o=>by
    rw[X]at o;rw[Z];rcases aB n o with q|rfl
    .rw[ai n q];have:=h.nn n (by omega);omega
    .rw[ak];omega
   frm:=fun n o=>by
    rw[X]at o;rcases aB n o with q|rfl
    .rw[ai n q,M _ (h.nn n (by omega)).2];exact aw n q
    .rw[ak,aV,ab];exact⟨ah.symm,rfl⟩
   opn:=fun j u=>by
    have hl:=ay u;rw[Z]at hl;rcases aJ j L.length with q|q
    .rw[M j q]at u;obtain⟨n,o,y⟩:=ax j q u;exact⟨n,by rw[X];omega,by rw[ai n o];exact y⟩
    .exact⟨c,by rw[X];omega,by rw[ak];omega⟩
   lt:=fun j u=>by
    rw[Z]at u;rcases aJ j L.length with q|q
    .rw[M j q,D];have:=h.lt j q;omega
    .rw[show j=L.length by omega,ab,al];omega
   inj:=fun i j W u y=>by
    rw[Z]at W u;rcases aJ i L.length with q|q<;>rcases aJ j L.length with x|x
    .rw[M i q,M j x,D,D]at y;exact h.inj i j q x y
    .rw[M i q,D,show j=L.length by omega,ab,al]at y;have:=h.lt i q;omega
    .rw[M j x,D,show i=L.length by omega,ab,al]at y;have:=h.lt j x;omega
    .omega
   fd:=V}
end
section
open Bool renaming and_true → ay
open List renaming drop_eq_getElem_cons → aA, length_map → aQ, drop_zero → aS, eq_nil_of_length_eq_zero → bG
open Go.RowKit
def qW:bZ->Int->fE×Bool->List kP->List kP
 |[],_,_,L=>L
 |b::l,a,x,L=>qW l (a+1) (fB x.1 x.2 (gy b) a) (Ou (oZ (fB x.1 x.2 (gy b) a).1) a L)
def tC (s:bZ) (p:kP):kP:=if p.1=12 then(p.1,p.2.1,p.2.1+1+((prl (s.drop (p.2.1+1).toNat):Nat):Int),p.2.2.2.1,false,())else if p.2.2.2.2.1=true then(p.1,p.2.1,(s.length:Int),p.2.2.2.1,true,())else p
def dn (s:bZ):List kP:=(qW s 0 fK []).map (tC s)
theorem aoo (F:List GY) (a:Int) (L:List kP):(Ou F a L).length<=L.length+1:=by
 grind [Ou]
theorem JP (s:fE):(oZ s).length<=s.length:=by simp[oZ]
theorem ayG {l:List GY} (h:l.length<1000000):nR l=some (l,()):=by
 grind [nR,qM,dY,kZ]
theorem ayf (s:bZ) (v:s.length<=100000): ∀(N:Nat) (i:Int) (x:fE×Bool) (L:List kP) (H:List Int),(s.length:Int)-i<N->0<=i->i<=s.length->iD x.1->(x.1.length:Int)<=i+1->Inv L H (oZ x.1) i->(L.length:Int)<=i->
  ∃g p,J8 N s (bM s) i x.2 i (lo x.1) H L=some (.inl ((s,()),(g,qW (s.drop i.toNat) i x L,(),())))/\Inv (qW (s.drop i.toNat) i x L) g p s.length/\(qW (s.drop i.toNat) i x L).length<=s.length
 |0,i,x,L,H,h,_,_,_,_,_,_=>by omega
 |N+1,i,x,L,H,h,f,D,l,hl,o,E=>by
  rw[J8,QM];by_cases e:i<s.length
  .obtain⟨b,hd,G⟩:=drop_at f e;have d:=good_step l x.2 (bY s i) i;have I:(lo (fB x.1 x.2 (bY s i) i).1).length≠0:=by
    rw[oC];intro e;rw[bG e]at d;exact d.1
   obtain⟨c,q,u⟩:=KI l x.2 (bY s i) i;rw[<-rQ,<-rQ]at u;rw[<-rQ,aQ]at q;obtain⟨y,z,J,K⟩:=awn o q u;obtain⟨t,M⟩:=aEx d.1;have O:=JP (fB x.1 x.2 (bY s i) i).1;have S:=JP x.1;have U:=o.len;have V:=aKp (t:=t) (L:=L) (H:=H) (F:=oZ (fB x.1 x.2 (bY s i) i).1) (a:=i) f (by omega) (by have:=d.2;omega) (by omega) (by omega)
    (fun j A=>by
     obtain⟨n,B,W⟩:=List.getElem_of_mem A;have:=o.nn n B
     grind) y z
   have X:=aoo (oZ (fB x.1 x.2 (bY s i) i).1) i L;obtain⟨g,p,Y,Z,r3⟩:=ayf s v N (i+1) (fB x.1 x.2 (bY s i) i) (Ou (oZ (fB x.1 x.2 (bY s i) i).1) i L) (ab3 L H (oZ (fB x.1 x.2 (bY s i) i).1) i).2 (by omega) (by omega) (by omega) d.1 (by have:=d.2;omega) (by simp_all) (by omega);rw[cO (fO (b:=bM s) e),cO (eu f e),agX l (by omega) x.2 (lG s i) f (by omega),bI];simp only[pst];rw[dN (dZ (by rw[bP];omega)),ayG (by grind),bI]
   grind [bI,dI,qW]
  .have ab:i=s.length:=by omega
   rw[dN (jh (b:=bM s) (by rw[bP];omega)),Jy,qW]
   grind
theorem aCa (s:bZ) (p:s.length<=100000) (H:List Int): ∀(N i:Nat) (L:List kP),L.length-i<N->i<=L.length->L.length<1000000->(∀j,j<L.length->0<=(dK L dP j).2.1/\(dK L dP j).2.1<s.length)->
  zZ N s (bM L) (i:Int) H L=some (.inl ((),(H,L.take i++(L.drop i).map (tC s),(),())))
 |0,i,L,h,_,_,_=>by omega
 |N+1,i,L,h,B,hl,q=>by
  (rewrite [zZ,Lm];delta fD jl eP)
  by_cases e:i<L.length
  .have D:mi (dD (i:Int)) L=true:=lT (by assumption);have u:fV L (i:Int)=true:=eu;have v:dD (i:Int)=i:=by simp[dD]
   have iU: ∀x,dK (iw L i x) (0,(0,(0,(0,(false,()))))) i=x:=fun x=>F7 e;have y:mi i L=true:=by assumption
   have E:=q i e;have g:WN s (dw .i64 (dK L (0,(0,(0,(0,(false,()))))) i).2.1 1)=some (((prl (s.drop ((dK L dP i).2.1+1).toNat):Nat):Int),()):=by
    grind [dI,dP,ayp]
   have l:dw .i64 (dw .i64 (dK L (0,(0,(0,(0,(false,()))))) i).2.1 1) ((prl (s.drop ((dK L dP i).2.1+1).toNat):Nat):Int)=(dK L dP i).2.1+1+((prl (s.drop ((dK L dP i).2.1+1).toNat):Nat):Int):=by
    grind [aio,dP,dI]
   have z:dw .i64 (i:Int) 1=((i+1:Nat):Int):=by grind [dI]
   have go: ∀x,x=tC s (dK L dP i)->zZ N s (bM L) ((i+1:Nat):Int) H (iw L i x)=some (.inl ((),(H,L.take i++(L.drop i).map (tC s),(),()))):=fun x G=>by
    have I:(tC s (dK L dP i)).2.1=(dK L dP i).2.1:=by
     grind [tC]
    have o:=aCa s p H N (i+1) (iw L i x) (by rw[ve];omega) (by rw[ve];omega) (by rw[ve];exact hl) (fun j J=>by
     grind [iw,F7,IG])
    have A:bM (iw L i x)=bM L:=by rw[bP,bP,ve]
    rw[A]at o;rw[o];congr 4;have K:(iw L i x).take (i+1)=L.take i++[x]:=by
     simp_all [iw,List.take_add_one,List.take_set_of_le]
    grind [iw,List.drop_set_of_lt,aA,nY]
   rw[cO (fO (by rw[bP];omega))];simp only[v,u,y,akV,iU,afu,aa,adi,ay,z];by_cases ho:(dK L dP i).2.2.2.2.1=true
   .have f:(dK L (0,(0,(0,(0,(false,()))))) i).2.2.2.2.1=true:=ho;rw[f,aa];by_cases hm:(dK L dP i).1=12
    .have d:(dK L (0,(0,(0,(0,(false,()))))) i).1=12:=hm;rw[d,cO (gq rfl),g,bI];simp only[l];refine go _ ?_;unfold tC;rw[am hm,hm];rfl
    .have d: ¬(dK L (0,(0,(0,(0,(false,()))))) i).1=12:=hm;rw[dN (dZ d)];refine go _ ?_;unfold tC;rw[aq hm,am ho];rfl
   .have f:(dK L (0,(0,(0,(0,(false,()))))) i).2.2.2.2.1=false:=Bool.eq_false_iff.2 ho;rw[f,ac];by_cases hm:(dK L dP i).1=12
    .have d:(dK L (0,(0,(0,(0,(false,()))))) i).1=12:=hm;rw[d,cO (gq rfl),g,bI];simp only[l];refine go _ ?_;unfold tC;rw[am hm,hm];rfl
    .have d: ¬(dK L (0,(0,(0,(0,(false,()))))) i).1=12:=hm;rw[dN (dZ d)];simp_all [iw,nY,tC]
  .have M:i=L.length:=by omega
   simp_all [iE,bP]
theorem aou:Inv [] [] (oZ fK.1) 0:={
 len:=rfl
 nn:=fun n e=>by cases e
 frm:=fun n e=>by cases e
 opn:=fun j d=>by rw[akY (by simp)]at d;cases d
 lt:=fun j d=>by cases d
 inj:=fun i j f=>by cases f
 fd:=fun m n g=>by cases g}
theorem Xm: ∀(l:bZ) (a:Int) (x:fE×Bool) (L:List kP),0<=a->(∀p∈L,0<=p.2.1)-> ∀p∈qW l a x L,0<=p.2.1
 |[],a,x,L,f,h,p,d=>h p d
 |b::l,a,x,L,f,h,p,d=>by
  rw[qW]at d;refine Xm l (a+1) _ _ (by omega) (fun p d=> ?_) p d;unfold Ou at d;rcases List.mem_append.1 d with e|e
  .obtain⟨q,g,rfl⟩:=List.mem_map.1 e;have:(mQ (oZ (fB x.1 x.2 (gy b) a).1) a q).2.1=q.2.1:=by
    unfold mQ;split
    .split<;>rfl
    .rfl
   grind
  .split at e
   .rw[List.mem_singleton.1 e];exact f
   .cases e
theorem aLD (s:bZ) (d:s.length<=100000):ajB s=some (dn s,()):=by
 obtain⟨f,q,g,e,i⟩:=ayf s d bQ 0 fK [] [] (by have:=Oc (n:=s.length) (by omega);omega) (by omega) (by omega) kK (by simp[fK]) aou (by simp);unfold ajB;rw[show([(0,(0,()))]:List nN)=lo fK.1 from rfl,show(true:Bool)=fK.2 from rfl,g,bI];simp only[dW,Int.toNat_zero,aS]at e i ⊢;have u:=Xm s 0 fK [] (by omega) (fun p l=>by cases l);have v:=aCa s d f bQ 0 (qW s 0 fK []) (Oc) (by omega) (by omega) (fun j o=>by
  refine⟨?_,e.lt j o⟩
  grind [nY])
 grind [bI,dn]
end
section
open Option renaming some → a6, none → a7
open List renaming append_assoc → ai, map_cons → au, drop_eq_getElem_cons → aA, nil_append → aF, cons_append → aH, drop_of_length_le → aO, map_nil → aU, mem_of_mem_take → bu
open Go.RowKit
def wC:bZ->Int->fE×Bool->kP->kP
 |[],_,_,p=>p
 |b::l,a,x,p=>wC l (a+1) (fB x.1 x.2 (gy b) a) (mQ (oZ (fB x.1 x.2 (gy b) a).1) a p)
def sQ:bZ->Int->fE×Bool->List Int->List kP
 |[],_,_,_=>[]
 |b::l,a,x,d=>
  if Zz (oZ (fB x.1 x.2 (gy b) a).1) a=true then wC l (a+1) (fB x.1 x.2 (gy b) a) (yS (oZ (fB x.1 x.2 (gy b) a).1) a d)::sQ l (a+1) (fB x.1 x.2 (gy b) a) (d++[a])
  else sQ l (a+1) (fB x.1 x.2 (gy b) a) d
theorem X8 (F:List GY) (a:Int) (p:kP):(mQ F a p).2.1=p.2.1:=by
 unfold mQ;split
 .split<;>rfl
 .rfl
theorem Fp: ∀(l:bZ) (a:Int) (x:fE×Bool) (p:kP),(wC l a x p).2.1=p.2.1
 |[],_,_,_=>rfl
 |b::l,a,x,p=>by rw[wC,Fp l,X8]
theorem WA (s:bZ) (p:kP):(tC s p).2.1=p.2.1:=by
 grind [tC]
theorem Wy: ∀(l:bZ) (a:Int) (x:fE×Bool) (p:kP),p.2.2.2.2.1=false->wC l a x p=p
 |[],_,_,_,_=>rfl
 |b::l,a,x,p,h=>by
  rw[wC];have:mQ (oZ (fB x.1 x.2 (gy b) a).1) a p=p:=by grind [mQ]
  rw[this];exact Wy l _ _ p h
theorem Uk: ∀(l:bZ) (a:Int) (x:fE×Bool) (L:List kP),qW l a x L=L.map (wC l a x)++sQ l a x (L.map (·.2.1))
 |[],a,x,L=>by
  have:(wC [] a x)=id:=rfl;rw[qW,sQ,this];simp
 |b::l,a,x,L=>by
  rw[qW,Uk l,sQ];have d:L.map (wC (b::l) a x)=(L.map (mQ (oZ (fB x.1 x.2 (gy b) a).1) a)).map (wC l (a+1) (fB x.1 x.2 (gy b) a)):=by
   rw[List.map_map];rfl
  have e:(L.map (mQ (oZ (fB x.1 x.2 (gy b) a).1) a)).map (·.2.1)=L.map (·.2.1):=by
   simp_all [X8]
  unfold Ou;rw[d];split
  .rw[List.map_append,List.map_append,e];simp only[au,aU,ai,aH,aF];rfl
  grind
theorem xZ (s:bZ):dn s=(sQ s 0 fK []).map (tC s):=by
 unfold dn;rw[Uk];rfl
structure PL (x:fE) (i:Int):Prop where
 up:(Dp x).Pairwise (· < ·)
 lt: ∀v∈Dp x,v<i
theorem avC:PL fK.1 0:=⟨List.Pairwise.nil,fun v d=>by cases d⟩
theorem aBd {s:fE} {i:Int} (g:iD s) (h:PL s i) (fr:Bool) (b:Int):PL (fB s fr b i).1 (i+1):=by
 obtain⟨c,o,e|e⟩:=KI g fr b i
 .refine⟨by rw[e];exact h.up.sublist (List.take_sublist ..),fun v d=> ?_⟩;rw[e]at d;have:=h.lt v (bu d);omega
 .refine⟨?_,fun v d=> ?_⟩
  .rw[e,List.pairwise_append];refine⟨h.up.sublist (List.take_sublist ..),List.pairwise_singleton ..,fun a j b l=> ?_⟩;rw[List.mem_singleton.1 l];exact h.lt a (bu j)
  .rw[e]at d;rcases List.mem_append.1 d with f|f
   .have:=h.lt v (bu f);omega
   grind
theorem acR {l:List Int} (h:l.Pairwise (· < ·)) {m n:Nat} {v:Int} (d:l[m]? =a6 v) (e:l[n]? =a6 v):m=n:=by
 grind [List.pairwise_iff_getElem]
theorem ayX {l:List Int} (h:l.Pairwise (· < ·)) {n:Nat} {v:Int} (d:l[n]? =a6 v):l.findIdx? (· ==v)=a6 n:=by
 obtain⟨e,f⟩:=List.getElem?_eq_some_iff.1 d;cases hf:l.findIdx? (· ==v)with
 |none=>
  simp_all
 |some m=>
  obtain⟨g,i,_⟩:=List.findIdx?_eq_some_iff_getElem.1 hf;have:l[m]? =a6 v:=by simp_all
  rw[acR h this d]
theorem stay {s:fE} {i v:Int} {n:Nat} (l:iD s) (h:PL s i) (f:(Dp s)[n]? =a6 v) (fr:Bool) (b:Int):(Dp (fB s fr b i).1)[n]? =a6 v\/v∉Dp (fB s fr b i).1:=by
 have p:=h.lt v (List.mem_of_getElem? f);obtain⟨c,q,e|e⟩:=KI l fr b i<;>rw[e]
 .by_cases hnc:n<c
  .grind
  .right;intro g;obtain⟨m,d⟩:=List.getElem?_of_mem g;rw[List.getElem?_take]at d;split at d
   .rename_i o
    have:=acR h.up d f;omega
   .cases d
 .have u:((Dp s).take c).length=c:=by simp_all
  by_cases hnc:n<c
  .grind
  .right;intro g;rcases List.mem_append.1 g with j|j
   .obtain⟨m,d⟩:=List.getElem?_of_mem j;rw[List.getElem?_take]at d;split at d
    .rename_i o
     have:=acR h.up d f;omega
    .cases d
   simp_all
def atM (s:fE) (v:Int):Int:=match(Dp s).findIdx? (· ==v)with
 |some n=>((n+1:Nat):Int)
 |none=>0
theorem avF {s:fE} (d:iD s): ∃t,po s=t::Dp s:=by
 have e:s≠[]:=by rintro rfl;exact d
 grind [List.dropLast_concat_getLast,po,Dp]
theorem aGi {s:fE} (e:iD s): ∃t,so s=t::(oZ s).map fun f=>letter f.1:=by
 have d:s≠[]:=by rintro rfl;exact e
 refine⟨letter (s.getLast d).1, ?_⟩
 conv=>lhs;rw[<-List.dropLast_concat_getLast d]
 simp[so,oZ,List.map_reverse];rfl
theorem aiR (v:Int) (S:bZ) (P:List Int) (fr:Bool) (d:P.length<1000000): ∀(N j:Nat),P.length-j<N->
  FX N v (j:Int) S P fr=a6 (match(P.drop j).findIdx? (· ==v)with|some n=>.inr ((((j+n:Nat):Int),()),())|none=>.inl ((),()))
 |0,j,h=>by omega
 |N+1,j,h=>by
  rw[FX,QN];by_cases e:j<P.length
  .have f:dJ P 0 (j:Int)=P[j]:=by simp_all [dJ]
   rw[cO (fO (by rw[bP];omega)),cO (eu),f,aA e,List.findIdx?_cons,gZ];by_cases e2:P[j]=v
   .simp[e2]
   .rw[dI,show(j:Int)+1=((j+1:Nat):Int) by omega,aiR v S P fr d N (j+1) (by omega)]
    grind
  simp_all [iE,bP,aO]
theorem aDz {s:fE} (d:iD s) (hl:s.length<900000) (fr:Bool) (v:Int):adJ (so s,(po s,(fr,()))) v=a6 (atM s v,()):=by
 unfold adJ;obtain⟨t,e⟩:=avF d;have h:=aiR v (so s) (po s) fr (by rw[Ut];omega) bQ 1 (dX (by rw[Ut];omega));rw[show FX bQ v 1 (so s) (po s) fr=_ from h,bI,e]
 grind [atM,dW]
theorem ave: ∀n:Fin 15,ajE ((letter ((n.val:Nat):Int)).toNat:Int)=a6 (counts ((n.val:Nat):Int),()):=by decide+kernel
theorem aFB {m:Int} (d:0<=m) (e:m<=14):ajE ((letter m).toNat:Int)=a6 (counts m,()):=by
 have:=ave ⟨m.toNat,by omega⟩
 grind
theorem Iu: ∀{s:fE},iD s-> ∀f∈s,0<=f.1/\f.1<=14
 |[],h=>by cases h
 |[f],h=>by
  intro g d;rw[List.mem_singleton.1 d];have:f.1=0:=h;omega
 |f::g::r,h=>by
  intro q e;rcases List.mem_cons.1 e with rfl|i
  .have:=h.1;have:=h.2.1;omega
  .exact Iu h.2.2.2 q i
theorem aoi {s:fE} (e:iD s) {n:Nat} (i:n<(oZ s).length):0<=((oZ s).getD n dF).1/\((oZ s).getD n dF).1<=14:=by
 have d:(oZ s).getD n dF∈oZ s:=by simp_all
 generalize (oZ s).getD n dF=q at d;unfold oZ at d;rw[List.mem_reverse,List.mem_map]at d;obtain⟨f,g,rfl⟩:=d;exact Iu e f (List.dropLast_subset s g)
theorem aKs {s:fE} (d:iD s) {n:Nat} (e:n<(oZ s).length):bY (so s) ((n+1:Nat):Int)=((letter ((oZ s).getD n dF).1).toNat:Int)/\fV (so s) ((n+1:Nat):Int)=true:=by
 grind [aGi,eu,bY]
theorem Oq (s:fE):(oZ s).length=(Dp s).length:=by grind [rQ]
theorem atn {s:fE} {n:Nat} {v:Int} (h:(Dp s)[n]? =a6 v):((oZ s).getD n dF).2.1=v/\n<(oZ s).length:=by
 grind [rQ]
theorem aEe {s:fE} {i:Int} (h:PL s i): ∀m n,m<(oZ s).length->n<(oZ s).length->((oZ s).getD m dF).2.1=((oZ s).getD n dF).2.1->m=n:=fun m n d f e=>by
 rw[qR d,qR f,rQ]at e;rw[Oq]at d f;rw[List.getD_eq_getElem?_getD,List.getD_eq_getElem?_getD,List.getElem?_eq_getElem d,List.getElem?_eq_getElem f]at e;exact acR h.up (List.getElem?_eq_getElem d) (by simp_all)
theorem atb {s:fE} {i v:Int} {n:Nat} (h:PL s i) (d:(Dp s)[n]? =a6 v):G6 (oZ s) v=a6 ((oZ s).getD n dF).1:=by
 grind [atn,Sr,aEe]
theorem ata {s:fE} {v:Int} (h:v∉Dp s):G6 (oZ s) v=a7:=by
 grind [Iq,rQ]
theorem aqB {s:fE} {i v:Int} {n:Nat} (h:PL s i) (d:(Dp s)[n]? =a6 v):atM s v=((n+1:Nat):Int):=by
 unfold atM;rw[ayX h.up d]
theorem aqC {s:fE} {v:Int} (h:v∉Dp s):atM s v=0:=by
 grind [atM]
def iY (s:bZ) (k:Nat):fE×Bool:=jk (s.take k) 0 fK
theorem KQ: ∀(l m:bZ) (a:Int) (x:fE×Bool),jk (l++m) a x=jk m (a+l.length) (jk l a x)
 |[],m,a,x=>by simp[jk]
 |b::l,m,a,x=>by
  rw[aH,jk,jk,KQ l m]
  grind
theorem Gw {s:List UInt8} {k:Nat} (h:k<s.length):iY s (k+1)=fB (iY s k).1 (iY s k).2 (bY s k) k:=by
 unfold iY;rw[List.take_add_one,List.getElem?_eq_getElem h,Option.toList_some,KQ,jk,jk,byte_at h,List.length_take,Nat.min_eq_left (by omega)];simp[gy]
theorem vP (s:bZ) (k:Nat):iD (iY s k).1/\(iY s k).1.length<=k+1:=by
 have h:=DW (s.take k) 0 fK kK;refine⟨h.1, ?_⟩;have d:=h.2;have:fK.1.length=1:=rfl
 grind [iY]
theorem Lr (s:bZ): ∀k,k<=s.length->PL (iY s k).1 k
 |0,_=>avC
 |k+1,h=>by
  rw[Gw (by omega)];have:=aBd (vP s k).1 (Lr s k (by omega)) (iY s k).2 (bY s k);simpa using this
end
section
open Option renaming some → a6, none → a7
open Bool renaming false_eq_true → ag
open List renaming append_assoc → ai, length_append → aj, map_cons → au, drop_eq_getElem_cons → aA, nil_append → aF, length_cons → aG, drop_of_length_le → aO, length_drop → aP, length_map → aQ, drop_zero → aS, map_nil → aU, getElem_mem → aX, mem_append_right → bn, mem_of_mem_take → bu, mem_append_left → bF
open Nat renaming le_refl → ae, lt_or_ge → aJ
open Go.RowKit
abbrev RSt:=List UInt8×(List Int×qG)
def dS:RSt:=([],([],(false,())))
def sN (s:bZ) (n:Nat):List RSt:=(List.range n).map fun k=>Ht (iY s k)
theorem pY (s:bZ) (n:Nat):(sN s n).length=n:=by simp[sN]
theorem Jm (s:bZ) {n k:Nat} (h:k<n):dK (sN s n) dS k=Ht (iY s k):=by
 simp_all [nY,sN]
theorem acY (s:bZ) (d:s.length<=100000): ∀(N k:Nat),s.length-k<N->k<=s.length->
  FU N s (k:Int) (sN s (k+1))=a6 (.inl ((s,()),(sN s (s.length+1),())))
 |0,k,h,_=>by omega
 |N+1,k,h,hk=>by
  rw[FU,QG];by_cases e:k<s.length
  .have j:=vP s k;have f:dK (sN s (k+1)) ([],([],(false,()))) (dD (k:Int))=Ht (iY s k):=by
    rw[show dD (k:Int)=k from rfl];exact Jm s (by omega)
   have g:SB (so (iY s k).1,(po (iY s k).1,((iY s k).2,()))) (bY s (k:Int)) (k:Int)=a6 (Ht (iY s (k+1)),()):=by
    grind [Gw,agY,lG]
   have i:bT (sN s (k+1)) [Ht (iY s (k+1))]=sN s (k+2):=by
    simp_all [bT,sN,List.range_succ]
   rw[cO (fO (by rw[bP];omega)),cO (eu (by omega) (by rw[pY];omega)),cO (eu),cO (lT (by simp_all [pY,dD])),f];simp only[Ht];rw[g,bI];simp only;rw[i,cO (by grind [dY,pY,kZ]),dI,show(k:Int)+1=((k+1:Nat):Int) by omega];exact acY s d N (k+1) (by omega) (by omega)
  .rw[dN (iE (by rw[bP];omega)),show k=s.length by omega]
theorem amV (s:bZ) (A:List RSt) (out:List kP) (from_ n:Int) (P:List Int) (m f to_:Int) (d:Bool) (v:out.length<1000000) (x:n<1000000)
  (g:(dK A dS (dD (dw .i64 from_ 1))).2.1=P) (i:fV A (dw .i64 from_ 1)=true) (l:mi (dD (dw .i64 from_ 1)) A=true) (o:1<n->fV P (eU .i64 n 1)=true)
  (j:Nat) (p:1<n->j<out.length/\(dK out dP j).2.1=dJ P 0 (eU .i64 n 1)) (q: ∀a b,a<out.length->b<out.length->(dK out dP a).2.1=(dK out dP b).2.1->a=b):
  ∀(N k:Nat),out.length-k<N->k<=out.length->
  zY N s from_ n (k:Int) m f to_ (if 1<n/\j<k then(j:Int)else-1) d out A=a6 (.inl ((s,from_,n,()),((m,f,to_,(if 1<n then(j:Int)else-1),d,()),out,A,())))
 |0,k,h,_=>by omega
 |N+1,k,h,hk=>by
  rw[zY,Lh];by_cases e:k<out.length
  .have u:=amV s A out from_ n P m f to_ d v x g i l o j p q N (k+1) (by omega) (by omega);rw[cO (fO (by rw[bP];omega)),dI (a:=(k:Int)) (by omega) (by omega),show(k:Int)+1=((k+1:Nat):Int) by omega];by_cases e1:1<n
   .obtain⟨y,z⟩:=p e1;have B:(dK A ([],([],(false,()))) (dD (dw .i64 from_ 1))).2.1=P:=g;rw[cO (fO e1),cO (eu),cO (lT (by assumption)),i,l,B,o e1];simp only[aa];by_cases e2:k=j
    .simp_all [dK,dD,gq]
    .have: ¬(dK out (0,(0,(0,(0,(false,()))))) (dD (k:Int))).2.1=dJ P 0 (eU .i64 n 1):=fun D=>e2 (q k j e y (D.trans z.symm));rw[dN (dZ this)]
     grind
   .rw[aq (fun h=>e1 h.1)]at u ⊢;rw[dN (iE e1)];exact u
  .rw[dN (iE (by rw[bP];omega))]
   grind
theorem XD (s:bZ) (A:s.length<=100000) (out:List kP) (f n:Nat) (d:Int): ∀(N k:Nat) (m:Int) (p:kP),s.length+1-k<N->f<k->k<=s.length->
  (Dp (iY s k).1)[n]? =a6 (f:Int)->p.1=counts ((oZ (iY s k).1).getD n dF).1->p.2.1=f->p.2.2.2.2.1=true->p.2.2.2.1=d->
  wQ N s (f:Int) ((n+1:Nat):Int) (k:Int) m f (s.length:Int) d true out (sN s (s.length+1))=
   a6 (.inl ((s,(f:Int),()),(((wC (s.drop k) k (iY s k) p).1,(f:Int),(if(wC (s.drop k) k (iY s k) p).2.2.2.2.1=true then(s.length:Int)else(wC (s.drop k) k (iY s k) p).2.2.1),d,(wC (s.drop k) k (iY s k) p).2.2.2.2.1,()),out,sN s (s.length+1),())))
   /\(wC (s.drop k) k (iY s k) p).2.2.2.1=d
 |0,k,m,p,h,_,_,_,_,_,_,_=>by omega
 |N+1,k,m,p,h,X,hk,l,B,u,i,v=>by
  have j:=vP s k;have x:=Lr s k hk;obtain⟨Y,y⟩:=atn l;have D:dK (sN s (s.length+1)) ([],([],(false,()))) (dD (k:Int))=Ht (iY s k):=by
   rw[show dD (k:Int)=k from rfl];exact Jm s (by omega)
  have E:fV (sN s (s.length+1)) (k:Int)=true:=eu (by omega) (by rw[pY];omega);have G:mi (dD (k:Int)) (sN s (s.length+1))=true:=lT (by grind [pY,dD]);obtain⟨I,J⟩:=aKs j.1 y;have z:=aoi j.1 y;rw[wQ,Aw,cO (mW (by rw[bP];omega)),E,G,D];simp only[aa,Ht];rw[aDz j.1 (by omega),bI,aqB x l,dN (dZ),J,I];simp only[aa];rw[aFB z.1 z.2,bI,dI,show(k:Int)+1=((k+1:Nat):Int) by omega];simp only;by_cases e:k<s.length
  .have hd:s.drop k=s[k]::s.drop (k+1):=aA e;have o:=Gw e;have K:bY s (k:Int)=gy s[k]:=byte_at e;rw[K]at o;have L:=vP s (k+1);have M:=Lr s (k+1) (by omega);have O:wC (s.drop k) k (iY s k) p=wC (s.drop (k+1)) ((k+1:Nat):Int) (iY s (k+1)) (mQ (oZ (iY s (k+1)).1) k p):=by
    grind [wC]
   rw[O];rcases stay j.1 x l (iY s k).2 (gy s[k])with h1|h1
   .rw[<-o]at h1;have q:mQ (oZ (iY s (k+1)).1) k p=(counts ((oZ (iY s (k+1)).1).getD n dF).1,p.2):=by
     unfold mQ;rw[am i,u,atb M h1]
    rw[q];exact XD s A out f n d N (k+1) _ _ (by omega) (by omega) (by omega) h1 rfl u i v
   .rw[<-o]at h1;have q:mQ (oZ (iY s (k+1)).1) k p=KW (k+1) p:=by
     simp_all [mQ,ata]
    have S:dK (sN s (s.length+1)) ([],([],(false,()))) (dD ((k+1:Nat):Int))=Ht (iY s (k+1)):=by
     rw[show dD ((k+1:Nat):Int)=k+1 from rfl];exact Jm s (by omega)
    have U:fV (sN s (s.length+1)) ((k+1:Nat):Int)=true:=eu (by omega) (by rw[pY];omega);have V:mi (dD ((k+1:Nat):Int)) (sN s (s.length+1))=true:=lT (by simp_all [pY,dD]);rw[q,Wy _ _ _ _ rfl];obtain⟨g,rfl⟩: ∃g,N=g+1:=⟨N-1,by omega⟩;rw[wQ,Aw,cO (mW (by rw[bP];omega)),U,V,S];simp only[aa,Ht];rw[aDz L.1 (by omega),bI,aqC h1,cO (gq rfl)];simp_all [KW]
  .have W:k=s.length:=by omega
   subst W;rw[List.drop_length,wC];obtain⟨g,rfl⟩: ∃g,N=g+1:=⟨N-1,by omega⟩;rw[wQ,Aw,dN (Dl (by rw[bP];omega)),am i,i,B];exact⟨rfl,v⟩
theorem aoQ (F:List GY) (a:Int):Zz F a=decide ((F.map (·.2.1)).getLast?=a6 a):=by
 grind [Zz]
theorem ZE (s:bZ) (I:s.length<=100000): ∀(N k:Nat) (out:List kP),s.length-k<N->k<=s.length->out.length<=k->
  (∀a b,a<out.length->b<out.length->(dK out dP a).2.1=(dK out dP b).2.1->a=b)->(∀p∈out,p.2.1<(k:Int))->(∀v∈Dp (iY s k).1,v∈out.map (·.2.1))->
  BO N s (k:Int) out (sN s (s.length+1))=a6 (.inl ((),(out++(sQ (s.drop k) k (iY s k) (out.map (·.2.1))).map (tC s),())))
 |0,k,out,h,_,_,_,_,_=>by omega
 |N+1,k,out,h,hk,aZ,z,J,aw=>by
  rw[BO,QH];by_cases e:k<s.length
  .have hd:s.drop k=s[k]::s.drop (k+1):=aA e;have K:=Gw e;have A:bY s (k:Int)=gy s[k]:=byte_at e;rw[A]at K;have hg:=vP s k;have ax:=Lr s k hk;have L:=vP s (k+1);have ay:=Lr s (k+1) (by omega);have i:dw .i64 (k:Int) 1=((k+1:Nat):Int):=by rw[dI];omega
   have W:dK (sN s (s.length+1)) ([],([],(false,()))) (dD ((k+1:Nat):Int))=Ht (iY s (k+1)):=by
    rw[show dD ((k+1:Nat):Int)=k+1 from rfl];exact Jm s (by omega)
   have X:fV (sN s (s.length+1)) ((k+1:Nat):Int)=true:=eu (by omega) (by rw[pY];omega);have Y:mi (dD ((k+1:Nat):Int)) (sN s (s.length+1))=true:=lT (by rw[pY];simp only[dD];omega);rw[cO (fO (by rw[bP];omega)),i,X,Y,W,hd,sQ,<-K];simp only[aa,Ht];rw[aDz L.1 (by omega),bI,aoQ,rQ];obtain⟨c,hc,g⟩:=KI hg.1 (iY s k).2 (gy s[k]) k;rw[<-K]at g;have Z:((Dp (iY s k).1).take c).length=c:=by rw[List.length_take];omega
   have M: ∀v∈(Dp (iY s k).1).take c,v∈out.map (·.2.1):=fun v f=>aw v (bu f);rcases g with g|g
   .
    have ab:(k:Int)∉Dp (iY s (k+1)).1:=fun f=>by
     rw[g]at f;have:=ax.lt _ (bu f);omega
    have hl: ¬(Dp (iY s (k+1)).1).getLast?=a6 (k:Int):=fun f=>ab (List.mem_of_getLast? f);rw[aqC ab,cO (gq rfl),decide_eq_false hl];simp only[ag,if_false];exact ZE s I N (k+1) out (by omega) (by omega) (by omega) z (fun p O=>by have:=J p O;omega) (fun v f=>by rw[g]at f;exact M v f)
   .have ad:(Dp (iY s (k+1)).1)[c]? =a6 (k:Int):=by
     rw[g,List.getElem?_append_right (by omega),Z];simp
    have hl:(Dp (iY s (k+1)).1).getLast?=a6 (k:Int):=by rw[g];simp
    have af:(oZ (iY s (k+1)).1).length=c+1:=by rw[Oq,g,aj,Z];rfl
    rw[aqB ay ad,dN (dZ),decide_eq_true hl];simp only[if_true];have bd:=JP (iY s (k+1)).1;have bf:=L.2;have az:1<((c+1:Nat):Int)->fV (po (iY s (k+1)).1) (eU .i64 ((c+1:Nat):Int) 1)=true:=fun d=>by
     rw[iW];refine eu (by omega) ?_;rw[Ut];have:=JP (iY s (k+1)).1;omega
    obtain⟨t,ht⟩:=avF L.1;have aB:1<((c+1:Nat):Int)->dJ (po (iY s (k+1)).1) 0 (eU .i64 ((c+1:Nat):Int) 1)=((oZ (iY s (k+1)).1).getD (c-1) dF).2.1:=fun d=>by
     rw[iW,ht,qR,rQ];unfold dJ;rw[show(((c+1:Nat):Int)-1).toNat=(c-1)+1 by omega,List.getD_cons_succ]
    have aH: ∃j:Nat,1<((c+1:Nat):Int)->j<out.length/\(dK out dP j).2.1=((oZ (iY s (k+1)).1).getD (c-1) dF).2.1/\atC (out.map (·.2.1)) ((oZ (iY s (k+1)).1).getD (c-1) dF).2.1=(j:Int):=by
     by_cases d:1<((c+1:Nat):Int)
     .have aI:((oZ (iY s (k+1)).1).getD (c-1) dF).2.1∈out.map (·.2.1):=by
       refine M _ ?_;rw[qR,rQ,g,List.getD_eq_getElem?_getD,List.getElem?_append_left (by omega),List.getElem?_eq_getElem (by omega)];exact aX _
      obtain⟨j,B,ah⟩:=List.getElem_of_mem aI;rw[aQ]at B;rw[List.getElem_map]at ah;have ak:(dK out dP j).2.1=((oZ (iY s (k+1)).1).getD (c-1) dF).2.1:=by rw[nY B];exact ah
      exact⟨j,fun _=>⟨B,ak,by rw[<-ak];exact adW z B⟩⟩
     .exact⟨0,fun l=>absurd l d⟩
    obtain⟨j,S⟩:=aH;have al:=amV s (sN s (s.length+1)) out (k:Int) ((c+1:Nat):Int) (po (iY s (k+1)).1) 0 (k:Int) (s.length:Int) true (by omega) (by have:=JP (iY s (k+1)).1;omega)
     (by rw[i];exact congrArg (·.2.1) W) (by rw[i];exact X) (by rw[i];exact Y) az j (fun d=>⟨(S d).1,(S d).2.1.trans (aB d).symm⟩) z bQ 0 (dX) (by omega)
    rw[aq (by omega)]at al;rw[show zY bQ s (k:Int) ((c+1:Nat):Int) 0 0 (k:Int) (bM s) (-1) true out (sN s (s.length+1))=_ from al,bI];simp only[dW];have D:yS (oZ (iY s (k+1)).1) k (out.map (·.2.1))=(counts ((oZ (iY s (k+1)).1).getD c dF).1,(k:Int),0,(if 1<((c+1:Nat):Int)then(j:Int)else-1),true,()):=by
     unfold yS;have aK:(oZ (iY s (k+1)).1).getLastD dF=(oZ (iY s (k+1)).1).getD c dF:=by
      rw[List.getLastD_eq_getLast?,List.getLast?_eq_getElem?,af,List.getD_eq_getElem?_getD];rfl
     rw[aK,af];by_cases d:1<((c+1:Nat):Int)
     .rw[aq (by omega),am d,show c+1-2=c-1 by omega,(S d).2.2]
     .rw[am (by omega),aq d]
    obtain⟨aV,U⟩:=XD s I out k c (if 1<((c+1:Nat):Int)then(j:Int)else-1) bQ (k+1) 0 (yS (oZ (iY s (k+1)).1) k (out.map (·.2.1))) (dX) (by omega) (by omega) ad (by rw[D]) (by rw[D]) (by rw[D]) (by rw[D]);rw[i,aV,bI];simp only;have u:=Fp (s.drop (k+1)) ((k+1:Nat):Int) (iY s (k+1)) (yS (oZ (iY s (k+1)).1) k (out.map (·.2.1)));have aW:(yS (oZ (iY s (k+1)).1) k (out.map (·.2.1))).2.1=(k:Int):=rfl;rw[aW]at u;rw[show((k:Int)+1)=((k+1:Nat):Int) by omega];generalize hq:wC (s.drop (k+1)) ((k+1:Nat):Int) (iY s (k+1)) (yS (oZ (iY s (k+1)).1) k (out.map (·.2.1)))=q at*;have an: ∀x:kP,dY (bT out [x]) 40=true:=fun x=>by
     unfold dY bT;exact decide_eq_true (by rw[aj];simp only[aG,List.length_nil];unfold kZ;omega)
    have go:BO N s ((k+1:Nat):Int) (out++[tC s q]) (sN s (s.length+1))=a6 (.inl ((),(out++(q::sQ (s.drop (k+1)) ((k+1:Nat):Int) (iY s (k+1)) (out.map (·.2.1)++[(k:Int)])).map (tC s),()))):=by
     have y:(tC s q).2.1=(k:Int):=(WA s q).trans u;have E: ∀a,a<out.length->dK (out++[tC s q]) dP a=dK out dP a:=fun a o=>by
      unfold dK;rw[List.getD_eq_getElem?_getD,List.getD_eq_getElem?_getD,List.getElem?_append_left o]
     have ao:dK (out++[tC s q]) dP out.length=tC s q:=by
      unfold dK;rw[List.getD_eq_getElem?_getD,List.getElem?_append_right (ae _)];simp
     have av: ∀a,a<out.length->(dK out dP a).2.1<(k:Int):=fun a o=>by rw[nY o];exact J _ (aX o)
     have ih:=ZE s I N (k+1) (out++[tC s q]) (by omega) (by omega) (by simp;omega)
      (fun a b o A G=>by
       rw[aj]at o A;simp only[aG,List.length_nil]at o A;rcases aJ a out.length with d|d<;>rcases aJ b out.length with l|l
       .rw[E a d,E b l]at G;exact z a b d l G
       .rw[E a d,show b=out.length by omega,ao,y]at G;have:=av a d;omega
       .rw[E b l,show a=out.length by omega,ao,y]at G;have:=av b l;omega
       .omega)
      (fun p O=>by
       rcases List.mem_append.1 O with d|d
       .have:=J p d;omega
       .rw[List.mem_singleton.1 d,y];omega)
      (fun v f=>by
       rw[g]at f;rw[List.map_append];rcases List.mem_append.1 f with d|d
       .exact bF _ (M v d)
       .rw[List.mem_singleton.1 d];exact bn _ (by simp[y]))
     rw[ih];rw[List.map_append,ai,au];simp only[au,aU,y];rfl
    by_cases e12:q.1=12
    .rw[cO (gq e12),i,ayq (by omega) (by omega),bI,an,aa];have aY:=aio (s.drop (k+1));rw[aP]at aY;rw[dI];have V:tC s q=(q.1,(k:Int),((k+1:Nat):Int)+((prl (s.drop (k+1)):Nat):Int),(if 1<((c+1:Nat):Int)then(j:Int)else-1),false,()):=by
      unfold tC;rw[am e12,u,U,show((k:Int)+1).toNat=k+1 by omega,show(k:Int)+1=((k+1:Nat):Int) by omega]
     rw[<-V];exact go
    .rw[dN (dZ e12),i,an,aa];have V:tC s q=(q.1,(k:Int),(if q.2.2.2.2.1=true then(s.length:Int)else q.2.2.1),(if 1<((c+1:Nat):Int)then(j:Int)else-1),q.2.2.2.2.1,()):=by
      unfold tC;rw[aq e12];by_cases ho:q.2.2.2.2.1=true
      .rw[am ho,am ho,u,U,ho]
      .rw[aq ho,aq ho,<-u,<-U]
     rw[<-V];exact go
  .rw[dN (iE (by rw[bP];omega)),aO (by omega),sQ];simp
theorem aLE (s:bZ) (d:s.length<=100000):ajz s=a6 (dn s,()):=by
 unfold ajz;have e:=acY s d bQ 0 (Oc) (by omega);have f:=ZE s d bQ 0 [] (Oc) (by omega) (by simp) (fun a b g=>by cases g) (fun p i=>by cases i) (fun v j=>by cases j);rw[show SA=a6 (Ht fK,()) from rfl,bI,show FU bQ s 0 [(Ht fK,()).1]=_ from e,bI];simp only[dW];rw[show BO bQ s 0 [] (sN s (s.length+1))=_ from f,bI];simp only[aF,aS];rw[xZ];rfl
end
section
open List renaming mem_cons_of_mem → ak, length_drop → aP
open Nat renaming le_refl → ae
open Go.RowKit
theorem ahw {g f:Int×Int} {r:fE} (d:iD (f::g::r)):g.1≠13:=by
 have:=d.2.2.1
 grind [TC]
theorem Fj {m:Int} {f:Int×Int} {r:fE} (hf:f.1=m\/m≠13/\f.1≠13) (hr: ∀g d,r=g::d->g.1≠13) (p:r=[]->m≠13) (fr:Bool) (b i:Int):
  ∀g d,(iH m (f::r) fr b i).1=g::d->g.1=13->g.2=i:=by
 intro g d h e;have j: ∀{x:Int×Int} {y:fE},x::y=g::d->x=g:=fun h=>(List.cons.inj h).1;have q:m≠13->f::r=g::d->False:=fun l h=>by
  simp_all
 have o:r=g::d->False:=fun h=>hr g d h e;have s: ∀k,(k,i)::f::r=g::d->g.2=i:=fun k h=>by rw[<-j h]
 unfold iH at h;split at h
 .rename_i l
  have u:m≠13:=by omega
  unfold Ah at h
  grind
 .split at h
  .exact(o h).elim
  grind [yF]
theorem asU {s:fE} (j:iD s) (fr:Bool) (b i:Int): ∀g∈(fB s fr b i).1,g.1=13->g.2=i:=by
 have p: ∀g d,(fB s fr b i).1=g::d->g.1=13->g.2=i:=by
  cases s with
  |nil=>cases j
  |cons f r=>
  intro g d h l;have D: ∀{x:Int×Int} {y:fE},x::y=g::d->x=g:=fun h=>(List.cons.inj h).1;have hr: ∀g d,r=g::d->g.1≠13:=fun g d e=>by subst e;exact ahw j
  have A: ∀g u d,r=g::u::d->u.1≠13:=fun g u d e=>by subst e;exact ahw j.2.2.2
  have E: ∀k:Int,k≠13->(k,f.2)::r=g::d->False:=fun k hk h=>by
   grind
  simp only[fB]at h;split at h
  .split at h
   .simp_all
   .split at h
    .grind
    .split at h
     .grind
     .cases r with
      |nil=>rename_i G _ _ _;have:f.1=0:=j;omega
      |cons q r=>
       exact Fj (.inl rfl) (fun g d e=>A q g d (by rw[e])) (fun _=>by simp_all) fr b i g d h l
  .split at h
   .split at h
    .simp_all
    .exact Fj (f:=(1,f.2)) (.inl rfl) hr (fun _=>by omega) fr b i g d h l
   .split at h
    .split at h
     .grind
     .exact Fj (f:=(9,f.2)) (.inl rfl) hr (fun _=>by omega) fr b i g d h l
    .refine Fj (.inl rfl) hr (fun e=> ?_) fr b i g d h l;subst e;have:f.1=0:=j;omega
 have v:=(good_step j fr b i).1;revert p v;generalize (fB s fr b i).1=y;intro p v g o l;cases y with
 |nil=>cases o
 |cons f r=>
  rcases List.mem_cons.1 o with e|o
  .simp_all
  .exfalso;clear p
   induction r generalizing f with
   |nil=>cases o
   |cons q r B=>
    rcases List.mem_cons.1 o with e|z
    .grind [ahw]
    .exact B q v.2.2.2 (ak _ z) z
def PI (p:kP) (a:Int):Prop:=0<=p.2.1/\p.2.1<a/\(p.2.2.2.2.1=true/\(p.1=13->p.2.1+1=a)\/p.2.2.2.2.1=false/\p.2.1+2<=p.2.2.1/\p.2.2.1<=a/\(p.1=13->p.2.2.1=p.2.1+2))
theorem ana {m:Int} (h:counts m=13):m=13:=by
 grind [counts]
theorem azg {s:fE} {f:GY} (h:f∈oZ s):(f.1,f.2.1)∈s:=by
 unfold oZ at h;rw[List.mem_reverse,List.mem_map]at h;obtain⟨g,d,rfl⟩:=h
 grind [List.dropLast_sublist]
theorem aoc {F:List GY} {v m:Int} (h:G6 F v=some m): ∃f∈F,f.2.1=v/\f.1=m:=by
 unfold G6 at h;obtain⟨f,d,rfl⟩:=Option.map_eq_some_iff.1 h
 grind
theorem aF5 {s:fE} (j:iD s) (fr:Bool) (b a:Int) {p:kP} (h:PI p a):PI (mQ (oZ (fB s fr b a).1) a p) (a+1):=by
 obtain⟨g,v,l⟩:=h;unfold mQ;rcases l with ⟨d,i⟩|⟨d,i,x,o⟩
 .rw[am d];split
  .rename_i m q
   refine⟨g,by simp only;omega,.inl ⟨d,fun h=> ?_⟩⟩;have y:m=13:=ana h;obtain⟨f,u,z,e⟩:=aoc q;have:=asU j fr b a _ (azg u) (by simp only;omega);omega
  .refine⟨g,by simp only[KW];omega,.inr ⟨rfl,by simp only[KW];omega,by simp[KW],fun h=> ?_⟩⟩
   grind [KW]
 .rw[aq (by rw[d];simp)];exact⟨g,by omega,.inr ⟨d,i,by omega,o⟩⟩
theorem aF4 {s:fE} (e:iD s) (fr:Bool) (b:Int) {a:Int} (d:0<=a) (l:List Int):PI (yS (oZ (fB s fr b a).1) a l) (a+1):=
 ⟨d,by simp only[yS];omega,.inl ⟨rfl,fun h=>by simp only[yS]⟩⟩
theorem alr: ∀(l:bZ) (a:Int) (x:fE×Bool) (p:kP),iD x.1->PI p a->PI (wC l a x p) (a+l.length)
 |[],a,x,p,_,h=>by simpa [wC] using h
 |b::l,a,x,p,d,h=>by
  rw[wC];have:=alr l (a+1) (fB x.1 x.2 (gy b) a) _ (good_step d _ _ _).1 (aF5 d x.2 (gy b) a h)
  grind
theorem abR: ∀(l:bZ) (a:Int) (x:fE×Bool) (fr:List Int),0<=a->iD x.1-> ∀p∈sQ l a x fr,PI p (a+l.length)/\a<=p.2.1
 |[],a,x,fr,_,_,p,h=>by cases h
 |b::l,a,x,fr,j,f,p,h=>by
  have g:=(good_step f x.2 (gy b) a).1;have e: ∀d,p∈sQ l (a+1) (fB x.1 x.2 (gy b) a) d->PI p (a+((b::l).length:Int))/\a<=p.2.1:=fun d i=>by
   have:=abR l (a+1) _ d (by omega) g p i
   grind
  rw[sQ]at h;split at h
  .rcases List.mem_cons.1 h with rfl|h
   .grind [alr,aF4,Fp,yS]
   .exact e _ h
  .exact e _ h
theorem Yn: ∀(l:bZ) (a:Int) (x:fE×Bool) (fr:List Int),0<=a->iD x.1->(sQ l a x fr).Pairwise (fun p q=>p.2.1<q.2.1)
 |[],a,x,fr,_,_=>List.Pairwise.nil
 |b::l,a,x,fr,g,e=>by
  have d:=(good_step e x.2 (gy b) a).1;rw[sQ];split
  .refine List.Pairwise.cons (fun p f=> ?_) (Yn l (a+1) _ _ (by omega) d);have:=(abR l (a+1) _ _ (by omega) d p f).2
   grind [Fp,yS]
  .exact Yn l (a+1) _ _ (by omega) d
structure PF (s:bZ) (p:kP):Prop where
 f0:0<=p.2.1
 f1:p.2.1<s.length
 t0:p.2.1<p.2.2.1
 t1:p.2.2.1<=s.length
 op:p.2.2.2.2.1=true->p.2.2.1=s.length/\p.1≠12
 sh:p.2.2.2.2.1=false->p.1≠12->p.2.1+2<=p.2.2.1
 es:p.1=13->p.2.2.1<=p.2.1+2
 dl:p.1=12->p.2.2.1=p.2.1+1+((prl (s.drop (p.2.1+1).toNat):Nat):Int)
theorem ao1 (s:bZ): ∀p∈dn s,PF s p:=by
 intro p i;rw[xZ]at i;obtain⟨q,o,rfl⟩:=List.mem_map.1 i;obtain⟨⟨f,d,j⟩,_⟩:=abR s 0 fK [] (by omega) kK q o;rw[Int.zero_add]at d j;have hl:=aio (s.drop (q.2.1+1).toNat);rw[aP]at hl;unfold tC;split
 .rename_i e
  exact⟨f,d,by simp only;omega,by simp only;omega,fun h=>(by cases h),fun _ h=>absurd e h,fun h=>(by omega),fun _=>rfl⟩
 .rename_i e
  split
  .rename_i g
   refine⟨f,d,d,Int.le_refl _,fun _=>⟨rfl,e⟩,fun h=>(by cases h),fun h=> ?_,fun h=>absurd h e⟩
   grind
  .rename_i g
   rcases j with ⟨l,_⟩|⟨l,u,v,x⟩
   .exact absurd l g
   .exact⟨f,d,by omega,v,fun h=>absurd h g,fun _ _=>u,fun h=>by have:=x h;omega,fun h=>absurd h e⟩
theorem Xl (s:bZ):(dn s).Pairwise (fun p q=>p.2.1<q.2.1):=by
 grind [xZ,Yn,kK,WA]
theorem CE (s:bZ):(dn s).length<=s.length:=by
 have h: ∀(l:bZ) (a:Int) (x:fE×Bool) (d:List Int),(sQ l a x d).length<=l.length:=by
  intro l
  induction l with
  |nil=>intro a x d;exact ae 0
  |cons b l e=>
   grind [sQ]
 simp_all [xZ,fK]
end
section
open Nat renaming le_trans → aI
open Go.RowKit
def wE (L:List kP) (v:Int):Option kP:=L.find? fun p=>p.2.1==v
theorem Sl {L:List kP} {v:Int} {p:kP} (h:wE L v=some p):p∈L/\p.2.1=v:=
 ⟨List.mem_of_find?_eq_some h,by simpa using List.find?_some h⟩
theorem wF {s:List UInt8} {v:Int} {p:kP} (h:wE (dn s) v=some p):PF s p/\p.2.1=v:=
 ⟨ao1 s p (Sl h).1,(Sl h).2⟩
def lone (p:kP):Bool:=decide (p.1=12)&&decide (p.2.2.1=p.2.1+1)
def ny (s:bZ) (p:kP):bZ:=sub s p.2.1 p.2.2.1
def xk (p:kP):Int:=if p.2.2.2.2.1=true then p.2.2.1 else p.2.2.1-1
def Vu (s:bZ) (p:kP):bZ:=if p.2.2.1=p.2.1+2/\bY s (p.2.1+1)≠10 then sub s (p.2.1+1) p.2.2.1 else []
def Vt (s:bZ) (p:kP):bZ:=if p.2.2.1=p.2.1+2 then(if bY s (p.2.1+1)=36\/bY s (p.2.1+1)=96\/bY s (p.2.1+1)=34\/bY s (p.2.1+1)=92 then sub s (p.2.1+1) p.2.2.1 else if bY s (p.2.1+1)=10 then []else ny s p)else []
def iL (s:bZ) (L:List kP) (at_:Int):Int×List UInt8×Bool:=
 match wE L at_ with
 |none=>(at_+1,sub s at_ (at_+1),false)
 |some p=>if lone p=true then(at_+1,sub s at_ (at_+1),false)
  else if p.1=13 then(p.2.2.1,Vt s p,false)
  else(p.2.2.1,ny s p,true)
def qP (s:bZ) (L:List kP) (to_:Int):Nat->Int->bZ
 |0,_=>[]
 |n+1,at_=>if at_<to_ then(iL s L at_).2.1++qP s L to_ n (iL s L at_).1 else []
def stepT (s:bZ) (L:List kP) (at_:Int):Int×List UInt8:=
 match wE L at_ with
 |none=>(at_+1,sub s at_ (at_+1))
 |some p=>if lone p=true\/p.1=14 then(p.2.2.1,ny s p)
  else if p.1=13 then(p.2.2.1,Vu s p)
  else if p.1=4 then(p.2.2.1,sub s (p.2.1+1) (xk p))
  else if p.1=5 then(p.2.2.1,qP s L (xk p) s.length (p.2.1+1))
  else(p.2.2.1,ny s p)
def lm (s:bZ) (L:List kP):Nat->Int->bZ
 |0,_=>[]
 |n+1,at_=>if at_<s.length then(stepT s L at_).2++lm s L n (stepT s L at_).1 else []
def Jo (s:bZ):bZ:=lm s (dn s) s.length 0
theorem UY {s:List UInt8} {at_:Int}:at_<(iL s (dn s) at_).1:=by
 unfold iL;split
 .simp only;omega
 .rename_i p d
  obtain⟨h,e⟩:=wF d;have:=h.t0
  grind
theorem UZ {s:List UInt8} {at_:Int}:at_<(stepT s (dn s) at_).1:=by
 unfold stepT;split
 .simp only;omega
 .rename_i p d
  obtain⟨h,e⟩:=wF d;have:=h.t0
  grind
theorem afz {s:List UInt8} {at_:Int} (f:at_<s.length):(stepT s (dn s) at_).1<=s.length:=by
 unfold stepT;split
 .simp only;omega
 .rename_i p d
  obtain⟨h,e⟩:=wF d;have:=h.t1
  grind
theorem LQ (s:bZ) (to_:Int): ∀(n m:Nat) (at_:Int),to_-at_<=n->to_-at_<=m->qP s (dn s) to_ n at_=qP s (dn s) to_ m at_
 |0,0,_,_,_=>rfl
 |0,m+1,at_,h,_=>by rw[qP,qP,aq (by omega)]
 |n+1,0,at_,_,h=>by rw[qP,qP,aq (by omega)]
 |n+1,m+1,at_,d,e=>by
  rw[qP,qP];split
  .have:= @UY s at_;rw[LQ s to_ n m _ (by omega) (by omega)]
  .rfl
theorem Ig (s:bZ): ∀(n m:Nat) (at_:Int),(s.length:Int)-at_<=n->(s.length:Int)-at_<=m->lm s (dn s) n at_=lm s (dn s) m at_
 |0,0,_,_,_=>rfl
 |0,m+1,at_,h,_=>by rw[lm,lm,aq (by omega)]
 |n+1,0,at_,_,h=>by rw[lm,lm,aq (by omega)]
 |n+1,m+1,at_,d,e=>by
  rw[lm,lm];split
  .have:= @UZ s at_;rw[Ig s n m _ (by omega) (by omega)]
  .rfl
theorem I7 {d:Type} (l:List d) (a b:Int):(sub l a b).length<=l.length:=by
 grind [sub]
theorem NH (s:bZ) (L:List kP) (at_:Int):(iL s L at_).2.1.length<=s.length:=by
 unfold iL;split
 .exact I7 s _ _
 .split
  .exact I7 s _ _
  .split
   .simp only;unfold Vt ny
    repeat' split
    all_goals simp_all [I7]
   .exact I7 s _ _
theorem adf (s:bZ) (L:List kP) (to_:Int): ∀(n:Nat) (at_:Int),(qP s L to_ n at_).length<=n*s.length
 |0,_=>by simp[qP]
 |n+1,at_=>by
  rw[qP];split
  .have:=NH s L at_;have:=adf s L to_ n (iL s L at_).1
   grind
  simp
theorem NI (s:bZ) (L:List kP) (at_:Int):(stepT s L at_).2.length<=s.length*s.length+s.length:=by
 have h: ∀a b,(sub s a b).length<=s.length*s.length+s.length:=fun a b=>aI (I7 s a b) (Nat.le_add_left _ _);unfold stepT;split
 .exact h _ _
 .split
  .exact h _ _
  .split
   .simp only;unfold Vu
    grind
   .split
    .exact h _ _
    .split
     .exact aI (adf _ _ _ _ _) (Nat.le_add_right _ _)
     .exact h _ _
theorem V9 (s:bZ) (L:List kP): ∀(n:Nat) (at_:Int),(lm s L n at_).length<=n*(s.length*s.length+s.length)
 |0,_=>by simp[lm]
 |n+1,at_=>by
  rw[lm];split
  .have:=NI s L at_;have:=V9 s L n (stepT s L at_).1
   grind
  simp
end
section
open Option renaming some → a6, none → a7
open Bool renaming false_eq_true → ag, not_true → ax, not_eq_true → bg
open List renaming length_append → aj, drop_eq_getElem_cons → aA, drop_of_length_le → aO, length_drop → aP, length_map → aQ, getElem_mem → aX
open Nat renaming le_refl → ae, lt_or_ge → aJ
open Go.RowKit
def lW (b:Int):Bool:=decide (b=32)||decide (b=9)
def Aa (b:Int):Bool:=decide (b=124)||decide (b=38)||decide (b=59)||decide (b=60)||decide (b=62)||decide (b=40)||decide (b=41)
theorem aFG: ∀n:Fin 256,(match SE ((n.val:Nat):Int)with|some (k,_)=>(bV k 1==lW ((n.val:Nat):Int))&&(bV k 3==Aa ((n.val:Nat):Int))|none=>false)=true:=by decide+kernel
theorem aAv {b:Int} (h:isByte b): ∃k,SE b=a6 (k,())/\bV k 1=lW b/\bV k 3=Aa b:=by
 obtain⟨n,rfl⟩:=Rq h;have:=aFG n
 grind
def MX:List bZ:=[[38,38],[124,124],[59,59],[60,60],[60,60,45],[62,62],[60,38],[62,38],[60,62],[62,124],[60],[62],[38],[59],[124],[40],[41]]
def ofF (u:bZ):Nat:=match MX.findIdx? (· ==u)with
 |some j=>j+1
 |none=>0
theorem ax8: ∀n:Fin 18,n.val≠0->ajv ((n.val:Nat):Int)=a6 (MX.getD (n.val-1) [],()):=by decide+kernel
theorem YK {d:Type} (p:d->Bool) (l:List d) {k:Nat} (h:k<l.length):(l.drop k).findIdx? p=if p l[k]=true then a6 0 else((l.drop (k+1)).findIdx? p).map (· +1):=by
 grind [aA]
theorem Xg (u:bZ): ∀(d N k:Nat),k+d=17->d<N->
  BN N u ((k+1:Nat):Int)=a6 (match(MX.drop k).findIdx? (· ==u)with
   |some j=>.inr ((((k+j+1:Nat):Int),()),())
   |none=>.inl ((),()))
 |d,0,k,_,h=>by omega
 |0,N+1,k,h,_=>by
  have hk:k=17:=by omega
  subst hk;rfl
 |d+1,N+1,k,h,i=>by
  have hk:k<MX.length:=by show k<17;omega
  have f:=ax8 ⟨k+1,by omega⟩ (by simp);simp only[Nat.add_sub_cancel]at f;rw[BN,Lc,cO (mW),f,bI,YK _ _ hk];have g:MX.getD k []=MX[k]:=by simp_all
  simp only[g,fP];by_cases e:(MX[k]==u)=true
  .rw[e];simp
  .rw[bg]at e;rw[e,dI,show((k+1:Nat):Int)+1=((k+1+1:Nat):Int) by omega];simp only[ac];rw[Xg u d N (k+1) (by omega) (by omega)]
   grind
theorem aFF (u:bZ) (h:ofF u≠0):u∈MX:=by
 unfold ofF at h
 grind
theorem avm (u:bZ):Oh u=a6 (((ofF u:Nat):Int),()):=by
 rw[Oh];by_cases e:u=[]
 .subst e;rfl
 .rw[dN (by grind [fP])];have h:=Xg u 17 bQ 0 rfl (dX)
  grind [bI,ofF,dW]
def PG (t:bZ):Nat->Nat×Nat
 |0=>(0,0)
 |n+1=>if ofF (t.take (n+1))≠0 then(ofF (t.take (n+1)),n+1)else PG t n
theorem vT (s:bZ) (a n:Nat):sub s (a:Int) ((a+n:Nat):Int)=(s.drop a).take n:=by
 grind [sub,List.drop_take]
theorem ac0 (s:bZ) (d:s.length<1000000) (a:Nat): ∀(n N:Nat),n<N->a+n<=s.length->
  JZ N s (a:Int) 0 (n:Int)=a6 (.inl (((((PG (s.drop a) n).1:Nat):Int),(((PG (s.drop a) n).2:Nat):Int),()),()))
 |n,0,h,_=>by omega
 |0,N+1,_,_=>by
  rfl
 |n+1,N+1,h,f=>by
  rw[JZ,QA,cO (fO),dI,show(a:Int)+((n+1:Nat):Int)=((a+(n+1):Nat):Int) by omega,
   cO (gu (by omega) (by omega) (by rw[bP];omega)),vT,avm,bI,PG]
  by_cases e:ofF ((s.drop a).take (n+1))=0
  .rw[e];simp only[show(!bV ((0:Nat):Int) 0)=false from rfl,ac,ne_eq,not_true_eq_false,if_false];rw[iW,show((n+1:Nat):Int)-1=(n:Int) by omega];exact ac0 s d a n N (by omega) (by omega)
  simp_all [dZ]
def Af (t:bZ):Nat×Nat:=PG t (min 3 t.length)
theorem aBc {c:UInt8} {t:List UInt8} (h:c::t∈MX):Aa (c.toNat:Int)=true:=by
 have: ∀u∈MX,(match u with|c::_=>Aa (c.toNat:Int)|[]=>true)=true:=by decide
 exact this _ h
theorem Yg {c:UInt8} {t:List UInt8} (h:Aa (c.toNat:Int)=false): ∀n,PG (c::t) n=(0,0)
 |0=>rfl
 |n+1=>by
  rw[PG,aq,Yg h n]
  grind [aBc,aFF]
theorem aLA {s:List UInt8} (e:s.length<1000000) {a:Nat} (d:a<s.length):ajl s a=a6 ((((Af (s.drop a)).1:Nat):Int),((((Af (s.drop a)).2:Nat):Int),())):=by
 rw[ajl,dN (jh),dN (Hl (by rw[bP];omega)),cO (eu)];obtain⟨k,f,_,g⟩:=aAv (lG s a);rw[f,bI];simp only[g];have hd:=aA d;rw[byte_at d];cases hm:Aa (s[a].toNat:Int)with
 |false=>
  grind [Af,Yg]
 |true=>
  simp only[ax,ac];have i:IC 3 (eU .i64 (bM s) (a:Int))=((min 3 (s.drop a).length:Nat):Int):=by
   grind [bP,iW,IC]
  rw[i,ac0 s e a _ bQ (dX) (by grind),bI];rfl
theorem PV (t:bZ):(Af t).2<=t.length/\((Af t).2=0↔(Af t).1=0)/\(Af t).1<=17:=by
 have h: ∀n,(PG t n).2<=n/\((PG t n).2=0↔(PG t n).1=0)/\(PG t n).1<=17:=by
  intro n
  induction n with
  |zero=>exact⟨ae _,Iff.rfl,by simp[PG]⟩
  |succ n f=>
   rw[PG];split
   .rename_i e
    refine⟨ae _,⟨fun h=>absurd h (by simp),fun h=>absurd h e⟩, ?_⟩;unfold ofF;split
    .rename_i j d
     have:=(List.findIdx?_eq_some_iff_getElem.1 d).1
     assumption
    omega
   omega
 grind [Af]
theorem atB (c:UInt8): ∀l:bZ,Lib.indexByte l c=if(l.takeWhile (· !=c)).length<l.length then(((l.takeWhile (· !=c)).length:Nat):Int)else-1
 |[]=>rfl
 |b::l=>by
  unfold Lib.indexByte;rw[atB c l];by_cases e:b=c
  .subst e;simp
  .have d:(b==c)=false:=by simpa using e
   have f:(b !=c)=true:=by simpa using e
   have g:(b::l).takeWhile (fun x=>x !=c)=b::l.takeWhile (fun x=>x !=c):=by simp_all
   grind
def jb (s:bZ) (a:Nat):Nat:=a+((s.drop a).takeWhile (· !=10)).length
theorem wO (s:bZ) (a:Nat):a<=jb s a:=Nat.le_add_right _ _
theorem zW {s:List UInt8} {a:Nat} (h:a<=s.length):jb s a<=s.length:=by
 grind [LD,jb]
theorem auz {s:List UInt8} (g:s.length<1000000) {a:Nat} (d:a<=s.length):ady s a=a6 (((jb s a:Nat):Int),(decide (jb s a<s.length),())):=by
 have i:=zW d;have j:=wO s a;rw[ady,cO (gu (by omega) (by rw[bP];omega) (by omega)),adB,ajw,bI,bI];have e:sub s (a:Int) (bM s)=s.drop a:=by simp[sub,bP]
 have f:ibW (sub s (a:Int) (bM s)) 10=if jb s a<s.length then((jb s a-a:Nat):Int)else-1:=by
  rw[e];unfold ibW;rw[show(10:Int).toNat.toUInt8=10 from rfl,atB,aP];unfold jb at*;omega
 rw[f];by_cases h:jb s a<s.length
 .rw[am h,cO (mW),dI,decide_eq_true h];congr 2;omega
 .rw[aq h,dN (Hl),decide_eq_false h,bP];congr 2;omega
def ul:bZ->Nat
 |[]=>0
 |[c]=>if lW (c.toNat:Int)=true then 1 else 0
 |c::d::t=>if lW (c.toNat:Int)=true then ul (d::t)+1 else if c=92/\d=10 then ul t+2 else 0
theorem Ym: ∀t:bZ,ul t<=t.length
 |[]=>ae _
 |[c]=>by grind [ul]
 |c::d::t=>by
  have e:=Ym (d::t);have f:=Ym t
  grind [ul]
def pI (t:bZ):Bool:=match t with
 |c::d::_=>decide (c=92)&&decide (d=10)
 |_=>false
theorem aEg (t:bZ):ajq t [92,10]=a6 (pI t,()):=by
 rw[ajq,ate];cases t with
 |nil=>rfl
 |cons c t=>
  cases t with
  |nil=>rfl
  |cons d t=>
   have e:leI (bM [(92:UInt8),10]) (bM (c::d::t))=true:=mW (by grind [bP]);have f:fH (bM (c::d::t)) 0 (bM [(92:UInt8),10])=true:=gu (by omega) (by rw[bP];simp) (by grind [bP]);simp_all [sub,bP,bI,pI,fP,Bool.beq_eq_decide_eq]
theorem arz {s:List UInt8} {a:Nat} (d:a<=s.length):adw s a=a6 (pI (s.drop a),()):=by
 rw[adw,cO (gu (by omega) (by rw[bP];omega) (by omega)),show sub s (a:Int) (bM s)=s.drop a by simp[sub,bP],aEg,bI]
theorem zI {c:UInt8} {t:List UInt8}:ul (c::t)=if lW (c.toNat:Int)=true then ul t+1 else if pI (c::t)=true then ul (t.drop 1)+2 else 0:=by
 cases t with
 |nil=>rfl
 |cons d t=>rw[ul];simp[pI]
theorem Ii {s:List UInt8} (d:s.length<1000000): ∀(N a:Nat),s.length-a<N->a<=s.length->
  ∃o,J3 N s (a:Int)=a6 o/\dW o (fun f=>a6 (f.1.1,())) (fun g=>a6 (g.1.1,()))=a6 ((((a+ul (s.drop a):Nat):Int)),())
 |0,a,h,_=>by omega
 |N+1,a,h,u=>by
  rw[J3,QB];by_cases e:a<s.length
  .obtain⟨k,i,j,_⟩:=aAv (lG s a);have hd:=aA e;rw[cO (fO (by rw[bP];omega)),cO (eu),i,bI];simp only[j];rw[byte_at e,hd,zI];by_cases hb:lW (s[a].toNat:Int)=true
   .rw[hb,aa,am rfl,dI,show(a:Int)+1=((a+1:Nat):Int) by omega];obtain⟨o,l,p⟩:=Ii d N (a+1) (by omega) (by omega)
    grind
   .rw[bg]at hb;rw[hb,ac,aq (by simp),arz (by omega),bI,hd];cases hc:pI (s[a]::s.drop (a+1))with
    |true=>
     have v:a+2<=s.length:=by
      rw[<-hd]at hc;rcases aJ s.length (a+2)with hl|hl
      .have:(s.drop a).length=1:=by grind
       obtain⟨x,q⟩:=List.length_eq_one_iff.1 this;rw[q]at hc;cases hc
      .exact hl
     simp only[aa,if_true];rw[dI,show(a:Int)+2=((a+2:Nat):Int) by omega,List.drop_drop,show a+1+1=a+2 from rfl];obtain⟨o,l,p⟩:=Ii d N (a+2) (by omega) (by omega)
     grind
    |false=>
     simp only[ac,ag,if_false,Nat.add_zero];exact⟨_,rfl,rfl⟩
  .rw[dN (iE (by rw[bP];omega)),aO (by omega)];exact⟨_,rfl,rfl⟩
theorem ayz {s:List UInt8} (d:s.length<1000000) {a:Nat} (e:a<=s.length):adx s a=a6 ((((a+ul (s.drop a):Nat):Int)),()):=by
 rw[adx];obtain⟨o,f,g⟩:=Ii d bQ a (dX) e
 grind [bI]
def yT (t:bZ):Nat:=if jH t≠0/\(t.drop (jH t)).head?=a6 60\/jH t≠0/\(t.drop (jH t)).head?=a6 62 then jH t else 0
theorem Qn (t:bZ):jH t<=t.length:=LD _ _
theorem avk {s:List UInt8} (g:s.length<1000000) {a:Nat} (d:a<=s.length):adz s a=a6 ((((a+yT (s.drop a):Nat):Int)),()):=by
 have e:=Qn (s.drop a);rw[aP]at e;rw[adz,QX (s:=s) (by omega) d,bI];simp only;rw[dI,show(a:Int)+((jH (s.drop a):Nat):Int)=((a+jH (s.drop a):Nat):Int) by omega];unfold yT;by_cases h0:jH (s.drop a)=0
 .simp_all [jh]
 .rw[cO (fO)];by_cases h1:a+jH (s.drop a)<s.length
  .have hd:((s.drop a).drop (jH (s.drop a))).head?=a6 s[a+jH (s.drop a)]:=by
    simp
   rw[cO (fO (by rw[bP];omega)),cO (eu),byte_at h1,hd];by_cases e1:s[a+jH (s.drop a)]=60
   .rw[e1,am (.inl ⟨h0,rfl⟩)];rfl
   .have f:((s[a+jH (s.drop a)].toNat:Nat):Int)≠60:=fun h=>e1 (UInt8.toNat_inj.1 (by grind));rw[dN (dZ f),cO (eu)];by_cases e2:s[a+jH (s.drop a)]=62
    .rw[e2,am (.inr ⟨h0,rfl⟩)];rfl
    .have i:((s[a+jH (s.drop a)].toNat:Nat):Int)≠62:=fun h=>e2 (UInt8.toNat_inj.1 (by grind));simp_all [dZ]
  .have hd:((s.drop a).drop (jH (s.drop a))).head?=a7:=by
    simp_all
   rw[dN (jh (by rw[bP];omega)),hd,aq (by simp)];simp
theorem agj: ∀n:Fin 15,(match ajt ((n.val:Nat):Int)with|some (t,_)=>(t==([]:bZ))==(decide (n.val=0)||decide (n.val=12))&&decide (t.length<=2)|none=>false)=true:=by decide+kernel
theorem arv {m:Int} (d:0<=m) (e:m<=14): ∃t,ajt m=a6 (t,())/\(t=[]↔m=0\/m=12)/\t.length<=2:=by
 have:=agj ⟨m.toNat,by omega⟩
 grind
def KX (s:fE):Bool:=s.all fun f=>decide (f.1=0)||decide (f.1=12)
theorem Js (F:List GY) (hF:F.length<1000000) (d: ∀f∈F,0<=f.1/\f.1<=14): ∀(N k:Nat) (a b:bZ) (t:List Int),k<N->k<=F.length->t.length<=2*(F.length-k)->
  ∃t',pM N ((k:Int)-1) a b F t=a6 (.inl ((),((a,()),(),(),()),((b,()),(F,()),(),t',())))/\(t'=[]↔t=[]/\ ∀f∈F.take k,f.1=0\/f.1=12)
 |0,k,a,b,t,h,_,_=>by omega
 |N+1,0,a,b,t,h,_,_=>by
  rw[pM,ug];refine⟨t,rfl, ?_⟩;simp
 |N+1,k+1,a,b,t,h,hk,q=>by
  rw[pM,ug];have e:k<F.length:=by omega
  have i:dJ F (0,(0,())) (k:Int)=F[k]:=by
   simp_all [dJ]
  have g:=d F[k] (aX e);obtain⟨c,j,s,u⟩:=arv g.1 g.2;have l:dY (bT t (dA c)) 1=true:=by
   simp only[dY,bT,dA,aj,aQ,decide_eq_true_eq,kZ];omega
  rw[show((k+1:Nat):Int)-1=(k:Int) by omega,cO (mW),cO (eu),i,j,bI];simp only[l,fJ,aa];rw[iW];obtain⟨t',o,p⟩:=Js F hF d N k a b (bT t (dA c)) (by omega) (by omega) (by grind [bT,dA]);refine⟨t',o, ?_⟩;rw[p,List.take_add_one,List.getElem?_eq_getElem e];have:bT t (dA c)=[]↔t=[]/\(F[k].1=0\/F[k].1=12):=by
   simp_all [bT,dA]
  rw[this];simp only[Option.toList_some,List.mem_append,List.mem_singleton]
  grind
theorem amY (w:bZ) (o:w.length<=100000): ∃t,ajm w=a6 (t,())/\(!fP t [])= !KX (jk w 0 fK).1:=by
 have j:=DW w 0 fK kK;have hl:fK.1.length=1:=rfl;have s:=Iu j.1;rw[ajm,aIe w o,bI];obtain⟨l,p,d⟩:=Js (lo (jk w 0 fK).1) (by rw[oC];omega) (fun f i=>by
  unfold lo at i
  grind) bQ (lo (jk w 0 fK).1).length [] [] [] (dX (by rw[oC];omega)) (ae _) (by simp)
 simp only;rw[bP,iW (by rw[oC];omega) (by rw[oC];omega),p,bI];refine⟨_,rfl, ?_⟩;congr 1;simp only;rw[List.take_length]at d;have q:(∀f∈lo (jk w 0 fK).1,f.1=0\/f.1=12)↔KX (jk w 0 fK).1=true:=by
  unfold KX lo;simp only[List.mem_reverse,List.mem_map,List.all_eq_true,Bool.or_eq_true,decide_eq_true_eq];exact⟨fun h f i=>h _ ⟨f,i,rfl⟩,fun h f ⟨g,j,e⟩=>by grind⟩
 rw[q]at d;unfold fP;cases hs:KX (jk w 0 fK).1 with
 |true=>rw[d.2 ⟨rfl,hs⟩];rfl
 |false=>
  have:l≠[]:=fun e=>by simp_all
  cases l with
  |nil=>simp_all
  |cons x y=>rfl
def wP (s:bZ) (d:Bool) (a:Nat):bZ:=if d=true then((s.take (jb s a)).drop a).dropWhile (· ==9)else(s.take (jb s a)).drop a
def nI (s:bZ) (a:Nat):Nat:=if jb s a<s.length then jb s a+1 else jb s a
def oM (s w:bZ) (d:Bool):Nat->Nat->Nat×Bool
 |0,a=>(a,false)
 |n+1,a=>if a<s.length then(if wP s d a=w then(nI s a,true)else oM s w d n (nI s a))else(a,false)
theorem aeL {s:List UInt8} {a:Nat} (h:a<s.length):a<nI s a/\nI s a<=s.length:=by
 grind [wO,zW,nI]
theorem Vh: ∀(l:bZ) (N:Nat),l.length<N->J7 N l 9=a6 (.inl ((l.dropWhile (· ==9),()),()))
 |l,0,h=>by omega
 |[],N+1,_=>by rfl
 |c::l,N+1,h=>by
  rw[J7,QL,cO (fO (by simp_all [bP])),cO (eu (by omega) (by simp)),show bY (c::l) 0=(c.toNat:Int) from rfl];by_cases e:c=9
  .subst e;rw[show bV (((9:UInt8).toNat:Nat):Int) 9=true from rfl,aa,cO (gu (by omega) (by grind [bP]) (by omega))];rw[show sub ((9:UInt8)::l) 1 (bM ((9:UInt8)::l))=l by simp[sub,bP],Vh l N (by simp at h;omega)];simp
  .rw[dN (dZ (fun h=>e (UInt8.toNat_inj.1 (by grind)))),List.dropWhile_cons_of_neg (by simpa using e)]
theorem aBy (l:bZ) (hl:l.length<1000000):ajA l 9=a6 (l.dropWhile (· ==9),()):=by
 rw[ajA,Vh l bQ (dX),bI];rfl
theorem WQ {s w:List UInt8} (f:s.length<1000000) (d:Bool): ∀(N a:Nat),s.length-a<N->a<=s.length->
  BM N s (a:Int) w d=a6 (if(oM s w d N a).2=true then .inr (((((oM s w d N a).1:Nat):Int),true,()),())else .inl (((((oM s w d N a).1:Nat):Int),()),()))
 |0,a,h,_=>by omega
 |N+1,a,h,p=>by
  (rewrite [BM,Qz];delta Aq;rw[oM])
  by_cases e:a<s.length
  .have q:=wO s a;have u:=zW (s:=s) (a:=a) (by omega);have v:=aeL e;have y:=WQ (w:=w) f d N (nI s a) (by omega) (by omega);have i:sub s (a:Int) ((jb s a:Nat):Int)=(s.take (jb s a)).drop a:=by simp[sub]
   have g: ∀(x:bZ),x=wP s d a->
     (bif decide (jb s a<s.length)then
      bif fP x w then(a6 (.inr ((dw .i64 ((jb s a:Nat):Int) 1,true,()),())):Option (Qc.den⊕Qh.den))
      else BM N s (dw .i64 ((jb s a:Nat):Int) 1) w d
     else bif fP x w then a6 (.inr ((((jb s a:Nat):Int),true,()),()))
      else BM N s ((jb s a:Nat):Int) w d)=
     a6 (if(if wP s d a=w then(nI s a,true)else oM s w d N (nI s a)).2=true
      then .inr (((((if wP s d a=w then(nI s a,true)else oM s w d N (nI s a)).1:Nat):Int),true,()),())
      else .inl (((((if wP s d a=w then(nI s a,true)else oM s w d N (nI s a)).1:Nat):Int),()),())):=by
    intro x j;subst j;have l:fP (wP s d a) w=decide (wP s d a=w):=by
     grind [fP]
    rw[l];by_cases hl:jb s a<s.length
    .have o:nI s a=jb s a+1:=by simp_all [nI]
     rw[decide_eq_true hl,aa,dI,show((jb s a:Nat):Int)+1=((nI s a:Nat):Int) by omega]
     grind
    .have o:nI s a=jb s a:=by simp_all [nI]
     grind
   rw[cO (fO (by rw[bP];omega)),auz f (by omega),bI,am e];simp only;rw[cO (gu (by omega) (by omega) (by rw[bP];omega)),i];cases d with
   |false=>simp_all [wP]
   |true=>
    simp only[aa];by_cases e0:(s.take (jb s a)).drop a=[]
    .rw[e0,show fP ([]:bZ) []=true from rfl,aa];exact g _ (by rw[wP,am rfl,e0];rfl)
    .rw[dN (by simp_all [fP])];refine(dN (by rfl)).trans ?_;refine(cO (by rfl)).trans ?_;refine(cO (by rfl)).trans ?_;refine(cO (by rfl)).trans ?_;refine(cO (by rfl)).trans ?_;rw[show bY [9] 0=9 from rfl];rw[aBy _ (by grind),bI];exact g _ (by rfl)
  simp_all [iE,bP,aq]
def Dk (s w:bZ) (d:Bool) (a:Nat):Nat×Bool:=oM s w d bQ a
theorem aEh {s:List UInt8} (e:s.length<1000000) (d:bZ×Bool×Unit) {a:Nat} (f:a<=s.length):ajk s a d=a6 ((((Dk s d.1 d.2.1 a).1:Nat):Int),((Dk s d.1 d.2.1 a).2,())):=by
 rw[ajk,WQ e d.2.1 bQ a (dX) f,bI];unfold Dk;cases h:(oM s d.1 d.2.1 bQ a).2 with
 |true=>simp[dW]
 |false=>simp[dW]
end
end Go.Proofs.YtlhpdcadgbjhiaaGreatDoor
