/- Parts of the proof, joined and shortened by a program: the plain machine, the functions as it prints them, and the mathematics over them. -/
import Derived.Stop.Looks
import Derived.RangeFuncNested
import Derived.RangeFuncRecord
import Derived.Sort.LoopGhostIn
import Derived.Laws.Externs
import Derived.Lib.Bytealg
import Derived.ChangeArms
import Derived.WideShapes
import Derived.Test.YtdfhjhkcjecmlaaGreatDoorZ1
set_option linter.unusedVariables false
set_option linter.unusedSimpArgs false
set_option maxRecDepth 100000
set_option maxHeartbeats 4000000
namespace Go.Proofs.YtdfhjhkcjecmlaaGreatDoor
section
open Option renaming some → a6, none → a7
open Bool renaming and_eq_true → af
open List renaming eq_nil_of_length_eq_zero → bD, mem_append_right → bH
open Nat renaming le_refl → ae, eq_of_beq_eq_true → aj
open Go.RowKit
section
variable {P:Program} {T:TT} {W0:World} {b0 n:Nat} {rd:Option Nat} {c:Cx} {R:Type} {r:R} {st:St} {a:Act} {ats:List (Array Value)}
theorem SY (d:je W0 b0 rd c st a ats) {s:Nat} {t:Ty} {G:St} (h:AL s t st=a6 G): ∃c',je W0 b0 rd c' G a ats/\c.Mono c'/\c'.w=c.w:=by
 have j: ∀l:s<a.tmps.toList.length,dn c (st.fr.getD s .undef) a.tmps.toList[s]:=fun l=>by
  have:=d.fr.getD s;rwa [Array.getD,dif_pos (by simpa using l)]at this
 obtain⟨S,I,U,z⟩:=st;simp only[AL]at h;split at h
 .rename_i A
  simp only at j;rw[A]at j;split at h
  .cases h
  .rename_i f
   rw[cond_eq_ite]at h;split at h
   .rename_i g
    cases h;simp only[af]at g;have B:z<=1000000*I.length+800000+s:=by simp_all
    have D:0<t.size:=by simp_all
    obtain⟨c',hd,V,q⟩:=uh d.ok (st:=⟨S,I,U,z⟩) d.hp d.nxt f B (ae z) (y:=t) D (xs:=[]) (v:=.slice a7 0 0) (w:=c.w) (Below.refl _ _) qI [] ⟨by simp,.inl ⟨rfl,rfl⟩⟩ (by simp[gW]) rfl (fun _=>rfl);have i:=d.did hd;refine⟨c',⟨i.hp,i.nxt,i.ok,bT.setL _ _ _ i.fr fun l=> ?_,i.stk,i.df,i.rd⟩,hd.le.mono,V⟩
    grind [dn]
   .cases h
 .rename_i id W vw A
  simp only at j;rw[A]at j;split at h
  .rename_i u w m f
   rw[cond_eq_ite]at h;split at h
   .rename_i E
    have E:w=W:=by simpa using E
    subst E;split at h
    .cases h;exact⟨c,d,Cx.Mono.refl c,rfl⟩
    .rename_i lo o
     rw[cond_eq_ite]at h;split at h
     .rename_i g
      cases h;simp only[beq_iff_eq]at g;subst g;have J:=d.hp;simp only at J;subst J;have X:=d.ok.obj id _ f;obtain⟨Y,e,Z,K,p,ab⟩:=X;by_cases l:s<a.tmps.toList.length
      .have q:=j l;simp only[dn]at q;have M:=(q.2.2 _ _ _ f).2 rfl;have⟨ad,ag⟩:0<=o/\o<=bM m:=by
        obtain⟨a1,n1,c1,N,_,p2,p3,_⟩:=M;obtain⟨a2,c2,e2,_⟩:=ut K;rw[e2]at N;cases N;exact⟨p2,p3⟩
       obtain⟨ak,O⟩:=Ky K ad ag M;have hk:(eu.arr u w m).like (c.mu id) (.arr u (w+1) (m.take o.toNat)) ⟨(c.mu id).blk,a.tmps.toList[s]⟩:=⟨by omega,fun e=>by omega⟩;have x:=Cx.Le.put (w:=c.w) d.ok f hk (ae _) (fun _ _ _=>rfl) (fun b g=>.inl (O b g)) (fun b L _ p=>⟨L,p⟩);have ah:=Cx.Ok.put (w:=c.w) d.ok f hk d.ok.bel (ae _) (fun _ _ _=>rfl) (fun b g=>.inl (O b g)) (fun b L _ p=>⟨L,p⟩) (by
        refine⟨Y,e,Z.take (o.toNat*u.size), ?_,gW.take _ _ _ (gW.mono (fZ.mono x.free u) _ _ p),ab⟩;simp_all [bM,Cx.put,upd_same])
       refine⟨c.put id (eu.arr u (w+1) (List.take o.toNat m)) ⟨(c.mu id).blk,a.tmps.toList[s]⟩ c.w,⟨rfl,d.nxt,ah,bT.setL _ _ _ (bT.le x _ _ d.fr) fun _=> ?_,FU.le x _ _ d.stk, ?_, ?_⟩,x.mono,rfl⟩
       .simp only[dn];refine⟨q.1,.inl ⟨_,Cx.put_get f⟩,fun t' u' al ai=> ?_⟩;rw[Cx.put_get f]at ai;simp_all [jv,Cx.put,upd_same]
       .obtain⟨ds,B,D,h3⟩:=d.df;exact⟨ds,B,D,h3⟩
       .exact d.rd
      .exfalso;have hl:=bT.length _ _ d.fr;simp_all
     .cases h
   .cases h
  .cases h
 .cases h
theorem NV (d:je W0 b0 rd c st a ats) {s:Nat} {t:Ty} {D:St} (h:GH s t st=a6 D): ∃c',je W0 b0 rd c' D a ats/\c.Mono c'/\c'.w=c.w:=by
 have E: ∀f:s<a.tmps.toList.length,dn c (st.fr.getD s .undef) a.tmps.toList[s]:=fun f=>by
  have:=d.fr.getD s;rwa [Array.getD,dif_pos (by simpa using f)]at this
 have ad: ∀(q: ∀f:s<a.tmps.toList.length,∃A,a.tmps.toList[s]=.slice A 0 0),∃c',je W0 b0 rd c' {st with fr:=st.fr.set s (.val (.list t) [])} a ats/\c.Mono c'/\c'.w=c.w:=fun q=>
  ⟨c,⟨d.hp,d.nxt,d.ok,bT.setL _ _ _ d.fr fun f=>by
   obtain⟨A,V⟩:=q f;rw[V];simp only[dn];exact(VD.leaf rfl).2 ⟨A,0,[],rfl,ae _,rfl,.inl rfl⟩,d.stk,d.df,d.rd⟩,Cx.Mono.refl c,rfl⟩
 unfold GH at h;split at h
 .simp_all [dn]
 .simp_all [dn]
 .rename_i id ag G
  rw[G]at E;split at h
  .rename_i u w I v
   replace h:=dN h;obtain⟨y,h⟩:=h;simp only[af,beq_iff_eq]at y;obtain⟨rfl,J⟩:=y;cases h;obtain⟨B,W,K,X⟩:=st;have M:=d.hp;simp only at M v J G;subst M;have Y:bT c (B.set s .undef) a.tmps.toList:=bT.setL _ _ _ d.fr fun _=>by simp[dn]
   have hk:=Cx.keeps_filter (c:=c) (p:=fun i=> !Nat.beq i id) (wY J);have Z:=d.ok.filter (p:=fun i=> !Nat.beq i id) hk.right;have l:je W0 b0 rd {c with hp:=c.hp.filter fun e=> !Nat.beq e.1 id} ⟨B.set s .undef,W,c.hp.filter fun e=> !Nat.beq e.1 id,X⟩ a ats:=
    ⟨rfl,d.nxt,Z,bT.keeps _ _ hk.left.left Y,FU.keeps _ _ hk.left.right d.stk,d.df,d.rd⟩
   refine⟨{c with hp:=c.hp.filter fun e=> !Nat.beq e.1 id},⟨rfl,l.nxt,l.ok, ?_,l.stk,l.df,l.rd⟩,⟨fun _ h=>h,fun b L h=>⟨L,h⟩,ae _,rfl,XK c fun i=> !Nat.beq i id⟩,rfl⟩;have jB:=bT.setL (z:=.val (.list u) I) s _ _ l.fr fun f=>by
    have q:=E f;simp only[dn]at q ⊢;have N:=(q.2.2 _ _ _ v).2 rfl;simp only[jv]at N;obtain⟨ah,e,zs,O,hL,ai⟩:=d.ok.obj id _ v;rw[N];have ab:=gW.mono (fZ.mono hk.free u) _ _ hL;rcases O.2 with ⟨m,S⟩|⟨g,ak,al,m,S,e3,e4,e5,e6,e7⟩
    .have hx:I=[]:=bD S;subst hx;rw[m];exact(VD.leaf rfl).2 ⟨a7,0,[],rfl,ae _,rfl,.inl rfl⟩
    .obtain⟨a2,an,U,f2,f3⟩:=QY O;rw[m]at U;cases U;rw[m];refine(VD.leaf rfl).2 ⟨_,_,zs,rfl,e4,ab,f3.imp (fun h=>h) fun⟨g',q1,q2,q4,q3⟩=> ?_⟩;cases q1;refine⟨g,0,rfl,⟨q2, ?_, ?_,fun y=>(d.ok.bar _ y).2.1 ⟨id,_,v,by simp[eu.blk,m,Value.ownBlock]⟩⟩,q3⟩
     .rintro ⟨j,o,x,h2⟩;simp only at x;rw[kN (fun i=> !Nat.beq i id)]at x;split at x
      .rename_i hj
       have:=d.ok.inj j id o _ g x v h2 (by simp[eu.blk,m,Value.ownBlock]);simp_all
      .cases x
     .intro hm;obtain⟨_,hd⟩:=d.ok.mks g hm;simp_all
   simp_all
  .cases h
 .cases h
 .cases h;exact⟨c,d,Cx.Mono.refl c,rfl⟩
theorem ac1 (d:je W0 b0 rd c st a ats) {id off:Nat} {t:Ty} {q:St} (h:XL id off t st=a6 q): ∃c',je W0 b0 rd c' q a ats/\c.Mono c'/\c'.w=c.w:=by
 have same:a6 st=a6 q-> ∃c',je W0 b0 rd c' q a ats/\c.Mono c'/\c'.w=c.w:=fun h=>by cases h;exact⟨c,d,Cx.Mono.refl c,rfl⟩
 obtain⟨N,O,S,u⟩:=st;simp only[XL]at h;split at h
 .rename_i i cs U
  split at h
  .rename_i J
   split at h
   .rename_i K
    cases h;have l:eG c.hp id=a6 (.box i cs):=by rw[d.hp];exact U
    obtain⟨x,us,z,s,A⟩:=d.ok.obj id _ l;have M: ∀m:off<us.toList.length,us.toList[off]=.slice a7 0 0:=fun m=>by
     have:=bT.getD s off;rw[J,Array.getD,dif_pos (by simpa using m)]at this
     assumption
    have p:(eu.box i cs).like (c.mu id) (.box i (cs.set off (.val (.list K) []))) (c.mu id):=rfl;have j:=Cx.Le.put (w:=c.w) d.ok l p (ae _) (fun _ _ _=>rfl) (fun b f=>.inl f) (fun b L _ o=>⟨L,o⟩);have B:=Cx.Ok.put (w:=c.w) d.ok l p d.ok.bel (ae _) (fun _ _ _=>rfl) (fun b f=>.inl f) (fun b L _ o=>⟨L,o⟩) (by
     refine⟨by simp only[Cx.put,upd_same];exact x,us,by simp only[Cx.put,upd_same];exact z, ?_,A⟩;exact bT.le j _ _ (bT.setL off _ _ s fun m=>by
      rw[M m];simp only[dn];exact(VD.leaf rfl).2 ⟨a7,0,[],rfl,ae _,rfl,.inl rfl⟩))
    refine⟨c.put id (.box i (cs.set off (.val (.list K) []))) (c.mu id) c.w,⟨?_,d.nxt,B,bT.le j _ _ d.fr,FU.le j _ _ d.stk, ?_, ?_⟩,j.mono,rfl⟩
    .simp only[Cx.put];rw[d.hp]
    .obtain⟨D,E,G,I⟩:=d.df;exact⟨D,E,G,I⟩
    .exact d.rd
   generalize id+500000+2000*off=nm at h;split at h
   .cases h
   .rename_i V
    rw[cond_eq_ite]at h;split at h
    .rename_i f
     cases h;simp only[af]at f;have W:u<=nm:=by simpa [Nat.ble_eq] using f.1
     have X:0<t.size:=by have:=f.2;simp[Nat.blt]at this;omega
     have Z:nm≠id:=fun e=>by simp_all
     obtain⟨c',hd,Y,hv⟩:=uh d.ok (st:=⟨N,O,S,u⟩) d.hp d.nxt V W (ae u) (y:=t) X (xs:=[]) (v:=.slice a7 0 0) (w:=c.w) (Below.refl _ _) qI [] ⟨by simp,.inl ⟨rfl,rfl⟩⟩ (by simp[gW]) rfl (fun _=>rfl);have g:=d.did hd;have l:eG c'.hp id=a6 (.box i cs):=by
      rw[hd.hp];simp only[fB]
      grind
     obtain⟨x,us,z,s,A⟩:=g.ok.obj id _ l;have M: ∀m:off<us.toList.length,us.toList[off]=.slice a7 0 0:=fun m=>by
      have:=bT.getD s off;rw[J,Array.getD,dif_pos (by simpa using m)]at this
      assumption
     have p:(eu.box i cs).like (c'.mu id) (.box i (cs.set off (.slc nm 0 a7))) (c'.mu id):=rfl;have j:=Cx.Le.put (w:=c'.w) g.ok l p (ae _) (fun _ _ _=>rfl) (fun b f=>.inl f) (fun b L _ o=>⟨L,o⟩);have B:=Cx.Ok.put (w:=c'.w) g.ok l p g.ok.bel (ae _) (fun _ _ _=>rfl) (fun b f=>.inl f) (fun b L _ o=>⟨L,o⟩) (by
      refine⟨by simp only[Cx.put,upd_same];exact x,us,by simp only[Cx.put,upd_same];exact z, ?_,A⟩
      grind [bT.le,bT.setL])
     refine⟨c'.put id (.box i (cs.set off (.slc nm 0 a7))) (c'.mu id) c'.w,⟨?_,g.nxt,B,bT.le j _ _ g.fr,FU.le j _ _ g.stk, ?_, ?_⟩,hd.le.mono.trans j.mono,Y⟩
     .simp only[Cx.put];rw[hd.hp]
     .obtain⟨D,E,G,I⟩:=g.df;exact⟨D,E,G,I⟩
     .exact g.rd
    .cases h
  .exact same h
 .exact same h
theorem aak (k:Nat) (o:eu) (i:Nat): ∀h:iw,eG (axw k o h) i=if k=i then a6 o else eG h i
 |[]=>by simp[axw,fB]
 |(j,p)::h=>by
  simp only[axw];rw[cond_eq_ite];split
  .rw[fB]
  .rename_i d
   have f:j≠k:=fun e=>d (by simp_all);rw[fB,aak k o i h,fB]
   grind
theorem zo (i:Nat): ∀h:iw,eG (mF h) i=eG h i
 |[]=>rfl
 |(k,o)::h=>by simp only[mF];rw[aak,zo i h,fB]
theorem je.sorted (d:je W0 b0 rd c st a ats): ∃c',je W0 b0 rd c' {st with hp:=mF st.hp} a ats/\c.Mono c'/\c'.w=c.w:=by
 have g: ∀i,eG (mF c.hp) i=eG c.hp i:=fun i=>zo i _;have q: ∀(o:eu) (l:Loc),o.like l o l:=fun o l=>by
  cases o<;>simp[eu.like]
 have e:c.Le {c with hp:=mF c.hp}:=by
  refine⟨fun b f=>⟨⟨f.1,fun⟨j,o,s,m⟩=>f.2.1 ⟨j,o,by simp_all,m⟩,f.2.2⟩,rfl⟩,fun id hk=> ?_,fun id u _ h=>⟨u,by rw[<-g];exact h,q _ _⟩,fun _ h=>h,fun b L h=>⟨L,h⟩,ae _,rfl⟩;rcases hk with ⟨o,h⟩|h
  .exact .inl ⟨o,by simp_all⟩
  .exact .inr h
 have v:({c with hp:=mF c.hp}:Cx).Ok W0:=by
  refine⟨d.ok.bel,fun id o h=> ?_,fun i j o p b s m=>d.ok.inj i j o p b (by simp_all) (by simp_all),d.ok.mks,fun b f=>(e.out b (d.ok.bar b f)).1,d.ok.phi⟩;exact(d.ok.obj id o (by rw[<-g];exact h)).le e rfl fun b _=>rfl
 exact⟨{c with hp:=mF c.hp},⟨by show mF c.hp=mF st.hp;rw[d.hp],d.nxt,v,bT.le e _ _ d.fr,FU.le e _ _ d.stk,d.df,d.rd⟩,e.mono,rfl⟩
theorem aia (e:je W0 b0 rd c st a ats) {id off:Nat} {t:Ty} {d:St} (h:Um id off t st=a6 d): ∃c',je W0 b0 rd c' d a ats/\c.Mono c'/\c'.w=c.w:=by
 simp only[Um]at h;split at h
 .rename_i q f
  cases h;obtain⟨s,g,i,j⟩:=ac1 e f;obtain⟨l,m,o,p⟩:=g.sorted;exact⟨l,m,i.trans o,p.trans j⟩
 .cases h
theorem al2 (g:je W0 b0 rd c st a ats) {s id N:Nat} {u:TypeId} {xs:List di} (hn:st.fr.getD s .undef=.ptr id 0) (K:eG st.hp id=a6 (.box u xs)) (aF:id≠N)
  (ab:st.nxt.ble N=true) (ad:G7 [id,N] (mr (st.fr.set s .undef)++uZ st.stk++(mr xs++zD (st.hp.filter fun e=> !(Nat.beq e.1 id||Nat.beq e.1 N))))=true):
  ∃c',je W0 b0 rd c' {st with fr:=st.fr.set s (.ptr N 0),hp:=mF ((N,.box u xs)::st.hp.filter fun e=> !(Nat.beq e.1 id||Nat.beq e.1 N))} a ats/\c.Mono c'/\c'.w=c.w:=by
 have au: ∀U:s<a.tmps.toList.length,dn c (.ptr id 0) a.tmps.toList[s]:=fun U=>by
  have:=g.fr.getD s;rw[hn]at this;rwa [Array.getD,dif_pos (by simpa using U)]at this
 obtain⟨fr,stk,hp,nxt⟩:=st;have ag:=g.hp;have ah:=g.nxt;simp only at ag K ad hn ab ah;subst ag;subst ah;have ab:c.nxt<=N:=by simp_all
 have X: ∀i∈mr (fr.set s .undef)++uZ stk++(mr xs++zD (c.hp.filter fun e=> !(Nat.beq e.1 id||Nat.beq e.1 N))),i≠id/\i≠N:=fun i A=>by
  have:=wY ad i A;simp_all
 have V: ∀i,eG (mF ((N,.box u xs)::c.hp.filter fun e=> !(Nat.beq e.1 id||Nat.beq e.1 N))) i=if N=i then a6 (.box u xs)else if i=id then a7 else eG c.hp i:=fun i=>by
  rw[zo,fB];split
  .rfl
  .rename_i av
   rw[kN (fun i=> !(Nat.beq i id||Nat.beq i N))];have d:Nat.beq i N=false:=Bool.eq_false_iff.2 fun h=>av (aj h).symm;simp_all [Bool.eq_false_iff]
 generalize hH:mF ((N,.box u xs)::c.hp.filter fun e=> !(Nat.beq e.1 id||Nat.beq e.1 N))=H at*;generalize E:({c with mu:=Go.Proofs.YtdfhjhkcjecmlaaGreatDoor.upd c.mu N (c.mu id),hp:=H}:Cx)=c2;have M:c2.hp=H:=by rw[<-E]
 have B:c2.w=c.w:=by rw[<-E]
 have ai:c2.nxt=c.nxt:=by rw[<-E]
 have W:c2.mks=c.mks:=by rw[<-E]
 have ak:c2.bar=c.bar:=by rw[<-E]
 have O:c2.mu N=c.mu id:=by rw[<-E];exact upd_same ..
 have J: ∀i,i≠N->c2.mu i=c.mu i:=fun i A=>by rw[<-E];simp[Go.Proofs.YtdfhjhkcjecmlaaGreatDoor.upd,A]
 have al: ∀b,(∃i o,eG c2.hp i=a6 o/\o.blk (c2.mu i)=a6 b)-> ∃i o,eG c.hp i=a6 o/\o.blk (c.mu i)=a6 b:=fun b ⟨i,o,d,m⟩=>by
  grind
 have an: ∀b,c.out b->c2.out b:=fun b D=>⟨by rw[B];exact D.1,fun h=>D.2.1 (al b h),by rw[W];exact D.2.2⟩;have aw: ∀b,c.free b->c2.free b/\c2.w.heap[b]? =c.w.heap[b]? :=fun b D=>⟨⟨by rw[B];exact D.1,fun h=>D.2.1 (al b h),by rw[W,ak];exact D.2.2⟩,by rw[B]⟩;have keeps: ∀l:List Nat,(∀i∈l,i≠id/\i≠N)->c.Keeps c2 l:=fun l Y=>by
  refine⟨aw,fun i A hk=> ?_,fun i A o' x=> ?_⟩
  .rcases hk with ⟨o,x⟩|hk
   .left
    grind
   .right;rw[ai];exact hk
  .rw[M,V,aq (fun e=>(Y i A).2 e.symm),aq (Y i A).1]at x;refine⟨o',x, ?_⟩;rw[J i (Y i A).2];exact o'.like_refl _
 have ax: ∀i o,i≠id->i≠N->eG c.hp i=a6 o->(i,o)∈c.hp.filter fun e=> !(Nat.beq e.1 id||Nat.beq e.1 N):=fun i o A ay x=>List.mem_filter.2 ⟨zn _ _ _ x,by
  have d:Nat.beq i N=false:=Bool.eq_false_iff.2 fun h=>ay (aj h);have m:Nat.beq i id=false:=Bool.eq_false_iff.2 fun h=>A (aj h);simp_all⟩
 have az:c2.Ok W0:=by
  refine⟨by rw[B];exact g.ok.bel,fun i o x=> ?_,fun i j o q b d m v y=> ?_,fun r aG=>by rw[B];exact g.ok.mks r (by simp_all),fun b D=>an b (g.ok.bar b (by simp_all)),g.ok.phi⟩
  .rw[M,V]at x;split at x
   .rename_i e;subst e;cases x
    obtain⟨d,Z,m,v,y⟩:=g.ok.obj id _ K;exact⟨by rw[O];exact d,Z,by rw[B,O];exact m,bT.keeps _ _ (keeps _ fun j hj=>X j (bH _ (List.mem_append_left _ hj))) v,y⟩
   .rename_i e
    split at x
    .cases x
    .rename_i G
     have I:=g.ok.obj i o x;have hm:=ax i o G (fun q=>e q.symm) x;have hk:=fun j hj=>X j (bH _ (bH _ (DI _ _ hm j hj)));have ao:=J i (fun q=>e q.symm);cases o with
     |box e cs=>
      obtain⟨d,Z,m,v,y⟩:=I;refine⟨by rw[ao];exact d,Z,by simp_all,bT.keeps _ _ (keeps _ hk) v,y⟩
     |arr t ver xs=>
      obtain⟨I,e,zs,d,m,v⟩:=I;refine⟨I,e,zs,by simp_all, ?_,v⟩
      grind [gW.mono,fZ.mono]
     |lp f fr ps jr bd ky n p=>
      obtain⟨I,d,L,m,v,y⟩:=I;refine⟨I,by rw[ao];exact d,L,by simp_all,bT.keeps _ _ (keeps _ hk) v,y⟩
     |dead=>trivial
     |mp kk vk es=>
      simp_all [Cx.ORel]
  .rw[M,V]at d m;split at d<;>split at m
   .omega
   .rename_i S G
    split at m
    .cases m
    .rename_i e3
     subst S;cases d;rw[O]at v;rw[J j (fun q=>G q.symm)]at y;exact absurd (g.ok.inj id j _ q b K m v y).symm e3
   .rename_i S G
    split at d
    .cases d
    .rename_i e3
     subst G;cases m;rw[O]at y;rw[J i (fun q=>S q.symm)]at v;exact absurd (g.ok.inj i id o _ b d K v y) e3
   .rename_i S G
    split at d
    .cases d
    .split at m
     .cases m
     .rw[J i (fun q=>S q.symm)]at v;rw[J j (fun q=>G q.symm)]at y;exact g.ok.inj i j o q b d m v y
 have aA:bT c (fr.set s .undef) a.tmps.toList:=bT.setL _ _ _ g.fr fun _=>by simp[dn]
 have kl:=keeps _ X;have aB:=bT.keeps _ _ kl.left.left aA;have jB:=bT.setL (z:=.ptr N 0) s _ _ aB fun U=>by
  have hv:=au U;simp only[dn]at hv ⊢;exact⟨hv.1,.inl ⟨_,by rw[M,V,am rfl]⟩,fun _ _ _=>by rw[O];exact hv.2.2 _ _ K⟩
 rw[List.set_set]at jB;exact⟨c2,⟨by rw[M],ai,az,jB,FU.keeps _ _ kl.left.right g.stk,by rw[W];exact g.df,by rw[B];exact g.rd⟩,
  ⟨fun _ h=>by rw[W];exact h,fun b L h=>⟨L,by rw[B];exact h⟩,by simp_all,ak,fun b D=>⟨an b D,by rw[B]⟩⟩,B⟩
theorem aii (d:je W0 b0 rd c st a ats) {s:Nat} {t:Ty} {ab:St} (h:UM s t st=a6 ab): ∃c',je W0 b0 rd c' ab a ats/\c.Mono c'/\c'.w=c.w:=by
 have ad: ∀W:s<a.tmps.toList.length,dn c (st.fr.getD s .undef) a.tmps.toList[s]:=fun W=>by
  have:=d.fr.getD s;rwa [Array.getD,dif_pos (by simpa using W)]at this
 unfold UM at h;generalize hN:1000000*st.stk.length+800000+s=N at h;split at h
 .rename_i id ag X
  rw[X]at ad;rw[cond_eq_ite]at h;split at h
  .cases h;exact d.sorted
  .rename_i K
   have K:id≠N:=fun e=>K (by simp[e]);split at h
   .rename_i u w S M
    obtain⟨g,h⟩:=dN h;simp only[af]at g;obtain⟨ah,ai⟩:=g;cases h;obtain⟨fr,az,hp,aX⟩:=st;have ak:=d.hp;have al:=d.nxt;simp only at ak M ai X ah al;subst ak;subst al;have ah:c.nxt<=N:=by simp_all
    have an: ∀i∈mr (fr.set s .undef)++uZ az++zD (c.hp.filter fun e=> !(Nat.beq e.1 id||Nat.beq e.1 N)),i≠id/\i≠N:=fun i B=>by
     have:=wY ai i B;simp_all
    have Y: ∀i,eG (mF ((N,.arr u w S)::c.hp.filter fun e=> !(Nat.beq e.1 id||Nat.beq e.1 N))) i=if N=i then a6 (.arr u w S)else if i=id then a7 else eG c.hp i:=fun i=>by
     rw[zo,fB];split
     .rfl
     .rename_i aA
      rw[kN (fun i=> !(Nat.beq i id||Nat.beq i N))];have m:Nat.beq i N=false:=Bool.eq_false_iff.2 fun h=>aA (aj h).symm;simp_all [Bool.eq_false_iff]
    generalize hH:mF ((N,.arr u w S)::c.hp.filter fun e=> !(Nat.beq e.1 id||Nat.beq e.1 N))=H at*;generalize G:({c with mu:=Go.Proofs.YtdfhjhkcjecmlaaGreatDoor.upd c.mu N (c.mu id),hp:=H}:Cx)=v;have U:v.hp=H:=by rw[<-G]
    have E:v.w=c.w:=by rw[<-G]
    have ao:v.nxt=c.nxt:=by rw[<-G]
    have Z:v.mks=c.mks:=by rw[<-G]
    have au:v.bar=c.bar:=by rw[<-G]
    have av:v.mu N=c.mu id:=by rw[<-G];exact upd_same ..
    have O: ∀i,i≠N->v.mu i=c.mu i:=fun i B=>by rw[<-G];simp[Go.Proofs.YtdfhjhkcjecmlaaGreatDoor.upd,B]
    have aw: ∀b,(∃i o,eG v.hp i=a6 o/\o.blk (v.mu i)=a6 b)-> ∃i o,eG c.hp i=a6 o/\o.blk (c.mu i)=a6 b:=fun b ⟨i,o,m,y⟩=>by
     grind
    have ax: ∀b,c.out b->v.out b:=fun b g=>⟨by rw[E];exact g.1,fun h=>g.2.1 (aw b h),by rw[Z];exact g.2.2⟩;have aB: ∀b,c.free b->v.free b/\v.w.heap[b]? =c.w.heap[b]? :=fun b g=>⟨⟨by rw[E];exact g.1,fun h=>g.2.1 (aw b h),by rw[Z,au];exact g.2.2⟩,by rw[E]⟩;have keeps: ∀l:List Nat,(∀i∈l,i≠id/\i≠N)->c.Keeps v l:=fun l hl=>by
     refine⟨aB,fun i B hk=> ?_,fun i B o' x=> ?_⟩
     .rcases hk with ⟨o,x⟩|hk
      .left
       grind
      .right;rw[ao];exact hk
     .rw[U,Y,aq (fun e=>(hl i B).2 e.symm),aq (hl i B).1]at x;refine⟨o',x, ?_⟩;rw[O i (hl i B).2];exact o'.like_refl _
    have aF: ∀i o,i≠id->i≠N->eG c.hp i=a6 o->(i,o)∈c.hp.filter fun e=> !(Nat.beq e.1 id||Nat.beq e.1 N):=fun i o B aG x=>List.mem_filter.2 ⟨zn _ _ _ x,by
     have m:Nat.beq i N=false:=Bool.eq_false_iff.2 fun h=>aG (aj h);have y:Nat.beq i id=false:=Bool.eq_false_iff.2 fun h=>B (aj h);simp_all⟩
    have aH:v.Ok W0:=by
     refine⟨by rw[E];exact d.ok.bel,fun i o x=> ?_,fun i j o q b m y A D=> ?_,fun r aY=>by rw[E];exact d.ok.mks r (by simp_all),fun b g=>ax b (d.ok.bar b (by simp_all)),d.ok.phi⟩
     .rw[U,Y]at x;split at x
      .rename_i e;subst e;cases x
       obtain⟨aI,e,zs,aZ,hL,aJ⟩:=d.ok.obj id _ M;refine⟨aI,e,zs, ?_, ?_,aJ⟩
       .simp_all
       grind [gW.mono,fZ.mono]
      .rename_i e
       split at x
       .cases x
       .rename_i I
        have J:=d.ok.obj i o x;have hm:=aF i o I (fun q=>e q.symm) x;have hk:=fun j hj=>an j (bH _ (DI _ _ hm j hj));have ay:=O i (fun q=>e q.symm);cases o with
        |box e cs=>
         obtain⟨m,vs,y,A,D⟩:=J;refine⟨by rw[ay];exact m,vs,by simp_all,bT.keeps _ _ (keeps _ hk) A,D⟩
        |arr t ag S=>
         obtain⟨J,e,zs,m,y,A⟩:=J;refine⟨J,e,zs,by simp_all, ?_,A⟩
         grind [gW.mono,fZ.mono]
        |lp f fr ps jr bd ky n p=>
         obtain⟨J,m,L,y,A,D⟩:=J;refine⟨J,by rw[ay];exact m,L,by simp_all,bT.keeps _ _ (keeps _ hk) A,D⟩
        |dead=>trivial
        |mp kk vk es=>
         simp_all [Cx.ORel]
     .rw[U,Y]at m y;split at m<;>split at y
      .omega
      .rename_i V I
       split at y
       .cases y
       .rename_i e3
        subst V;cases m;rw[av]at A;rw[O j (fun q=>I q.symm)]at D;exact absurd (d.ok.inj id j _ q b M y A D).symm e3
      .rename_i V I
       split at m
       .cases m
       .rename_i e3
        subst I;cases y;rw[av]at D;rw[O i (fun q=>V q.symm)]at A;exact absurd (d.ok.inj i id o _ b m M A D) e3
      .rename_i V I
       split at m
       .cases m
       .split at y
        .cases y
        .rw[O i (fun q=>V q.symm)]at A;rw[O j (fun q=>I q.symm)]at D;exact d.ok.inj i j o q b m y A D
    have aK:bT c (fr.set s .undef) a.tmps.toList:=bT.setL _ _ _ d.fr fun _=>by simp[dn]
    have kl:=keeps _ an;have aO:=bT.keeps _ _ kl.left.left aK;have jB:=bT.setL (z:=.slc N ag a7) s _ _ aO fun W=>by
     have hv:=ad W;simp only[dn]at hv ⊢;refine⟨hv.1,.inl ⟨_,by rw[U,Y,am rfl]⟩,fun t' u' bf bg=> ?_⟩
     grind
    rw[List.set_set]at jB;exact⟨v,⟨by rw[U],ao,aH,jB,FU.keeps _ _ kl.left.right d.stk,by rw[Z];exact d.df,by rw[E];exact d.rd⟩,
     ⟨fun _ h=>by rw[Z];exact h,fun b L h=>⟨L,by rw[E];exact h⟩,by simp_all,au,fun b g=>⟨ax b g,by rw[E]⟩⟩,E⟩
   .cases h
 .rename_i id X
  rw[cond_eq_ite]at h;split at h
  .cases h;exact d.sorted
  .rename_i K
   have K:id≠N:=fun e=>K (by simp[e]);split at h
   .rename_i u S M
    obtain⟨g,h⟩:=dN h;simp only[af]at g;cases h;exact al2 d X M K g.1 g.2
   .cases h
 .cases x:AL s t st with
  |none=>simp_all
  |some bi=>
   rw[x]at h;cases h;obtain⟨c1,aP,aQ,aS⟩:=SY d x;obtain⟨v,aU,aV,aW⟩:=aP.sorted;exact⟨v,aU,aQ.trans aV,aW.trans aS⟩
theorem Zo {s:Nat} {t:Ty} {l:List (Nat×Ty)} {st d:St} (h:jX ((s,t)::l) st=a6 d):(∃t' st1,GH s t' st=a6 st1/\jX l st1=a6 d)\/(∃t' st1,Um (s/100) (s %100) t' st=a6 st1/\jX l st1=a6 d)\/(∃t' st1,UM s t' st=a6 st1/\jX l st1=a6 d)\/ ∃st1,AL s t st=a6 st1/\jX l st1=a6 d:=by
 have own:(match AL s t st with|some st=>jX l st|none=>a7)=a6 d-> ∃st1,AL s t st=a6 st1/\jX l st1=a6 d:=fun h=>by
  grind
 cases t with
 |pair x y=>
  cases x with
  |unit=>
   grind [jX]
  |list z=>
   cases z with
   |unit=>
    grind [jX]
   |bool=>
    grind [jX]
   |_=>right;right;right;exact own h
  |_=>right;right;right;exact own h
 |_=>right;right;right;exact own h
theorem ui: ∀(l:List (Nat×Ty)) {c:Cx} {st:St},je W0 b0 rd c st a ats-> ∀{u:St},jX l st=a6 u-> ∃c',je W0 b0 rd c' u a ats/\c.Mono c'/\c'.w=c.w
 |[],c,st,q,u,h=>by cases h;exact⟨c,q,Cx.Mono.refl c,rfl⟩
 |(s,t)::l,c,st,q,u,h=>by
  rcases Zo h with ⟨y,v,d,e⟩|⟨y,v,d,e⟩|⟨y,v,d,e⟩|⟨v,d,e⟩
  .obtain⟨x,f,g,i⟩:=NV q d;obtain⟨j,m,o,p⟩:=ui l f e;exact⟨j,m,g.trans o,p.trans i⟩
  .obtain⟨x,f,g,i⟩:=aia q d;obtain⟨j,m,o,p⟩:=ui l f e;exact⟨j,m,g.trans o,p.trans i⟩
  .obtain⟨x,f,g,i⟩:=aii q d;obtain⟨j,m,o,p⟩:=ui l f e;exact⟨j,m,g.trans o,p.trans i⟩
  .obtain⟨x,f,g,i⟩:=SY q d;obtain⟨j,m,o,p⟩:=ui l f e;exact⟨j,m,g.trans o,p.trans i⟩
theorem ry (d:je W0 b0 rd c st a ats) {y:List Nat} {i:List (Nat×Ty)} {e:St} (h:PQ y i st=a6 e): ∃c',je W0 b0 rd c' e a ats/\c.Mono c'/\c'.w=c.w:=by
 have j:je W0 b0 rd c {st with fr:=Kt y 0 st.fr} a ats:=⟨d.hp,d.nxt,d.ok,Dq 0 _ _ d.fr,d.stk,d.df,d.rd⟩;have go: ∀{f:Cx} {l:St},je W0 b0 rd f l a ats->(match jX i l with
   |some st=>match gc (1000000*st.stk.length) .undef st with
    |some st=>a6 (aby st)
    |none=>a7
   |none=>a7)=a6 e-> ∃c',je W0 b0 rd c' e a ats/\f.Mono c'/\c'.w=f.w:=fun {f l} j h=>by
  split at h
  .rename_i A g
   obtain⟨B,m,o,p⟩:=ui i j g;split at h
   .rename_i K D
    cases h;obtain⟨z,q,_,s,x,_,_⟩:=m.gc (v:=.undef) (u:=undef) (by simp[dn]) D;obtain⟨E,G,I,J⟩:=q.anew;exact⟨E,G,(o.trans s).trans I,J.trans (x.trans p)⟩
   .cases h
  .cases h
 unfold PQ at h;split at h
 .rename_i A g
  split at g
  .grind
  .obtain⟨B,m,_,o,p,_,_⟩:=j.gc (v:=.undef) (u:=undef) (by simp[dn]) g;obtain⟨z,q,s,x⟩:=go m h;exact⟨z,q,o.trans s,x.trans p⟩
 .cases h
theorem Kr: ∀(l:List (Nat×Ty)) {c:Cx} {st:St},je W0 b0 rd c st a ats-> ∀{d:St},IU l st=a6 d-> ∃c',je W0 b0 rd c' d a ats/\c.Mono c'/\c'.w=c.w
 |[],c,st,e,d,h=>by cases h;exact⟨c,e,Cx.Mono.refl c,rfl⟩
 |(s,t)::l,c,st,e,d,h=>by
  simp only[IU]at h;split at h
  .rename_i u f
   obtain⟨v,g,i,j⟩:=NV e f;obtain⟨m,o,p,q⟩:=Kr l g h;exact⟨m,o,i.trans p,q.trans j⟩
  .cases h
theorem abn (d:je W0 b0 rd c st a ats) {k:eY} {e:St} (h:aCb k st=a6 e): ∃c',je W0 b0 rd c' e a ats/\c.Mono c'/\c'.w=c.w:=by
 simp only[aCb]at h;split at h
 .rename_i A f
  have g:je W0 b0 rd c {st with fr:=Kt k.rets 0 st.fr} a ats:=⟨d.hp,d.nxt,d.ok,Dq 0 _ _ d.fr,d.stk,d.df,d.rd⟩;obtain⟨B,i,j,l⟩:=Kr k.give g f;split at h
  .rename_i D m
   cases h;obtain⟨E,o,_,p,q,_,_⟩:=i.gc (v:=.undef) (u:=undef) (by simp[dn]) m;obtain⟨s,x,y,z⟩:=o.anew;exact⟨s,x,(j.trans p).trans y,z.trans (q.trans l)⟩
  .cases h
 .cases h
end
end
section
open Option renaming some → a6, none → a7
open Bool renaming and_eq_true → af, false_eq_true → ag
open List renaming mem_cons_of_mem → au
open Nat renaming le_refl → ae, lt_or_ge → aO
open Go.RowKit
def oM {R:Type} (P:Program) (call:gY R):Prop:=
 ∀(W0:World) (b0:Nat) (rd:Option Nat) (j:di) (l:List di) (o:Option Nat) (st:St) (K:di->St->Option R) (r:R),call j l o st K=a6 r->
  ∀(c:Cx) (a:Act) (ats:List (Array Value)) (h:Value) (i:Array Value),je W0 b0 rd c st a ats->dn c j h->bT c l i.toList->
   ∃z v,K z st=a6 r/\dn c z v/\ ∀f,JP c f->(∃g m,(do let d<-Deferred.ofValue h i;invoke d.target d.args:Sem Next).run P f=.ok (.enter g m) f/\
    Calls P g m f (fun e p=>e=.returned v/\JP c p))\/(do let d<-Deferred.ofValue h i;invoke d.target d.args:Sem Next).run P f=.ok (.value v) f
section
variable {P:Program} {T:TT} {W0:World} {b0 n:Nat} {rd:Option Nat} {c:Cx} {R:Type} {r:R} {st:St} {a:Act} {ats:List (Array Value)}
theorem je.ext (h:je W0 b0 rd c st a ats) {w:World} (e:JP c w):je W0 b0 rd (c.at_ w) st a ats:=by
 have d:=Cx.Le.ext e;exact⟨h.hp,h.nxt,h.ok.ext e,bT.le d _ _ h.fr,FU.le d _ _ h.stk,let⟨f,g,i,j⟩:=h.df;⟨f,g,i,j⟩,fun l m=>let⟨L,o⟩:=h.rd l m;d.lp l L o⟩
theorem ah6 (hT:TOk P T) {cl:Bool} {call:gY R} (L:oM P call) {o:Oper} (D:kD o.op=true) {K:di->St->Option R} (h:fE T cl call o st K=a6 r) (d:je W0 b0 rd c st a ats):
  ∃z v,K z st=a6 r/\dn c z v/\ ∀w',JP c w'->o.quietAtIn (FW rd) n P a (JP c) w' v:=by
 by_cases hq2:iO o.op=true
 .obtain⟨z,u,j,l,p⟩:=DF hT d.ok hq2 d.hp d.fr h;refine⟨z,u,j,l,fun w' q=> ?_⟩;unfold Oper.quietAtIn;rw[p w' q];exact⟨rfl,rfl⟩
 .obtain⟨s,M,E,G,I,J⟩:=o;cases M<;>simp only[kD,ag]at D<;>(try (exact absurd rfl hq2))
  case call cc=>
   obtain⟨y,e,i⟩:=cc;cases y with
   |builtin b=>cases b<;>simp only[ag]at D<;>exact absurd rfl hq2
   |invoke x m=>simp_all
   |value f=>
    simp only[fE]at h;obtain⟨z,v,j,l,p⟩:=L W0 b0 rd _ _ s st K r h c a ats (a.eval f) (e.map a.eval) d (eF d.fr f) (by
     have:=bT.map_eval (c:=c) d.fr e.toList;simpa using this)
    refine⟨z,v,j,l,fun w' q=> ?_⟩;unfold Oper.quietAtIn;rcases p w' q with ⟨g,N,A,O⟩|A
    .have B:(execOp a.eval ⟨s,.call {callee:=.value f,args:=e,argTypes:=i},E,G,I,J⟩).run P w'=.ok (.enter g N) w':=A;rw[B];exact⟨rfl,wC rd,(callsIn_wide (n:=n-1)).2 O⟩
    .have B:(execOp a.eval ⟨s,.call {callee:=.value f,args:=e,argTypes:=i},E,G,I,J⟩).run P w'=.ok (.value v) w':=A;rw[B];exact⟨rfl,rfl⟩
theorem QN (hT:TOk P T) {cl:Bool} {call:gY R} (s:oM P call) (ops:Array Oper) {K:St->Option R}: ∀(l:List Oper) (st:St) (a:Act),(∀o∈l,kD o.op=true)->iK T cl call ops K l st=a6 r->je W0 b0 rd c st a ats->
  wpQuietIn (FW rd) n P ops (JP c) (fun m=> ∃f,K f=a6 r/\je W0 b0 rd c f m ats) l a
 |[],st,a,u,h,e=>by
  simp only[iK]at h;exact⟨st,h,e⟩
 |o::l,st,a,u,h,e=>by
  simp only[iK]at h;have D: ∀o∈l,kD o.op=true:=fun G I=>u G (au _ I);have y: ∀(st:St) (a:Act),je W0 b0 rd c st a ats->fE T cl call o st (fun v st=>iK T cl call ops K l (st.put o.dst v))=a6 r->
    o.quietIn (FW rd) n P a (JP c) (wpQuietIn (FW rd) n P ops (JP c) (fun m=> ∃f,K f=a6 r/\je W0 b0 rd c f m ats) l):=fun st a e h=>by
   obtain⟨z,v,p,J,L⟩:=ah6 (n:=n) hT s (u o (by simp)) h e;exact⟨v,L,QN hT s ops l _ _ D p (e.put J)⟩
  have A: ∀(st:St),je W0 b0 rd c st a ats->iK T cl call ops K l (st.put o.dst (.tup []))=a6 r->wpQuietIn (FW rd) n P ops (JP c) (fun m=> ∃f,K f=a6 r/\je W0 b0 rd c f m ats) l (a.put o.dst undef):=fun st e h=>
   QN hT s ops l (st.put o.dst (.tup [])) (a.put o.dst undef) D h (e.put (by simp only[dn];exact⟨#[],rfl,by simp[bT]⟩))
  simp only[wpQuietIn];refine⟨fun _ _ _ _=>trivial, ?_⟩;cases hg:o.guard with
  |none=>
   rw[hg]at h;rw[am (by simp[Region.wanted,hg])];exact y st a e h
  |some M=>
   obtain⟨j,N⟩:=M;rw[hg]at h;simp only at h;split at h
   .cases h
   .rename_i d hd
    have g:=MQ ops j d hd a.tmps;have i:=e.fr.getD d;split at h
    .rename_i b B
     rw[B]at i;simp only[dn]at i;have O:=i.bool_inv;have V:d<a.tmps.size:=by
      rcases aO d a.tmps.size with p|p
      .exact p
      simp_all [undef]
     have E:a.tmps[d]? =a6 (.bool b):=by
      simp_all
     rw[E]at g;simp only at g;have S:a.put (a6 d) (.bool b)=a:=by
      simp only[Act.put];obtain⟨W,X⟩:=Array.getElem?_eq_some_iff.1 E;have:a.tmps.setIfInBounds d (.bool b)=a.tmps:=by
       grind
      rw[this]
     have q:je W0 b0 rd c (st.put (a6 d) (.val .bool b)) a ats:=by
      have:=e.put (dst:=a6 d) (z:=.val .bool b) (v:=.bool b) (by simp_all [dn]);rwa [S]at this
     cases b<;>cases N<;>(try simp only[aa,ac]at h)
     .rw[am (by simp[Region.wanted,hg,g])];exact y _ a q h
     .rw[aq (by simp[Region.wanted,hg,g])];exact A _ q h
     .rw[aq (by simp[Region.wanted,hg,g])];exact A _ q h
     .rw[am (by simp[Region.wanted,hg,g])];exact y _ a q h
    .rename_i B
     rw[B]at i;simp only[dn]at i;obtain⟨Y,O,_⟩:=i;have U:yielded ops a.tmps j=a7:=by
      rw[g];cases he:a.tmps[d]? with
      |none=>rfl
      |some x=>
       simp_all
     rw[aq (by simp[Region.wanted,hg,U])];exact A st e h
    .cases h
section
variable {ops:Array Oper} {md:Region.Mode} {C:World->Prop} {F:Fence}
theorem YX {o:Oper} (hd:tY o.op=false) {a:Act} {K:Act->Prop} {g:Act->World->Prop} {j:Exit->Act->World->Prop} {w:World} (i:C w) (h: ∀a w',C w'->K a->g a w')
  (l:o.askedIn F P a C) (m:o.quietIn F n P a C K):o.wpIn F n P a w g j:=by
 obtain⟨v,p,y⟩:=m;have d:=p w i;unfold Oper.quietAtIn at d;unfold Oper.wpIn;refine⟨l w i, ?_⟩;rw[zF hd];generalize (execOp a.eval o).run P w=r at*;cases r with
 |ok x w'=>
  cases x<;>simp only[Oper.quietUponIn]at d<;>simp only[Oper.uponIn]
  case value u=>
   simp_all
  case skip=>
   simp_all
  case enter f args=>
   obtain⟨q,hd,s⟩:=d;rw[q];exact⟨hd,s.mono fun e z ⟨A,B⟩=>by simp_all⟩
 |halt x w'=>simp only[Oper.quietUponIn]at d
theorem Rz {i:Nat} (hd: ∀(i:Nat) (o:Oper),ops[i]? =a6 o->tY o.op=false) {a:Act} {K:Act->Prop} {f:Act->World->Prop} {j:Exit->Act->World->Prop} {w:World} (g:C w) (h: ∀a w',C w'->K a->f a w')
  (d:qOpIn F n P ops C i K a):wpOpIn F n P ops j i f a w:=by
 unfold qOpIn at d;unfold wpOpIn;split
 .simp_all
 .rename_i o l
  simp only[l]at d;obtain⟨m,d⟩:=d;split
  .rename_i e;simp only[e,if_true]at d;grind [YX]
  .rename_i e;simp only[e]at d;exact⟨m w g,h _ _ g d⟩
theorem Bz {Q:Act->Prop} {g:Exit->Act->World->Prop} (hd: ∀(i:Nat) (o:Oper),ops[i]? =a6 o->tY o.op=false) (f: ∀a w,C w->Q a->g .normal a w): ∀(d:Nat) (j:Array Bool) (a:Act) (w:World),C w->
  wpAnyQIn F n P md ops C Q d j a->wpAnyIn F n P md ops g d j a w
 |0,_,_,_,e,h=>⟨h.1,f _ _ e h.2⟩
 |d+1,_,_,_,e,h=>⟨fun l=>f _ _ e (h.1 l),fun i m=>Rz hd e (fun p q s=>Bz hd f d _ p q s) (h.2 i m)⟩
theorem MP {id:Nat} {Q:Exit->Act->World->Prop} {a:Act} {w:World} (hd: ∀(i:Nat) (o:Oper),ops[i]? =a6 o->tY o.op=false) (f:P.follows .mixedOrders=true) (d:Region.lexB .any ops=true) (g:C {w with drawn:=w.drawn+1})
  (h:wpQuietIn F n P ops C (fun e=> ∀w',C w'->Q .normal e w') ops.toList a):(Code.region id ops true).wpIn F n P Q a w:=by
 simp only[Region.lexB,af]at d;refine wpIn_region_any f (Bz (Q:=fun e=> ∀w',C w'->Q .normal e w') hd (fun _ w' j h=>h w' j) _ _ _ _ g ?_);have:=wpAnyQIn_lex (F:=F) (n:=n) (C:=C) (md:=.any) d.1 ops.toList 0 (Array.replicate ops.size false) a (by simp) (by simpa using d.2) h;simpa using this
end
theorem zT {F:Fence} {ops:Array Oper} {C:World->Prop} {Q g:Act->Prop} (h: ∀a,Q a->g a): ∀(l:List Oper) (a:Act),wpQuietIn F n P ops C Q l a->wpQuietIn F n P ops C g l a
 |[],a,d=>h a d
 |o::l,a,d=>by
  simp only[wpQuietIn]at d ⊢;refine⟨d.1, ?_⟩;have e:=d.2;split
  .rename_i f
   rw[am f]at e;exact Oper.quietIn_mono (zT h l) e
  .rename_i f
   rw[aq f]at e;exact zT h l _ e
theorem Zq {d:Op} (h:kD d=true):tY d=false:=by cases d<;>first|rfl|(simp[kD]at h)
theorem RJ (hT:TOk P T) (l:P.follows .mixedOrders=true) {cl:Bool} {call:gY R} (m:oM P call) {id:Nat} {ops:Array Oper} (f:O4 ops=true) {K:St->Option R} {Q:Exit->Act->World->Prop}
  (h:iK T cl call ops K ops.toList st=a6 r) (p:je W0 b0 rd c st a ats) (q: ∀c' d e,K d=a6 r->je W0 b0 rd c' d e ats->c.Mono c'->Q .normal e c'.w):
  (Code.region id ops true).wpIn (FW rd) n P Q a c.w:=by
 simp only[O4,af]at f;have g: ∀o∈ops.toList,kD o.op=true:=List.all_eq_true.1 f.1;refine MP (C:=JP c) (fun i o y=>Zq (g o (by grind))) l f.2 ⟨rfl,rfl,rfl,ae _,fun _ _=>rfl⟩ ?_;refine zT (fun e s u j=> ?_) _ _ (QN (n:=n) hT m ops ops.toList st a g h p);obtain⟨d,v,x⟩:=s;exact q (c.at_ u) d e v (x.ext j) (Cx.Le.ext j).mono
end
end
section
open Option renaming some → a6, none → a7
open Bool renaming and_eq_true → af, false_eq_true → ag
open List renaming map_cons → ax
open Nat renaming le_refl → ae
open Go.RowKit
section
variable {P:Program} {T:TT} {W0:World} {b0 n:Nat} {rd:Option Nat} {c:Cx} {R:Type} {r:R} {st:St} {a:Act} {ats:List (Array Value)} {t:TypeId}
theorem aFg (hT:TOk P T) (U:c.Ok W0) {cl:Bool} {call:gY R} {o:Oper} {st:St} {a:Act} {K:di->St->Option R} (M:MC o.op=true) (I:c.hp=st.hp) (m:bT c st.fr a.tmps.toList)
  (h:fE T cl call o st K=a6 r): ∃z u,K z st=a6 r/\dn c z u/\ ∀w',(execOp a.eval o).run P w'=.ok (.value u) w':=by
 have G: ∀{s:Sem Value} {u:Value} {w':World},s.run P w'=.ok u w'->(do pure (Next.value (<-s)):Sem Next).run P w'=.ok (.value u) w':=fun V=>by
  simp[Sem.run_bind,V]
 obtain⟨av,W,ty,aw,ay,az⟩:=o;simp only at M;cases W<;>simp only[MC,ag]at M
 case move x=>exact⟨_,_,h,eF m x,fun w'=>rfl⟩
 case assign x=>exact⟨_,_,h,eF m x,fun w'=>rfl⟩
 case pick x y z=>
  simp only[fE]at h;have X:=eF m x;split at h
  .rename_i b A
   rw[A]at X;simp only[dn]at X;have ab:=X.bool_inv;cases b
   .exact⟨_,_,h,eF m z,fun w'=>by simp[execOp,ab,asBool]⟩
   .exact⟨_,_,h,eF m y,fun w'=>by simp[execOp,ab,asBool]⟩
  .cases h
 case nilCheck x=>
  simp only[fE]at h;have d:=eF m x;split at h
  .rename_i id aj J
   rw[J]at d;split at h
   .rename_i bt cs ad
    have N:=d;simp only[dn]at d;rw[<-I]at ad;have D:=d.2.2 _ _ ad;exact⟨_,_,h,N,fun w'=>by simp[execOp,D]⟩
   .cases h
  .rename_i y e J
   rw[J]at d;have N:=d;simp only[dn]at d;obtain⟨b,o,zs,D,_⟩:=d;exact⟨_,_,h,N,fun w'=>by simp[execOp,D]⟩
  .rename_i id ak i aj J
   rw[J]at d;split at h
   .rename_i e u xs ah
    replace h:=dN h;obtain⟨E,h⟩:=h;have E:u=ak:=by simpa using E
    subst E;have N:=d;simp only[dn]at d;rw[<-I]at ah;obtain⟨g,n,cp,_,D⟩:=(d.2.2 _ _ _ ah).2 rfl;exact⟨_,_,h,N,fun w'=>by simp[execOp,D]⟩
   .cases h
  .cases h
 case binOp W t x y yt=>
  simp only[fE]at h;rw[<-I]at h;obtain⟨z,u,j,p,q⟩:=azx (P:=P) (ox:=x) (oy:=y) (K:=fun v=>K v st) hT U h (eF m x) (eF m y);exact⟨z,u,j,p,fun w'=>G (q w')⟩
 case unOp W t x=>
  simp only[fE]at h;obtain⟨z,u,j,p,q⟩:=aNX (P:=P) (K:=fun v=>K v st) h (eF m x);exact⟨z,u,j,p,fun w'=>G (q w')⟩
 case slice t x lo hi mx=>
  simp only[fE]at h;rw[<-I]at h;obtain⟨z,u,j,p,q⟩:=apg (P:=P) (K:=fun v=>K v st) hT U h (eF m x) (mV.map m lo) (mV.map m hi) (mV.map m mx);exact⟨z,u,j,p,fun w'=>G (q w')⟩
 case fieldAddr t x f=>
  simp only[fE]at h;rw[<-I]at h;obtain⟨z,u,j,p,q⟩:=Td (P:=P) (K:=fun v=>K v st) hT h (eF m x);exact⟨z,u,j,p,fun w'=>G (q w')⟩
 case field t x f=>
  simp only[fE]at h;obtain⟨z,u,j,p,q⟩:=ape (P:=P) (K:=fun v=>K v st) hT h (eF m x);exact⟨z,u,j,p,fun w'=>G (q w')⟩
 case indexAddr t x i=>
  simp only[fE]at h;rw[<-I]at h;obtain⟨z,u,j,p,q⟩:=Tf (P:=P) (K:=fun v=>K v st) hT U h (eF m x) (eF m i);exact⟨z,u,j,p,fun w'=>G (q w')⟩
 case index t x i=>
  simp only[fE]at h;split at h
  .rename_i s n V Y
   replace h:=gX h;obtain⟨j,h⟩:=h;have d:=eF m x;rw[V]at d;obtain⟨p,q⟩:=apf (P:=P) hT d (eF m i) Y j;exact⟨_,_,h,p,fun w'=>G (q w')⟩
  .cases h
 case extract x n=>
  simp only[fE]at h;have d:=eF m x;split at h
  .rename_i l hl
   rw[hl]at d;split at h
   .rename_i v D
    simp only[dn]at d;obtain⟨vs,J,ai⟩:=d;obtain⟨Y,D⟩:=List.getElem?_eq_some_iff.1 D;have an:=bT.length _ _ ai;simp at an;have j:=bT.get _ _ ai n Y (by simp;omega);rw[D]at j;simp only[Array.getElem_toList]at j;refine⟨_,_,h,j,fun w'=>G ?_⟩;rw[J];have:vs[n]? =a6 vs[n]:=Array.getElem?_eq_getElem (by omega);simp[Instr.extract,this]
   .cases h
  .cases h
 case call cc=>
  obtain⟨aA,O,ao⟩:=cc;simp only at M;have B:=bT.map_eval (c:=c) m O.toList;split at M
  all_goals try (cases M;done)
  .
   simp only[fE,kV]at h;split at h<;>try (cases h;done)
   .rename_i x A d
    split at h<;>try (cases h;done)
    rename_i t ht
    rw[<-I]at h;obtain⟨L,au⟩: ∃L,O= #[L]:=by
     obtain⟨l⟩:=O
     match l,d with
     |[L],_=>exact⟨L,rfl⟩
    subst au;obtain⟨t0⟩:=ao;simp only at ht;subst ht;simp only[ax,List.map_nil,List.cons.injEq,and_true]at d;subst d;obtain⟨z,u,j,p,q⟩:=q_len (P:=P) (K:=fun v=>K v st) hT U h (eF m L) (ty:=ty);exact⟨z,u,j,p,fun w'=>by simp[execOp,resolve,invoke,builtin,Sem.run_bind,q w']⟩
   all_goals (rename_i A _;cases A)
  .
   simp only[fE,kV]at h;split at h<;>try (cases h;done)
   all_goals try (rename_i A _;cases A;done)
   rename_i k n l A d
   split at h<;>try (cases h;done)
   rename_i ns Z
   rw[d]at B;obtain⟨S⟩:=O;cases S with
   |nil=>simp[bT]at B
   |cons L S=>
    simp only[ax,bT]at B;have E:=B.1;simp only[dn]at E;have j:=E.int_inv;have p:=wF _ _ _ Z B.2;exact⟨_,_,h,by simp only[dn];exact VD.int_mk,fun w'=>by simp[execOp,resolve,invoke,builtin,Sem.run_bind,Builtin.min_,j,p,X7]⟩
  .
   simp only[fE,kV]at h;split at h<;>try (cases h;done)
   all_goals try (rename_i A _;cases A;done)
   rename_i k n l A d
   split at h<;>try (cases h;done)
   rename_i ns Z
   rw[d]at B;obtain⟨S⟩:=O;cases S with
   |nil=>simp[bT]at B
   |cons L S=>
    simp only[ax,bT]at B;have E:=B.1;simp only[dn]at E;have j:=E.int_inv;have p:=wF _ _ _ Z B.2;exact⟨_,_,h,by simp only[dn];exact VD.int_mk,fun w'=>by simp[execOp,resolve,invoke,builtin,Sem.run_bind,Builtin.max_,j,p,X6]⟩
def jd {e:Type} (x:Sem e):Prop:= ∀P w v d,x.run P w=.ok v d->Below w.heap.size w d
theorem jd.pure {d:Type} (v:d):jd (pure v:Sem d):=fun P w v e h=>by simp_all [Below.refl]
theorem jd.looks {d:Type} {x:Sem d} (h:x.Looks):jd x:=fun P w v f e=>by rw[h.ok e];exact Below.refl _ _
theorem jd.bind {g j:Type} {x:Sem g} {f:g->Sem j} (hx:jd x) (hf: ∀a,jd (f a)):jd (x>>=f):=fun P w v l h=>by
 rw[Sem.run_bind]at h;cases hr:x.run P w with
 |halt e d=>simp_all
 |ok u d=>
  rw[hr,Result.andThen_ok]at h;have i:=hx P w u d hr;exact i.trans ((hf u P d v l h).mono i.size)
theorem jd.never {d:Type} {x:Sem d} (h: ∀P w v w',x.run P w≠ .ok v w'):jd x:=fun P w v w' e=>absurd e (h P w v w')
theorem jd.new (o:Obj):jd (newObj o):=fun P w v d h=>by
 have e:(newObj o).run P w=.ok w.heap.size (w.alloc o):=rfl;rw[e]at h;cases h;exact(Below.refl _ _).alloc (ae _) o
theorem xG (t:TypeId):jd (underlying t):=.looks (underlying_looks t)
theorem aka (t:TypeId):jd (typeInfo t):=.looks (typeInfo_looks t)
theorem WL (t:TypeId):jd (sizeOf t):=.looks (sizeOf_looks t)
theorem rE {d:Type} (s:String):jd (stuck s:Sem d):=.looks (stuck_looks s)
theorem Kq {d:Type} (u:Unsupported):jd (unsupported u:Sem d):=.looks (unsupported_looks u)
theorem ant (t:TypeId):jd (isAgg t):=by
 unfold isAgg;refine(xG t).bind fun d=> ?_;split<;>exact .pure _
theorem ahd (t:TypeId):jd (zeroValue t):=by
 unfold zeroValue;refine(aka t).bind fun d=> ?_;split
 .exact .pure _
 .exact Kq _
theorem aj9 (v:Value):jd (Instr.sureAddr v):=by
 unfold Instr.sureAddr;split
 .exact .pure _
 .exact rE _
theorem ar2 (t:TypeId) (a:Addr):jd (loadVar t a):=by
 unfold loadVar;refine(ant t).bind fun d=> ?_;split
 .exact(WL t).bind fun k=>(jd.looks (loadCells_looks a k)).bind fun _=>.pure _
 .exact .looks (load_looks _ _)
theorem ar0 (v:Value):jd (asIntOf v):=by
 unfold asIntOf;split
 .exact .pure _
 .exact Kq _
 .exact rE _
theorem axp (v:Value):jd (asBool v):=by
 unfold asBool;split
 .exact .pure _
 .exact rE _
theorem XB {d g:Type} {x:Sem d} {f:d->Sem g} (hf: ∀a P w v w',(f a).run P w≠ .ok v w'): ∀P w v w',(x>>=f).run P w≠ .ok v w':=fun P w v w' h=>by
 rw[Sem.run_bind]at h;cases hr:x.run P w with
 |halt e i=>simp_all
 |ok u i=>simp_all
theorem Ze {d:Type} (v:Value): ∀P w u w',(goPanic v:Sem d).run P w≠ .ok u w':=fun P w u w' h=>by cases h
theorem LQ {d:Type} (e:RuntimeError): ∀P w u w',(runtimePanic e:Sem d).run P w≠ .ok u w':=by
 grind [runtimePanic,XB,Ze]
theorem Y6 {d:Type} (k:IntKind) (x y:Int) (code:BoundsCode):jd (boundsPanic k x y code:Sem d):=by
 unfold boundsPanic;dsimp only;split<;>exact .never (XB fun _=>LQ _)
theorem ahb (e:TypeId) (cs:Array Value):jd (newRow e cs):=by
 unfold newRow;exact(jd.new _).bind fun _=>.pure _
theorem aIZ (t:TypeId) (cs:Array Value) (off:Nat):jd (part t cs off):=by
 unfold part;refine(ant t).bind fun b=> ?_;split
 .exact(WL t).bind fun _=>.pure _
 .split
  .exact .pure _
  .exact rE _
theorem axr (t:TypeId) (v:Value):jd (Instr.loadAt t v):=by
 unfold Instr.loadAt;exact(aj9 v).bind fun a=>ar2 t a
theorem ar1 (t:Value) (i:Nat):jd (Instr.extract t i):=by
 unfold Instr.extract;split
 .split
  .exact .pure _
  .exact rE _
 .exact rE _
theorem aDo (t:TypeId) (x i:Value):jd (Instr.index t x i):=by
 unfold Instr.index;refine(ar0 i).bind fun e=> ?_;refine(xG t).bind fun d=> ?_
 repeat' first
  |exact Y6 _ _ _ _
  |exact rE _
  |exact .pure _
  |exact(WL _).bind fun _=>aIZ _ _ _
  |split
  |dsimp only
theorem aMV (t:TypeId) (v:Value):jd (Instr.box t v):=by
 unfold Instr.box newVar;exact(ahb _ _).bind fun _=>.pure _
theorem aDn (t:TypeId):jd (Instr.alloc t true (.tuple #[])):=by
 unfold Instr.alloc;refine(ahd t).bind fun z=> ?_;dsimp only;unfold newVar;exact(ahb _ _).bind fun _=>.pure _
theorem acs (r:Nat):(getObj r).Looks:=fun _=>trivial
theorem aha (r:Nat):jd (getObj r):=.looks (acs r)
theorem aDp (r:Nat):jd (Go.shape r):=.looks (fun _=>trivial)
theorem axs (r:Nat):jd (viewAt r):=by
 unfold viewAt
 repeat' first
  |exact .pure _
  |exact aDp _
  |exact aha _
  |(refine jd.bind ?_ fun _=> ?_)
  |split
  |dsimp only
theorem axq (t:TypeId):jd (elemOf t):=by
 unfold elemOf;refine(xG t).bind fun d=> ?_;split
 .exact .pure _
 .exact rE _
theorem aMW (d:Array TypeId) (ty:TypeId) (args:Array Value):jd (Builtin.len_ d ty args):=by
 unfold Builtin.len_
 repeat' first
  |exact .pure _
  |exact rE _
  |exact xG _
  |exact aha _
  |(refine jd.bind ?_ fun _=> ?_)
  |split
  |dsimp only
theorem ahc (d:Array TypeId) (ty:TypeId) (args:Array Value):jd (Builtin.unsafeSliceData_ d ty args):=by
 obtain⟨l⟩:=args
 match l with
 |[]=>exact rE _
 |_::_::_=>exact rE _
 |[v]=>
  cases v with
  |slice a n c=>
   cases a with
   |none=>exact jd.pure _
   |some a=>
    have e:Builtin.unsafeSliceData_ d ty #[.slice (a6 a) n c]=(do
      if c≠0 then pure (.pointer (a6 a))
      else if(<-viewAt a.block).isSome then pure (.pointer (a6 a))
      else pure (.pointer (a6 ⟨<-newObj (.view a (<-elemOf ty)),0,a7⟩))):=rfl
    rw[e]
    repeat' first
     |exact .pure _
     |exact axs _
     |exact axq _
     |exact jd.new _
     |(refine jd.bind ?_ fun _=> ?_)
     |split
     |dsimp only
  |_=>exact rE _
theorem akk {o:Oper} (hk:Ug o.op=true) (d:Operand->Value) (P:Program) (w:World) (v:Next) (w':World) (h:(execOp d o).run P w=.ok v w'):(∃u,v=.value u)/\Below w.heap.size w w':=by
 have f: ∀{s:Sem Value},jd s->(do pure (Next.value (<-s)):Sem Next).run P w=.ok v w'->(∃u,v=.value u)/\Below w.heap.size w w':=fun {s} D h=>by
  rw[Sem.run_bind]at h;cases hr:s.run P w with
  |halt e E=>simp_all
  |ok u E=>
   rw[hr,Result.andThen_ok,Sem.run_pure]at h;cases h;exact⟨⟨u,rfl⟩,D P w u w' hr⟩
 obtain⟨l,G,g,m,p,q⟩:=o;simp only at hk;cases G<;>simp only[Ug,ag]at hk
 case move x=>cases h;exact⟨⟨_,rfl⟩,Below.refl _ _⟩
 case assign x=>cases h;exact⟨⟨_,rfl⟩,Below.refl _ _⟩
 case pick x y z=>
  have e:execOp d ⟨l,.pick x y z,g,m,p,q⟩=(do pure (Next.value (<-(do pure (if<-asBool (d x)then d y else d z):Sem Value))):Sem Next):=by
   simp[execOp,bind_assoc]
  rw[e]at h;exact f ((axp _).bind fun _=>.pure _) h
 case load t x=>exact f (axr t (d x)) h
 case index t x i=>exact f (aDo t (d x) (d i)) h
 case extract x i=>exact f (ar1 (d x) i) h
 case box t x=>exact f (aMV t (d x)) h
 case alloc t=>exact f (aDn t) h
 case call cc=>
  obtain⟨A,j,B⟩:=cc;cases A with
  |builtin b=>
   cases b<;>simp only[ag]at hk
   case len=>
    grind [execOp,builtin,resolve,invoke,aMW]
   case unsafeSliceData=>
    have e:execOp d ⟨l,.call {callee:=.builtin .unsafeSliceData,args:=j,argTypes:=B},g,m,p,q⟩=(do pure (Next.value (<-Builtin.unsafeSliceData_ B g (j.map d))):Sem Next):=by
     rfl
    grind [ahc]
  |_=>simp at hk
theorem qo {ops:Array Oper} (h:nX ops=true) (i:Nat) (o:Oper) (d:ops[i]? =a6 o):tY o.op=false/\ ∀cs b,o.op≠ .select cs b:=by
 have:=List.all_eq_true.1 h o (by grind)
 grind [tY]
def rC (P:Program) (ops:Array Oper) (C:World->Prop) (o:Oper) (v:Value) (a:Act):Prop:=
 (Region.wanted o (yielded ops a.tmps)=true/\ ∀w,C w->(execOp a.eval o).run P w=.ok (.value v) w)\/(Region.wanted o (yielded ops a.tmps)=false/\v=undef)
def abr (P:Program) (C:World->Prop) (o:Oper):Prop:=(∀w,C w)\/ ∀e w v d,C w->(execOp e o).run P w=.ok v d->(∃u,v=.value u)/\C d
variable {ops:Array Oper} {C:World->Prop} {Q:Exit->Act->World->Prop}
theorem rC.of_same {o:Oper} {v:Value} {a d:Act} (h:rC P ops C o v a) (i:execOp d.eval o=execOp a.eval o)
  (f:Region.wanted o (yielded ops d.tmps)=Region.wanted o (yielded ops a.tmps)):rC P ops C o v d:=by
 rcases h with ⟨e,g⟩|⟨e,g⟩
 .exact .inl ⟨by rw[f];exact e,fun w j=>by simp_all⟩
 .exact .inr ⟨by rw[f];exact e,g⟩
theorem rC.wpOpIn {i:Nat} {o:Oper} {v:Value} {a:Act} (hd:nX ops=true) (hi:ops[i]? =a6 o) (e:rC P ops C o v a) {K:Act->World->Prop} {w:World} (f:C w) (h:K (a.put o.dst v) w):wpOpIn (FW rd) n P ops Q i K a w:=by
 unfold Go.wpOpIn;simp only[hi];rcases e with ⟨d,g⟩|⟨d,rfl⟩
 .rw[am d];refine⟨tq o w _, ?_⟩;rw[zF (qo hd i o hi).1,g w f];exact h
 .rw[aq (by rw[d];simp)]
  grind [tq]
theorem aiX {j:Nat} {e g:Oper} {v:Value} (hd:nX ops=true) (hi: ∃i:Nat,ops[i]? =a6 e) (o:ops[j]? =a6 g) (z:e.apart ops g=true) (A:abr P C g) (G: ∀c a w,¬Q (.panic c) a w) {K:Act->World->Prop} {a:Act} {w:World} (I:C w)
  (l:rC P ops C e v a) (h:wpOpIn (FW rd) n P ops Q j K (a.put e.dst v) w):wpOpIn (FW rd) n P ops Q j (fun p w'=>C w'/\rC P ops C e v p/\K (p.put e.dst v) w') a w:=by
 obtain⟨q,J,s⟩:=Oper.apart_spec z;obtain⟨i,hi⟩:=hi;have B:=(qo hd i e hi).2;obtain⟨y,D⟩:=qo hd j g o;have L: ∀(a:Act),rC P ops C e v a-> ∀u,rC P ops C e v (a.put g.dst u):=fun a l u=>l.of_same (execOp_put e B a g.dst u s) (wanted_put e a g.dst u s);unfold wpOpIn at*;simp only[o]at*;rw[wanted_put g a e.dst v q]at h;split
 .rename_i m
  rw[am m]at h;unfold Oper.wpIn at*;refine⟨tq g w _, ?_⟩;have h:=h.2;rw[zF y,execOp_put g D a e.dst v q]at h;rw[zF y];have hk:(∀w,C w)\/ ∀x w',(execOp a.eval g).run P w=.ok x w'->(∃u,x=.value u)/\C w':=by
   rcases A with hk|hk
   all_goals grind
  generalize (execOp a.eval g).run P w=r at*;cases r with
  |ok x w'=>
   have E:(∀w,C w)\/((∃u,x=.value u)/\C w'):=by
    simp_all
   cases x<;>simp only[Oper.uponIn]at h ⊢
   case value u=>
    grind [Act.put_comm]
   case skip=>
    grind [Act.put_comm]
   case defer d=>
    rcases E with hk|hk
    .have M: ∀d,rC P ops C e v {a with defers:=d::a.defers}:=fun d=>l.of_same rfl rfl
     grind [Act.put_comm,Act.put_defers]
    simp_all
   case enter f args=>
    grind [Act.put_comm]
   case row row args=>
    grind [Act.put_comm]
   grind [Act.put_comm]
  |halt x w'=>
   cases x<;>simp only[Oper.uponIn]at h ⊢;simp_all
 .rename_i m
  rw[aq m]at h
  grind [tq,Act.put_comm]
theorem QH {l:List Nat} {i:Nat}:aaz l i=true↔i∈l:=by
 simp_all [aaz]
theorem IA {i:Nat} {o:Oper} {v:Value} (hd:nX ops=true) (hi:ops[i]? =a6 o) (E: ∀c a w,¬Q (.panic c) a w) (D:List Nat) (G: ∀j∈D,j≠i->Iz ops j D=true):
  ∀(p:Nat) (d:Array Bool) (a:Act) (w:World),C w->(∀j∈D,d.getD j true=false)->
   (∀j m,ops[j]? =a6 m->j∉D->d.getD j true=false->o.apart ops m=true/\abr P C m)->i∈D->
   i∈Region.ready .any ops d->rC P ops C o v a->
   wpAnyIn (FW rd) n P .any ops Q p (d.setIfInBounds i true) (a.put o.dst v) w->wpAnyIn (FW rd) n P .any ops Q (p+1) d a w:=by
 have I: ∀(d:Array Bool) (j:Nat),(∀j∈D,d.getD j true=false)->j∈Region.ready .any ops d->j≠i->j∉D:=fun d j q l f s=>by
  have g:=G j s f;unfold Iz at g;obtain⟨_,m,u,J⟩:=mem_ready.1 l;rw[u]at g;obtain⟨e,he,K⟩:=Array.any_eq_true'.1 g;simp only[af]at K
  grind [QH]
 intro p
 induction p with
 |zero=>
  intro d a w g q _ y z x H;refine⟨fun h=>(by simp_all),fun j l=> ?_⟩;by_cases f:j=i
  .subst f;exact x.wpOpIn hd hi g H
  .have:=ready_mono l f;rw[H.1]at this;cases this
 |succ p L=>
  intro d a w g q A y z x H;refine⟨fun h=>(by simp_all),fun j l=> ?_⟩;by_cases f:j=i
  .subst f;exact x.wpOpIn hd hi g H
  .have M:=H.2 j (ready_mono l f);have s:=I d j q l f;obtain⟨N,m,u,J⟩:=mem_ready.1 l;obtain⟨O,S⟩:=A j m u s N;have U:=aiX hd ⟨i,hi⟩ u O S E g x M;have V: ∀k∈D,(d.setIfInBounds j true).getD k true=false:=fun k hk=>by
    rw[getD_set_ne true (fun e=>s (by rw[e];exact hk))];exact q k hk
   have W: ∀k ok,ops[k]? =a6 ok->k∉D->(d.setIfInBounds j true).getD k true=false->o.apart ops ok=true/\abr P C ok:=fun k ok hk X ab=>by
    refine A k ok hk X ?_;by_cases hjk:j=k
    all_goals simp_all
   refine wpOpIn_mono (fun Y Z B=>L (d.setIfInBounds j true) Y Z B.1 V W y (ready_mono z (Ne.symm f)) B.2.1 ?_) U;simp_all [Array.setIfInBounds_comm]
theorem NH {cl:Bool} {call:gY R} {K:St->Option R} (o:Oper) (l:List Oper) (st:St):iK T cl call ops K (o::l) st=iK T cl call ops (iK T cl call ops K l) [o] st:=by
 simp only[iK]
theorem ah5 {cl:Bool} {call:gY R} {K:St->Option R} {o:Oper} (h:iK T cl call ops K [o] st=a6 r) (f:je W0 b0 rd c st a ats):
  (Region.wanted o (yielded ops a.tmps)=true/\ ∃st1,je W0 b0 rd c st1 a ats/\fE T cl call o st1 (fun v st=>K (st.put o.dst v))=a6 r)\/
  (Region.wanted o (yielded ops a.tmps)=false/\ ∃st1,je W0 b0 rd c st1 (a.put o.dst undef) ats/\K st1=a6 r):=by
 simp only[iK]at h;have y: ∀(st:St),je W0 b0 rd c st a ats->je W0 b0 rd c (st.put o.dst (.tup [])) (a.put o.dst undef) ats:=fun st f=>f.put (by simp only[dn];exact⟨#[],rfl,by simp[bT]⟩);cases hg:o.guard with
 |none=>
  grind [Region.wanted]
 |some m=>
  obtain⟨j,p⟩:=m;rw[hg]at h;simp only at h;split at h
  .cases h
  .rename_i d hd
   have g:=MQ ops j d hd a.tmps;have e:=f.fr.getD d;have q:=bT.length _ _ f.fr;rw[Array.length_toList]at q;split at h
   .rename_i b i
    rw[i]at e;simp only[dn]at e;have s:=e.bool_inv;have A:d<a.tmps.size:=by
     grind
    have l:a.tmps[d]? =a6 (.bool b):=by
     simp_all
    rw[l]at g;simp only at g;have u:a.put (a6 d) (.bool b)=a:=by
     simp only[Act.put];obtain⟨B,D⟩:=Array.getElem?_eq_some_iff.1 l;have:a.tmps.setIfInBounds d (.bool b)=a.tmps:=by
      grind
     rw[this]
    have E:je W0 b0 rd c (st.put (a6 d) (.val .bool b)) a ats:=by
     have:=f.put (dst:=a6 d) (z:=.val .bool b) (v:=.bool b) (by simp_all [dn]);rwa [u]at this
    cases b<;>cases p<;>(try simp only[aa,ac]at h)
    .grind [Region.wanted]
    .grind [Region.wanted]
    .grind [Region.wanted]
    grind [Region.wanted]
   .rename_i i
    rw[i]at e;simp only[dn]at e;obtain⟨G,s,_⟩:=e;have I:yielded ops a.tmps j=a7:=by
     rw[g];cases he:a.tmps[d]? with
     |none=>rfl
     |some x=>
      simp_all
    grind [Region.wanted]
   .cases h
theorem aiT {e:Array Bool} {i:Nat} {pure:Bool} {f:Oper} (hi:ops[i]? =a6 f) (h:YH ops e i pure=true): ∃D:List Nat,i∈D/\(∀j∈D,e.getD j true=false)/\(∀j∈D,j≠i->Iz ops j D=true)/\
  ∀j d,ops[j]? =a6 d->j∉D->e.getD j true=false->f.apart ops d=true/\(pure=true\/Ug d.op=true):=by
 unfold YH at h;rw[hi]at h;simp only[af]at h;obtain⟨l,m,o⟩:=h;refine⟨_,QH.1 l,fun j g=> ?_,fun j g q=> ?_,fun j d p s u=> ?_⟩
 .simp_all
 .have:=List.all_eq_true.1 m j g;simp_all
 .have:=List.all_eq_true.1 o j (List.mem_range.2 (Array.getElem?_eq_some_iff.1 p).1);simp_all [QH]
theorem aaE {f:Op->Bool} {i:Nat} (h:akO ops f i=true): ∃o,ops[i]? =a6 o/\f o.op=true:=by
 grind [akO]
theorem al1 {d:Op} (h:MC d=true):iO d=true:=by
 cases d<;>simp_all [MC,iO,kD]
theorem H7 (hT:TOk P T) {cl:Bool} {call:gY R} (E:nO P W0 n call) (hd:nX ops=true) {K:St->Option R} {Q:Act->World->Prop}:
  ∀(m:Nat) (g:Array Bool) (l:List Nat) (c:Cx) (st:St) (a:Act),xf ops m g=a6 l->iK T cl call ops K (l.filterMap fun i=>ops[i]?) st=a6 r->je W0 b0 rd c st a ats->
   (∀c' M S,K M=a6 r->je W0 b0 rd c' M S ats->c.Mono c'->Q S c'.w)->wpAnyIn (FW rd) n P .any ops (fun e a w=>e=.normal/\Q a w) m g a c.w
 |0,g,l,c,st,a,d,h,G,y=>by
  simp only[xf]at d;rw[cond_eq_ite]at d;split at d
  .rename_i he
   cases d;simp only[List.filterMap_nil,iK]at h;exact⟨by simpa using he,rfl,y c st a h G (Cx.Mono.refl c)⟩
  .cases d
 |m+1,g,l,c,st,a,d,h,G,y=>by
  have U: ∀c (a:Act) (w:World),¬(Exit.panic c=.normal/\Q a w):=fun c a w h=>by cases h.1
  have take: ∀(i:Nat) (q:Bool) (p:List Nat),i∈Region.ready .any ops g->(if q then akO ops MC i=true else akO ops iO i=true)->YH ops g i q=true->xf ops m (g.setIfInBounds i true)=a6 p->
    iK T cl call ops K ((i::p).filterMap fun i=>ops[i]?) st=a6 r->wpAnyIn (FW rd) n P .any ops (fun e a w=>e=.normal/\Q a w) (m+1) g a c.w:=fun i q p V au ah I h=>by
   obtain⟨o,N,hq,ai⟩: ∃o,ops[i]? =a6 o/\iO o.op=true/\(q=true->MC o.op=true):=by
    grind [aaE,al1]
   obtain⟨D,W,X,Y,d4⟩:=aiT N ah;simp only[List.filterMap_cons,N]at h;rw[NH]at h;have Z: ∀j J,ops[j]? =a6 J->j∉D->g.getD j true=false->o.apart ops J=true/\abr P (fun w=>q=true\/JP c w) J:=fun j J aj ak hl=>by
    obtain⟨e1,L⟩:=d4 j J aj ak hl;refine⟨e1, ?_⟩;rcases L with L|L
    .exact .inl fun w=>.inl L
    .refine .inr fun ρ w v w' B hx=> ?_;obtain⟨hu,hb⟩:=akk L ρ P w v w' hx;exact⟨hu,B.imp (fun h=>h) fun B=>B.trans (hb.mono B.size)⟩
   have ab:q=true\/JP c c.w:=.inr (Below.refl _ _);rcases ah5 h G with ⟨s,A,f,x⟩|⟨s,A,f,x⟩
   .have hy: ∃z u,iK T cl call ops K (p.filterMap fun i=>ops[i]?) (A.put o.dst z)=a6 r/\dn c z u/\rC P ops (fun w=>q=true\/JP c w) o u a:=by
     cases q with
     |true=>
      obtain⟨z,u,k1,k2,k3⟩:=aFg hT f.ok (ai rfl) f.hp f.fr x;exact⟨z,u,k1,k2,.inl ⟨s,fun w _=>k3 w⟩⟩
     |false=>
      obtain⟨z,u,k1,k2,k3⟩:=DF hT f.ok hq f.hp f.fr x;exact⟨z,u,k1,k2,.inl ⟨s,fun w B=>k3 w (B.resolve_left (by simp))⟩⟩
    obtain⟨z,u,k1,k2,k3⟩:=hy;exact IA hd N U D Y m g a c.w ab X Z W V k3 (H7 hT E hd m _ p c (A.put o.dst z) (a.put o.dst u) I k1 (f.put k2) y)
   .exact IA hd N U D Y m g a c.w ab X Z W V (.inr ⟨s,rfl⟩) (H7 hT E hd m _ p c A (a.put o.dst undef) I x f y)
  simp only[xf]at d;split at d
  .rename_i O
   cases d;simp only[List.filterMap_nil,iK]at h;exact⟨fun _=>⟨rfl,y c st a h G (Cx.Mono.refl c)⟩,by rw[O];simp⟩
  .rename_i k rs O
   split at d
   .grind
   .split at d
    .grind
    .split at d
     .split at d
      .rename_i p I
       cases d;obtain⟨_,ok,ad,_⟩:=mem_ready.1 (show k∈Region.ready .any ops g by rw[O];simp);simp only[List.filterMap_cons,ad]at h;rw[NH]at h;refine wpAnyIn_all O (by simp) fun j hj=> ?_;obtain rfl:j=k:=by simpa using hj
       unfold wpOpIn;simp only[ad];rcases ah5 h G with ⟨s,A,f,x⟩|⟨s,A,f,x⟩
       .rw[am s];exact XI hT E x f fun c' z u M k1 k2 k3 k4=>H7 hT E hd m _ p c' (M.put ok.dst z) (a.put ok.dst u) I k1 (k2.put k3) fun al an ao q1 q2 q3=>y al an ao q1 q2 (k4.trans q3)
       .rw[aq (by rw[s];simp)];exact⟨tq ok c.w _,H7 hT E hd m _ p c A (a.put ok.dst undef) I x f y⟩
      .cases d
     .cases d
theorem Zp (hT:TOk P T) (i:P.follows .mixedOrders=true) {cl:Bool} {call:gY R} (j:nO P W0 n call) {id:Nat} {l:List Oper} (hp:alX ops=a6 l) {K:St->Option R} {Q:Exit->Act->World->Prop}
  (h:iK T cl call ops K l st=a6 r) (m:je W0 b0 rd c st a ats) (o: ∀c' d f,K d=a6 r->je W0 b0 rd c' d f ats->c.Mono c'->Q .normal f c'.w):
  (Code.region id ops true).wpIn (FW rd) n P Q a c.w:=by
 unfold alX at hp;rw[cond_eq_ite]at hp;split at hp
 .rename_i hd
  split at hp
  .rename_i p q
   cases hp;have g:JP c {c.w with drawn:=c.w.drawn+1}:=⟨rfl,rfl,rfl,ae _,fun _ _=>rfl⟩;have s:=H7 (Q:=fun a w=>Q .normal a w) hT j hd ops.size _ p (c.at_ {c.w with drawn:=c.w.drawn+1}) st a q h (m.ext g) fun c' d f k1 k2 k3=>o c' d f k1 k2 ((Cx.Le.ext g).mono.trans k3);exact Code.wpIn_mono (fun e a w u=>by simp_all) (wpIn_region_any i s)
  .cases hp
 .cases hp
end
end
section
open Option renaming some → a6, none → a7
open List renaming mem_cons_of_mem → au
open Nat renaming lt_of_lt_of_le → bz
open Go.RowKit
def xC {R:Type} (P:Program) (W0:World) (j:oH R):Prop:=
 ∀(f:FuncId) (g:List di) (st:St) (K:di->St->Option R) (r:R),j (.call f g) st K=a6 r->
  ∀(b0:Nat) (rd:Option Nat) (c:Cx) (a:Act) (ats:List (Array Value)) (d:Array Value),je W0 b0 rd c st a ats->bT c g d.toList->
   ∀h:Ending->World->Prop,(∀e z u i,K z i=a6 r->je W0 b0 rd e i a ats->dn e z u->c.Mono e->h (.returned u) e.w)->
    (callFunc f d).run P c.w=.ok (.enter f d) c.w/\Calls P f d c.w h
section
variable {P:Program} {T:TT} {W0:World} {b0 n:Nat} {rd:Option Nat} {c:Cx} {R:Type} {r:R} {st:St} {a:Act} {ats:List (Array Value)}
def Ex.xt:Ex->Exit
 |.normal=>.normal
 |.exit i=>.exit i
 |.goto l=>.goto l
 |.ret=>.ret
section
variable {F:Fence} {b:Frame} {k:List Item} {cs:List Frame} {w:World} {Q:Exit->Act->World->Prop}
theorem sU {x:Code}:step P (lone (b.atR a (.code (.scope x)::k)) cs w)=.next (lone (b.atR a (.code x:: .inScope x::k)) cs w):=
 step_lone_go (by rfl)
theorem Zz {x:Code}:step P (lone (b.atR a (.inScope x::k)) cs w)=.next (lone (b.atR a k) cs w):=
 step_lone_go (by rfl)
theorem amw {x:Code} (h:x.wpIn F n P (fun e a w=>(∀l,e≠ .goto l)/\Q e a w) a w):(Code.scope x).wpIn F n P Q a w:=by
 intro b k cs s m o;have d:(lone (b.atR a (.code (.scope x)::k)) cs w).fenced P F:=fenced_calm m o rfl;obtain⟨e,g,i,⟨B,j⟩,f⟩:=h b (.inScope x::k) cs s m o;cases e with
 |normal=>exact⟨.normal,g,i,j,.head d sU (StepsIn.trans f (.one (fenced_calm m o rfl) Zz))⟩
 |exit p=>
  have q:exitTo p (.inScope x::k)=exitTo p k:=by simp[exitTo]
  exact⟨.exit p,g,i,j,fun u hk=>.head d sU (f.1 u (by rw[q];exact hk)),
   fun v hk=>let⟨y,z,A⟩:=f.2 v (by rw[q];exact hk);⟨y,z,.head d sU A⟩⟩
 |goto l=>simp_all
 |ret=>exact⟨_,g,i,j,.of_steps (.one d sU) f⟩
 |panic D=>exact⟨_,g,i,j,.of_steps (.one d sU) f⟩
 |outgrown=>exact⟨_,g,i,j,.of_steps (.one d sU) f⟩
end
theorem ay9 (d:c.Ok W0):c.Le {c with w:=c.w.alloc (.deferred (a6 [])),mks:=c.w.heap.size::c.mks}/\({c with w:=c.w.alloc (.deferred (a6 [])),mks:=c.w.heap.size::c.mks}:Cx).Ok W0:=by
 have f:=oZ c.w (.deferred (a6 []));have j:c.Le {c with w:=c.w.alloc (.deferred (a6 [])),mks:=c.w.heap.size::c.mks}:=
  ⟨fun b g=>⟨⟨bz g.1 f.size,g.2.1,by
    intro p;rcases List.mem_cons.1 p with e|e
    .have:=g.1;omega
    .exact g.2.2 e⟩,f.block b g.1⟩,fun _ h=>h,fun id o _ i=>⟨o,i,o.like_refl _⟩,fun r l=>au _ l,fun b L m=>⟨L,(f.block b (Array.getElem?_eq_some_iff.1 m).1).trans m⟩,f.size,rfl⟩
 refine⟨j,⟨d.bel.trans (f.mono d.size),fun id o i=>(d.obj id o i).le j rfl fun b q=>f.block b ((d.obj id o i).lt q).2,d.inj,fun r l=> ?_,fun b f=>(j.out b (d.bar b f)).1,d.phi⟩⟩;rcases List.mem_cons.1 l with e|e
 .subst e;exact⟨d.size,World.alloc_heap_new _ _⟩
 .exact⟨(d.mks r e).1,(f.block r (d.mark_lt e)).trans (d.mks r e).2⟩
theorem aKt (g:c.Ok W0) {st:St} (h:c.hp=st.hp) (h2:c.nxt=st.nxt) {id n':Nat} (m:eG st.hp id=a7) (p:st.nxt<=id) (x:st.nxt<=n') {f:FuncId} {fr:List di} {L:Loop} (q:bT c fr L.tmps.toList) (s:L.state=.ready) (hp:L.pending=a7) {d:Option Nat} (u: ∀k,d=a6 k->uq f k=a6 (L.assign,L.body)):
  ∃c',Gg W0 c st c' {st with hp:=(id,.lp f fr L.params.toList L.assign L.body d 0 a7)::st.hp,nxt:=n'}/\c'.w=c.w.alloc (.loop L)/\dn c' (.yld id) (.func (.yield c.w.heap.size) #[] #[])/\c'.mks=c.mks:=by
 have hk:=DC h h2 m p;have e:=oZ c.w (.loop L);have i: ∀b,eu.blk (.lp f fr L.params.toList L.assign L.body d 0 a7) ⟨c.w.heap.size,undef⟩=a6 b->c.w.heap.size<=b:=fun b e=>by
  simp_all [eu.blk]
 have j:=Cx.Le.push (o:=.lp f fr L.params.toList L.assign L.body d 0 a7) (l:=⟨c.w.heap.size,undef⟩) (nxt:=n') (w:=c.w.alloc (.loop L)) hk (by omega) e.size e.block i;have v:(c.push id (.lp f fr L.params.toList L.assign L.body d 0 a7) ⟨c.w.heap.size,undef⟩ n' (c.w.alloc (.loop L))).ORel W0.heap.size id (.lp f fr L.params.toList L.assign L.body d 0 a7):=by
  refine⟨u,by simp[Cx.push,upd_same];exact g.size,L, ?_,bT.le j _ _ q,rfl,rfl,rfl,s,hp⟩;simp only[Cx.push,upd_same];exact World.alloc_heap_new c.w _
 refine⟨_,⟨?_,rfl,rfl,rfl,g.push hk (by omega) e i v,j⟩,rfl, ?_,rfl⟩
 .simp[Cx.push,h]
 .simp only[dn];refine⟨rfl,.inl ⟨_,by simp[Cx.push,fB];rfl⟩,fun _ _ _ _ _ _ _ _ _=>by simp[Cx.push,upd_same]⟩
theorem MK (g:c.Ok W0) {id:Nat} {f:FuncId} {fr:List di} {h:List Nat} {jr i:Code} {l:Option Nat} {k:Nat} {p:Option Ex} (s:eG c.hp id=a6 (.lp f fr h jr i l k p)) {L:Loop} (v:c.w.heap[(c.mu id).blk]? =a6 (.loop L)) (d:Loop)
  {o':eu} (u:o'=.dead\/(∃o q,o'=.lp f fr h jr i l o q/\atQ o q d/\d.tmps=L.tmps/\d.params=L.params/\d.assign=L.assign/\d.body=L.body)):
  ∃c',c'.hp=jB c.hp id o'/\c'.nxt=c.nxt/\c.Le c'/\c'.Ok W0/\c'.w=c.w.putObj (c.mu id).blk (.loop d)/\c'.mks=c.mks:=by
 have E:(c.mu id).blk<c.w.heap.size:=(Array.getElem?_eq_some_iff.1 v).1;obtain⟨G,I,J,x,K,M,N,O,e4⟩:=g.obj id _ s;rw[v]at x;have S:J=L:=by cases x;rfl
 subst S;have hk:(eu.lp f fr h jr i l k p).like (c.mu id) o' (c.mu id):=by
  rcases u with rfl|⟨o,q,rfl,_⟩<;>simp[eu.like]
 have y:c.w.heap.size<=(c.w.putObj (c.mu id).blk (.loop d)).heap.size:=by simp
 have m: ∀b,b<c.w.heap.size->(eu.lp f fr h jr i l k p).blk (c.mu id)≠a6 b->(c.w.putObj (c.mu id).blk (.loop d)).heap[b]? =c.w.heap[b]? :=fun b _ U=>
  World.putObj_heap_other fun e=>U (by rw[e];rfl)
 have z: ∀b,o'.blk (c.mu id)=a6 b->(eu.lp f fr h jr i l k p).blk (c.mu id)=a6 b\/c.w.heap.size<=b:=fun b m=>by
  rcases u with rfl|⟨o,q,rfl,_⟩
  .cases m
  .exact .inl m
 have A: ∀(b:Nat) (B:Loop),(eu.lp f fr h jr i l k p).blk (c.mu id)=a6 b->c.w.heap[b]? =a6 (Obj.loop B)-> ∃V:Loop,(c.w.putObj (c.mu id).blk (.loop d)).heap[b]? =a6 (Obj.loop V):=fun b B m _=>by
  grind [eu.blk,World.putObj_heap_same]
 have W:Below W0.heap.size W0 (c.w.putObj (c.mu id).blk (.loop d)):=
  ⟨g.bel.os,g.bel.tape,g.bel.output,by omega,fun j X=>(World.putObj_heap_other (by omega)).trans (g.bel.block j X)⟩
 have D:=Cx.Le.put g s hk y m z A;refine⟨c.put id o' (c.mu id) (c.w.putObj (c.mu id).blk (.loop d)),rfl,rfl,D,Cx.Ok.put g s hk W y m z A ?_,rfl,rfl⟩;rcases u with rfl|⟨o,q,rfl,Y,Z,h3,h4,h5⟩
 .trivial
 .refine⟨G,by simp only[Cx.put,upd_same];exact I,d, ?_,bT.le D _ _ (by rw[Z];exact K),by rw[h3];exact M,by rw[h4];exact N,by rw[h5];exact O,Y⟩;simp only[Cx.put,upd_same];exact World.putObj_heap_same E
end
end
section
open Option renaming some → a6, none → a7
open Go.RowKit
section
variable {T:TT} {cl:Bool} {R:Type} {r:R} {sg:FuncId->Option Sum}
theorem Df {dst:Option Nat} {o:eu} {st:St} {K:Nat->St->Option R} (h:alloc cl dst o st K=a6 r): ∃i d,K i d=a6 r:=by
 unfold alloc at h
 grind
theorem aIR {d:BinOp} {t:TypeId} {x y:di} {K:di->Option R} (h:agE T d t x y K=a6 r): ∃z,K z=a6 r:=by
 unfold agE at h;simp only[nV,cond_eq_ite]at h
 grind
theorem aCN {hp:iw} {d:BinOp} {t:TypeId} {x y:di} {K:di->Option R} (h:Wj T hp d t x y K=a6 r): ∃z,K z=a6 r:=by
 unfold Wj at h;simp only[cond_eq_ite]at h
 grind [aIR]
theorem aMS {d:UnOp} {x:di} {K:di->Option R} (h:awz d x K=a6 r): ∃z,K z=a6 r:=by
 unfold awz at h
 grind
theorem aCO {hp:iw} {t:TypeId} {a:di} {K:di->Option R} (h:Qc T hp t a K=a6 r): ∃z,K z=a6 r:=by
 unfold Qc at h
 grind
theorem aIS {d:iw} {st:St} {a v:di} {K:St->Option R} (h:agF d st a v K=a6 r): ∃z,K z=a6 r:=by
 unfold agF at h;simp only[cond_eq_ite]at h
 repeat' split at h
 all_goals first|cases h;done|exact⟨_,h⟩
theorem awE {st:St} {t:TypeId} {a v:di} {K:St->Option R} (h:NG T st t a v K=a6 r): ∃z,K z=a6 r:=by
 unfold NG at h;simp only[cond_eq_ite]at h
 repeat' split at h
 all_goals first|cases h;done|exact⟨_,h⟩
theorem ajO {s d:TypeId} {x:di} {hp:iw} {K:di->Option R} (h:Dc T s d x hp K=a6 r): ∃z,K z=a6 r:=by
 unfold Dc at h;simp only[nV,cond_eq_ite]at h
 grind
theorem awD {hp:iw} {t:TypeId} {x:di} {lo hi d:Option di} {K:di->Option R} (h:NF T hp t x lo hi d K=a6 r): ∃z,K z=a6 r:=by
 unfold NF at h;simp only[nV,cond_eq_ite]at h
 grind
theorem ab2 {hp:iw} {t:TypeId} {x:di} {f:Nat} {K:di->Option R} (h:wP T hp t x f K=a6 r): ∃z,K z=a6 r:=by
 unfold wP at h;simp only[cond_eq_ite]at h
 repeat' split at h
 all_goals first|cases h;done|exact⟨_,h⟩
theorem awC {t:TypeId} {x:di} {f:Nat} {K:di->Option R} (h:ND T t x f K=a6 r): ∃z,K z=a6 r:=by
 unfold ND at h
 repeat' split at h
 all_goals first|cases h;done|exact⟨_,h⟩
theorem ab3 {hp:iw} {t:TypeId} {x i:di} {K:di->Option R} (h:wQ T hp t x i K=a6 r): ∃z,K z=a6 r:=by
 unfold wQ at h;simp only[nV,cond_eq_ite]at h
 repeat' split at h
 all_goals first|cases h;done|exact⟨_,h⟩
theorem aIT {hp:iw} {t:TypeId} {x:di} {K:di->Option R} (h:agG T hp t x K=a6 r): ∃z,K z=a6 r:=by
 unfold agG at h;simp only[nV,cond_eq_ite]at h
 grind
theorem arP {dst:Option Nat} {t:TypeId} {s x:di} {st:St} {K:di->St->Option R} (h:Nz T cl dst t s x st K=a6 r): ∃z d,K z d=a6 r:=by
 unfold Nz at h;simp only[nV,cond_eq_ite]at h
 repeat' split at h
 all_goals first|cases h;done|exact⟨_,_,h⟩|grind [Df]
theorem ajM {dst:Option Nat} {t t':TypeId} {s x:di} {st:St} {K:di->St->Option R} (h:C9 T cl dst t t' s x st K=a6 r): ∃z d,K z d=a6 r:=by
 unfold C9 at h;simp only[nV,cond_eq_ite]at h
 repeat' split at h
 all_goals first|cases h;done|exact⟨_,_,h⟩|grind [Df]
theorem ajN {o:Oper} {b:Builtin} {d:List TypeId} {args:List di} {st:St} {K:di->St->Option R} (h:kV T cl o b d args st K=a6 r): ∃z e,K z e=a6 r:=by
 unfold kV at h;simp only[nV,cond_eq_ite]at h
 grind [aIT,arP,ajM]
def zW (sg:FuncId->Option Sum) (call:gY R):Prop:= ∀g s d e st (K:di->St->Option R) r,sg g=a6 s->call (.fn g []) d e st K=a6 r-> ∃z f,K z f=a6 r
theorem awF {s:Sum} {args:List di} {dst:Option Nat} {st:St} {K:di->St->Option R} (h:s.call cl args dst st K=a6 r): ∃z d,K z d=a6 r:=by
 unfold Sum.call at h;simp only[cond_eq_ite]at h;split at h
 .split at h
  .rename_i x e
   cases hf:s.f x with
   |none=>simp_all [bK]
   |some y=>
    grind [bK,Df]
  .cases h
 .cases h
theorem amU {call:gY R} (hx:zW sg call) {o:Oper} {st:St} {K:di->St->Option R} (hp:yh sg o.op=true) (h:fE T cl call o st K=a6 r): ∃z d,K z d=a6 r:=by
 obtain⟨j,e,l,m,p,q⟩:=o;cases e with
 |call c=>
  simp only[fE]at h;simp only[yh]at hp;split at h
  .exact ajN h
  .rename_i f i
   rw[i]at hp;cases f with
   |func g=>
    simp only at hp;cases hs:sg g with
    |none=>simp_all
    |some s=>exact hx g s _ _ _ _ _ hs h
   |_=>simp at hp
  .cases h
 |store t x y=>
  grind [fE,awE,aIS]
 |_=>
  simp only[fE,nV,cond_eq_ite]at h
  repeat' split at h
  all_goals first
   |cases h;done
   |exact⟨_,_,h⟩
   |(obtain⟨_,_,h⟩:=Df h;exact⟨_,_,h⟩)
   |(obtain⟨_,_,h⟩:=Df h;obtain⟨_,_,h⟩:=Df h;exact⟨_,_,h⟩)
   |(obtain⟨_,h⟩:=aCO h;exact⟨_,_,h⟩)
   |(obtain⟨_,h⟩:=aCN h;exact⟨_,_,h⟩)
   |(obtain⟨_,h⟩:=aMS h;exact⟨_,_,h⟩)
   |(obtain⟨_,h⟩:=ajO h;exact⟨_,_,h⟩)
   |(obtain⟨_,h⟩:=awD h;exact⟨_,_,h⟩)
   |(obtain⟨_,h⟩:=ab2 h;exact⟨_,_,h⟩)
   |(obtain⟨_,h⟩:=awC h;exact⟨_,_,h⟩)
   |grind [ab3]
theorem abL {E:Env} {d:oH R}:zW E.sg (yU E d):=fun g s e f st K r i h=>by
 grind [yU,awF]
theorem aL3:zW (R:=R) sg (JZ sg cl):=fun g s e f st K r d h=>by
 simp only[JZ,d]at h;exact awF (dN h).2
theorem asz {o:Op} (h:iO o=true):yh sg o=true:=by
 cases o with
 |call c=>
  grind [iO,yh]
 |_=>rfl
theorem Lj {call:gY R} (hx:zW sg call) {ops:Array Oper} {d:List di}: ∀(l:List Nat) {st:St} {K:St->Option R},A8 T cl call ops d l st K=a6 r-> ∃e,K e=a6 r
 |[],st,K,h=>⟨st,h⟩
 |i::l,st,K,h=>by
  simp only[A8]at h;split at h
  .rw[cond_eq_ite]at h;split at h
   .rename_i f
    obtain⟨_,_,h⟩:=amU hx (asz f) h;exact Lj hx l (dN h).2
   .exact Lj hx l (dN h).2
  .cases h
theorem ab4 {call:gY R} (hx:zW sg call) {ops:Array Oper} (hp: ∀o∈ops.toList,yh sg o.op=true) {j:Nat} {log:List Nat} {st:St} {K:St->Option R} (h:wU T cl call ops j log st K=a6 r): ∃d,K d=a6 r:=by
 unfold wU at h;split at h
 .rename_i e f
  obtain⟨_,_,h⟩:=amU hx (hp e (by grind)) (dN h).2
  grind [Lj]
 .cases h
theorem Zf {d e:Type} {o:Option d} {k:d->Option e} {y:e} (h:bK o k=a6 y): ∃x,o=a6 x/\k x=a6 y:=by
 cases o with
 |none=>simp[bK]at h
 |some x=>exact⟨x,rfl,h⟩
theorem Bv {k:Option R} {r:R}: ∀(l:List (Option Unit)),Vt l k=a6 r->k=a6 r/\ ∀x∈l,x=a6 ()
 |[],h=>⟨h,fun _ d=>by cases d⟩
 |o::l,h=>by
  simp only[Vt]at h;obtain⟨⟨⟩,f,e⟩:=Zf h;obtain⟨g,i⟩:=Bv l e
  grind
theorem Wl {ops:Array Oper} (hp: ∀o∈ops.toList,yh sg o.op=true) {m:gY St} {p:gY Unit} (e:zW sg m) (f:zW sg p): ∀(n:Nat) {R:Type} {r:R} {call:gY R},zW sg call-> ∀(l:Array Bool) (log:List Nat) (st:St) (K:St->Option R),
  nR T cl sg m p ops n call l log st K=a6 r-> ∃s,K s=a6 r
 |0,R,r,call,d,l,log,st,K,h=>by simp[nR]at h
 |n+1,R,r,call,d,l,log,st,K,h=>by
  have q: ∀{i:Nat} {g:Oper},ops[i]? =a6 g->yh sg g.op=true:=fun {i g} j=>hp g (by grind);simp only[nR]at h;split at h
  .exact⟨st,h⟩
  .split at h
   .split at h
    .rename_i j
     obtain⟨_,_,h⟩:=amU d (q j) (dN h).2;exact Wl hp e f n d _ _ _ _ h
    .cases h
   .split at h
    .split at h
     .rename_i j
      obtain⟨_,_,h⟩:=amU (aL3 (sg:=sg)) (q j) (dN h).2;exact Wl hp e f n d _ _ _ _ h
     .cases h
    .split at h
     .obtain⟨_,h⟩:=ab4 d hp h;exact Wl hp e f n d _ _ _ _ h
     .rw[cond_eq_ite]at h;split at h
      .grind
      .obtain⟨_,h⟩:=ab4 d hp h;obtain⟨_,h⟩:=Wl hp e f n d _ _ _ _ h;replace h:=(dN h).2
       grind [Bv]
end
end
section
open Option renaming some → a6, none → a7
open Bool renaming and_eq_true → af, false_eq_true → ag, not_false → az, and_true → aA, true_and → aG, not_eq_true → bg
open List renaming mem_cons_of_mem → au, map_cons → ax, mem_cons_self → aK, length_map → aP, all_cons → aY
open Nat renaming le_refl → ae, eq_of_beq_eq_true → aj
open Go.RowKit
section
variable {P:Program} {T:TT} {W0:World} {b0 n:Nat} {rd:Option Nat} {c:Cx} {st:St} {a:Act} {sg:FuncId->Option Sum} {cl:Bool} {ats:List (Array Value)} {ops:Array Oper}
def uJ:(t:Ty)->t.den->List Value
 |.unit,_=>[]
 |.bool,x=>[.bool x]
 |.int k,x=>[.int k x]
 |.str,x=>[.string ⟨x.toArray⟩]
 |.list _,_=>[]
 |.pair a b,x=>uJ a x.1++uJ b x.2
theorem xh {w:World} {fr:Nat->Prop}: ∀(t:Ty) (x:t.den),t.rigid=true-> ∀cs,fZ w fr t x cs↔cs=uJ t x
 |.unit,x,_,cs=>by rfl
 |.bool,x,_,cs=>by rfl
 |.int k,x,_,cs=>by rfl
 |.str,x,_,cs=>by rfl
 |.list t,x,h,cs=>by simp[Ty.rigid]at h
 |.pair a b,x,h,cs=>by
  simp only[Ty.rigid,af]at h;simp only[fZ,uJ,xh a x.1 h.1,xh b x.2 h.2];simp
def Nl (t:Ty) (x:t.den):Value:=if t.isAgg then .agg (uJ t x).toArray else(uJ t x).headD undef
theorem VD.rigid {t:Ty} {x:t.den} (h:t.rigid=true) (v:Value):VD c t x v↔v=Nl t x:=by
 cases ha:t.isAgg with
 |true=>
  rw[VD.agg ha];simp only[Nl,ha,if_true,xh t x h];constructor
  .rintro ⟨cs,rfl,d⟩;rw[<-d]
  simp_all
 |false=>
  rw[VD.leaf ha,xh t x h];have: ∃u,uJ t x=[u]:=by cases t<;>first|exact⟨_,rfl⟩|(simp[Ty.rigid]at h;done)|grind [Ty.isAgg]
  grind [Nl]
def rv1:di->Value
 |.val t x=>Nl t x
 |_=>undef
def rv:di->Value
 |.tup l=>.tuple (l.map rv1).toArray
 |v=>rv1 v
theorem apl {v:di} (h:v.rigid=true) (u:Value):dn c v u↔u=rv1 v:=by
 cases v<;>simp only[di.rigid,ag]at h;simp_all [dn,rv1,VD.rigid]
theorem apm: ∀(l:List di),l.all di.rigid=true-> ∀us,bT c l us↔us=l.map rv1
 |[],_,[]=>by simp[bT]
 |[],_,u::us=>by simp[bT]
 |v::l,_,[]=>by simp[bT]
 |v::l,h,u::us=>by
  simp only[aY,af]at h;simp only[bT,apl h.1,apm l h.2,ax,List.cons.injEq]
theorem MJ {v:di} (h:v.rigidR=true) (u:Value):dn c v u↔u=rv v:=by
 cases v with
 |tup l=>
  simp only[di.rigidR]at h;simp only[dn,rv,apm l h];constructor
  .rintro ⟨e,rfl,d⟩;rw[<-d]
  simp_all
 |val t x=>exact apl (v:=.val t x) h u
 |_=>simp[di.rigidR,di.rigid]at h
theorem MN (id:Nat): ∀(rs:List (Ty×Bool)) y,(rs.all fun r=> !r.2&&r.1.rigid)=true->(qK id rs y).all di.rigid=true
 |[],_,_=>rfl
 |(t,true)::rs,y,h=>by simp at h
 |(t,false)::rs,y,h=>by
  simp only[aY,az,aG,af]at h;simp only[qK,aY,di.rigid,h.1,aG];exact MN id rs y.2 h.2
theorem X3: ∀(l:List di),l.all di.rigid=true->(QW l).rigidR=true
 |[],_=>rfl
 |[v],h=>by
  simp only[aY,List.all_nil,aA]at h;cases v<;>simp only[di.rigid,ag]at h;exact h
 |v::d::l,h=>h
theorem bT.mk {c:Cx}: ∀(l:List di) (xs:List Value),l.length=xs.length->(∀(i:Nat) (h:i<l.length) (e:i<xs.length),dn c l[i] xs[i])->bT c l xs
 |[],[],_,_=>by simp[bT]
 |[],_::_,h,_=>by simp at h
 |_::_,[],h,_=>by simp at h
 |v::l,x::xs,h,d=>by
  simp only[bT];exact⟨d 0 (by simp) (by simp),bT.mk l xs (by simpa using h) fun i f g=>by
   have:=d (i+1) (by simp;omega) (by simp;omega);simpa using this⟩
def xx (ops:Array Oper) (k:Nat):Option Nat:=(ops[k]?).bind (·.dst)
def gV (ops:Array Oper) (a:Act):List (Nat×Value)->Act
 |[]=>a
 |(k,v)::l=>(gV ops a l).put (xx ops k) v
theorem Cj (a:Act): ∀(q l:List (Nat×Value)),gV ops a (q++l)=gV ops (gV ops a l) q
 |[],l=>rfl
 |(k,v)::q,l=>by simp only[List.cons_append,gV];rw[Cj a q l]
theorem Cm (a:Act): ∀l,(gV ops a l).defers=a.defers
 |[]=>rfl
 |(k,v)::l=>by rw[gV,put_defers,Cm a l]
theorem xg (a:Act): ∀l,(gV ops a l).tmps.size=a.tmps.size
 |[]=>rfl
 |(k,v)::l=>by
  rw[gV];cases xx ops k with
  |none=>exact xg a l
  |some d=>simp only[Act.put,Array.size_setIfInBounds];exact xg a l
def atP (ops:Array Oper) (x y:Oper):Prop:= ∀d,y.dst=a6 d->d∉x.looksAt ops/\x.dst≠a6 d
theorem Qm {x y:Oper} (h:IX ops x y=true):atP ops x y:=fun d hd=>by
 simp_all [IX]
theorem zC (a:Act) {d:Option Nat} {v:Value}: ∀(l:List (Nat×Value)),(∀m∈l.map (·.1),∀e,xx ops m=a6 e->d≠a6 e)->gV ops (a.put d v) l=(gV ops a l).put d v
 |[],_=>rfl
 |(k,u)::l,h=>by
  rw[gV,gV,zC a l fun m f=>h m (au _ f)];simp_all [Act.put_comm]
theorem Gx (a:Act) {o:Oper} (d: ∀cs b,o.op≠ .select cs b): ∀(l:List (Nat×Value)),(∀m∈l.map (·.1),∀e,xx ops m=a6 e->e∉o.looksAt ops)->execOp (gV ops a l).eval o=execOp a.eval o
 |[],_=>rfl
 |(k,u)::l,h=>by
  rw[gV,execOp_put (ops:=ops) o d _ _ _ (h k aK)];exact Gx a d l fun m f=>h m (au _ f)
def iU (ops:Array Oper) (lA:Array Bool) (log:List Nat):List Nat->Prop
 |[]=>True
 |k::l=>iU ops lA log l/\lA.getD k true=false/\k∈log/\k∉l/\ ∃ok,ops[k]? =a6 ok/\kD ok.op=true/\ok.guard=a7/\(∀d,ok.dst=a6 d->d∉ok.looksAt ops)/\
   (∀e∈ok.after,Region.binds .any e=true->lA.getD e.on false=true\/e.on∈l)/\
   (∀m∈l,∃f,ops[m]? =a6 f/\atP ops f ok/\(wz ops k m=false->f.apart ops ok=true))
def KT (rd:Option Nat) (n:Nat) (P:Program) (c:Cx) (a:Act) (o:Oper) (v:Value):Prop:= ∀d,JP c d->o.quietAtIn (FW rd) n P a (JP (c.at_ d)) d v
theorem KT.congr {a d:Act} {o:Oper} {v:Value} (h:execOp d.eval o=execOp a.eval o) (e:KT rd n P c a o v):KT rd n P c d o v:=fun f g=>by
 have:=e f g;simp_all [Oper.quietAtIn]
theorem KT.of_run {a:Act} {o:Oper} {v:Value} (h: ∀w',JP c w'->(execOp a.eval o).run P w'=.ok (.value v) w'):KT rd n P c a o v:=fun w' d=>by
 unfold Oper.quietAtIn;rw[h w' d];exact⟨rfl,rfl⟩
theorem KT.ext {a:Act} {o:Oper} {v:Value} {w:World} (d:JP c w) (h:KT rd n P c a o v):KT rd n P (c.at_ w) a o v:=fun e f=>h e (Below.trans d (f.mono d.size))
theorem KT.wpOp {a:Act} {i:Nat} {o:Oper} {v:Value} (hd:nX ops=true) (hi:ops[i]? =a6 o) (m:o.guard=a7) (h:KT rd n P c a o v) {Q:Exit->Act->World->Prop} {K:Act->World->Prop} (l: ∀w',JP c w'->K (a.put o.dst v) w'):wpOpIn (FW rd) n P ops Q i K a c.w:=by
 unfold Go.wpOpIn;simp only[hi];rw[am (by simp[Region.wanted,m])];refine⟨tq o c.w _, ?_⟩;rw[zF (qo hd i o hi).1];have d:=h c.w (Below.refl _ _);unfold Oper.quietAtIn at d;generalize (execOp a.eval o).run P c.w=x at d ⊢
 match x,d with
 |.ok (.value u) w',d=>
  obtain⟨g,j⟩:=d;subst g j;exact l _ (Below.refl _ _)
 |.ok .skip w',d=>
  obtain⟨g,j⟩:=d;subst g j;exact l _ (Below.refl _ _)
 |.ok (.enter f z) w',d=>
  obtain⟨g,j,p⟩:=d;subst g;refine⟨j,CallsIn.mono p fun e A q=> ?_⟩;obtain⟨s,y⟩:=q;subst s;exact l _ y
def lw (rd:Option Nat) (n:Nat) (P:Program) (ops:Array Oper) (c:Cx) (a:Act):List (Nat×Value)->Prop
 |[]=>True
 |(k,v)::l=>lw rd n P ops c a l/\ ∃ok,ops[k]? =a6 ok/\KT rd n P c (gV ops a l) ok v
theorem lw.ext {w:World} (d:JP c w) {a:Act}: ∀{l:List (Nat×Value)},lw rd n P ops c a l->lw rd n P ops (c.at_ w) a l
 |[],_=>trivial
 |(k,v)::l,h=>⟨lw.ext d h.1,let⟨ok,e,f⟩:=h.2;⟨ok,e,f.ext d⟩⟩
def wE (sg:FuncId->Option Sum) (cl:Bool) (o:Oper) (fr:List di) (z:di):Prop:=
 kD o.op=true/\(∃e i,o.op=.call e/\e.callee=.value i)/\z.rigidR=true/\(∀d,o.dst=a6 d->z=fr.getD d .undef)/\
  ∃f g,jW o fr=f::g/\ ∀(j:Option Nat) (h:St) (K:di->St->Option Unit),JZ sg cl f g j h K=K z h
theorem Vz (hT:TOk P T) (g:oM (R:=Unit) P (JZ sg cl)) {o:Oper} {z:di} {e:List di} (i:wE sg cl o e z) (j:jW o e=jW o st.fr) {a:Act} (l:je W0 b0 rd c st a ats):dn c z (rv z)/\KT rd n P c a o (rv z):=by
 obtain⟨m,⟨x,y,A,B⟩,f,_,D,E,p,G⟩:=i;rw[j]at p;refine⟨(MJ f _).2 rfl,fun q s=> ?_⟩
 classical
 have h:fE T cl (JZ sg cl) o st (fun d _=>if d=z then a6 ()else a7)=a6 ():=by
  simp_all [jW,fE]
 obtain⟨d,v,g1,g2,g3⟩:=ah6 (n:=n) hT g m h (l.ext s);have u:d=z:=by
  simp_all
 rw[u]at g2;rw[<-(MJ f v).1 g2];exact g3 q (Below.refl _ _)
def PT (sg:FuncId->Option Sum) (cl:Bool) (ops:Array Oper) (fr:List di) (l:List Nat):Prop:= ∀k∈l,∀ok,ops[k]? =a6 ok->iO ok.op=false-> ∃z,wE sg cl ok fr z
theorem Qr {l:Array Bool} {m:Nat} (d:l.getD m false=true) (h2:l.getD m true=false):False:=by
 grind
theorem aiW {lA:Array Bool} {j m:Nat} (f:j∈Region.ready .any ops lA) (i:lA.getD m true=false):wz ops j m=false:=by
 obtain⟨_,g,h,l⟩:=mem_ready.1 f;unfold wz;rw[h];cases d:g.after.any fun e=>Region.binds .any e&&Nat.beq e.on m with
 |false=>exact d
 |true=>
  obtain⟨e,o,d⟩:=Array.any_eq_true'.1 d;simp only[af]at d
  grind [aj]
theorem iU.un {lA:Array Bool} {log:List Nat}: ∀{l:List Nat},iU ops lA log l-> ∀k∈l,lA.getD k true=false
 |k::l,h,m,d=>by
  rcases List.mem_cons.1 d with e|d
  .rw[e];exact h.2.1
  .exact iU.un h.1 m d
theorem iU.log {lA:Array Bool} {log:List Nat}: ∀{l:List Nat},iU ops lA log l-> ∀k∈l,k∈log
 |k::l,h,m,d=>by
  rcases List.mem_cons.1 d with e|d
  .rw[e];exact h.2.2.1
  .exact iU.log h.1 m d
theorem iU.mono {lA:Array Bool} {log d:List Nat} (hl: ∀k∈log,k∈d): ∀{l:List Nat},iU ops lA log l->iU ops lA d l
 |[],_=>trivial
 |k::l,h=>⟨iU.mono hl h.1,h.2.1,hl _ h.2.2.1,h.2.2.2⟩
theorem iU.set {lA:Array Bool} {log:List Nat} {j:Nat}: ∀{l:List Nat},iU ops lA log l->j∉l->iU ops (lA.setIfInBounds j true) log l
 |[],_,_=>trivial
 |k::l,h,d=>by
  obtain⟨f,g,i,m,ok,o,p,q,s,u,v⟩:=h;refine⟨iU.set f fun h=>d (au _ h), ?_,i,m,ok,o,p,q,s,fun e x y=> ?_,v⟩
  .rw[getD_set_ne true (fun e=>d (by rw[e];exact aK))];exact g
  .exact(u e x y).imp getD_set_true fun h=>h
theorem zG {lA:Array Bool} {j:Nat} (d:j<lA.size):(lA.setIfInBounds j true).getD j false=true:=by simp[d]
theorem iU.take {lA:Array Bool} {log:List Nat} {k:Nat} (hk:k<lA.size): ∀{l:List Nat},iU ops lA log l->k∈l->iU ops (lA.setIfInBounds k true) log (l.erase k)
 |m::l,h,d=>by
  obtain⟨f,g,i,j,ok,o,p,q,s,z,u⟩:=h;by_cases e:m=k
  .simp_all [iU.set]
  .rw[List.erase_cons_tail (by simpa using e)];have v:k∈l:=(List.mem_cons.1 d).resolve_left fun h=>e h.symm;refine⟨iU.take hk f v, ?_,i,fun h=>j (List.mem_of_mem_erase h),ok,o,p,q,s,fun A B D=> ?_,fun x y=>u x (List.mem_of_mem_erase y)⟩
   .rw[getD_set_ne true (fun h=>e h.symm)];exact g
   grind [getD_set_true,zG]
theorem wO {k:Nat} {o:Oper} (h:ops[k]? =a6 o):xx ops k=o.dst:=by simp[xx,h]
theorem lw.put {a:Act} {c:Cx} (hd:nX ops=true) {d:Option Nat} {v:Value}: ∀{l:List (Nat×Value)},lw rd n P ops c a l->
  (∀m∈l.map (·.1),∃f,ops[m]? =a6 f/\(∀e,f.dst=a6 e->d≠a6 e)/\(∀e,d=a6 e->e∉f.looksAt ops))->lw rd n P ops c (a.put d v) l
 |[],_,_=>trivial
 |(k,u)::l,h,i=>by
  obtain⟨o,ok,g,p⟩:=h;refine⟨lw.put hd o fun m j=>i m (au _ j),ok,g,p.congr ?_⟩;obtain⟨f,g1,g2,g3⟩:=i k aK;rw[g]at g1;cases g1;rw[zC a l fun m j e q=> ?_,execOp_put (ops:=ops) ok (qo hd k ok g).2 _ _ _ g3]
  grind [wO]
theorem aaK {a:Act} {c:Cx} (hd:nX ops=true) {lA:Array Bool} {log:List Nat} {k:Nat} {ok:Oper} (g:ops[k]? =a6 ok) (hk:k∈Region.ready .any ops lA):
  ∀{l:List (Nat×Value)},iU ops lA log (l.map (·.1))->lw rd n P ops c a l->k∈l.map (·.1)->
   ∃v d,KT rd n P c a ok v/\d.map (·.1)=(l.map (·.1)).erase k/\lw rd n P ops c (a.put ok.dst v) d/\gV ops (a.put ok.dst v) d=gV ops a l
 |(m,u)::l,s,y,z=>by
  obtain⟨A,J,K,L,B,f,M,N,O,S,U⟩:=s;obtain⟨i,V,j,o⟩:=y;rw[f]at j;cases j;by_cases e:m=k
  .subst e;rw[g]at f;cases f;have W: ∀x∈l.map (·.1),∃p,ops[x]? =a6 p/\p.apart ops ok=true:=fun x D=>by
    grind [aiW,iU.un]
   refine⟨u,l,o.congr ?_,by simp,lw.put hd i fun x D=> ?_, ?_⟩
   .grind [Gx,qo,Oper.apart_spec,wO]
   .grind [Oper.apart_spec]
   grind [gV,wO,zC,Oper.apart_spec]
  .have E:k∈l.map (·.1):=(List.mem_cons.1 z).resolve_left fun h=>e h.symm;obtain⟨v,d,G,X,I,q⟩:=aaK hd g hk A i E;refine⟨v,(m,u)::d,G, ?_,⟨I,B,f,by rw[q];exact o⟩,by rw[gV,gV,q]⟩;simp_all
theorem CZ {d:Type} {f:d->d->Bool} (hf: ∀x y,f x y=true->x=y): ∀(a b:List d),yY f a b=true->a=b
 |[],[],_=>rfl
 |[],_::_,h=>by simp[yY]at h
 |_::_,[],h=>by simp[yY]at h
 |x::l,y::m,h=>by
  simp only[yY,af]at h;rw[hf x y h.1,CZ hf l m h.2]
theorem Qb: ∀(t:Ty) (x y:t.den),eqD t x y=true->x=y
 |.unit,(),(),_=>rfl
 |.bool,x,y,h=>by simpa [eqD] using h
 |.int _,x,y,h=>by simpa [eqD,bZ] using h
 |.str,x,y,h=>by simpa [eqD,gm] using h
 |.list t,x,y,h=>CZ (Qb t) x y h
 |.pair a b,x,y,h=>by
  simp only[eqD,af]at h;exact Prod.ext (Qb a _ _ h.1) (Qb b _ _ h.2)
theorem awt {t u:Ty} {x:t.den} {y:u.den} (h:(match kY t y with|some y=>eqD t x y|none=>false)=true): ∃e:u=t,x=cast (congrArg Ty.den e) y:=by
 grind [nM,Qb]
theorem arL {a b:Option (Int×Int)} (h:ajL a b=true):a=b:=by
 cases a<;>cases b<;>simp_all [ajL,bZ,Prod.ext_iff]
theorem lm {a b:Nat} (h:Nat.beq a b=true):a=b:=aj h
mutual
theorem awx: ∀(a b:di),YY a b=true->a=b
 |.undef,b,h=>by grind [YY]
 |.val t x,b,h=>by
  cases b<;>simp only[YY,ag]at h;obtain⟨e,h⟩:=awt h;simp_all
 |.nils,b,h=>by grind [YY]
 |.nilp,b,h=>by grind [YY]
 |.nilfn,b,h=>by grind [YY]
 |.emp,b,h=>by grind [YY]
 |.tup l,b,h=>by
  cases b<;>simp only[YY,ag]at h;rw[tK l _ h]
 |.agg l,b,h=>by
  cases b<;>simp only[YY,ag]at h;rw[tK l _ h]
 |.cellp t x,b,h=>by
  cases b<;>simp only[YY,ag]at h;obtain⟨e,h⟩:=awt h;simp_all
 |.lst t x n,b,h=>by
  cases b<;>simp only[YY,ag,af]at h;obtain⟨j,d⟩:=h;split at d
  .rename_i z g
   obtain⟨e,p⟩:=nM g;have q:=Qb (.list t) x z d
   grind
  .cases d
 |.ptr i o,b,h=>by
  cases b<;>simp only[YY,ag,af]at h;simp_all
 |.slc i v w,b,h=>by
  cases b<;>simp only[YY,ag,af]at h
  grind [lm,arL]
 |.ep i v m o,b,h=>by
  cases b<;>simp only[YY,ag,af]at h;rw[lm h.1,lm h.2.1,lm h.2.2.1,lm h.2.2.2]
 |.fn f l,b,h=>by
  cases b<;>simp only[YY,ag,af]at h;rw[lm h.1,tK l _ h.2]
 |.mfn f l,b,h=>by
  cases b<;>simp only[YY,ag,af]at h;rw[lm h.1,tK l _ h.2]
 |.mpv i,b,h=>by
  cases b<;>simp only[YY,ag]at h;rw[lm h]
 |.yld i,b,h=>by
  cases b<;>simp only[YY,ag]at h;rw[lm h]
 |.slf i,b,h=>by
  cases b<;>simp only[YY,ag]at h;rw[lm h]
 |.sd i v,b,h=>by
  cases b<;>simp only[YY,ag,af]at h;simp_all
theorem tK: ∀(a b:List di),Lh a b=true->a=b
 |[],[],_=>rfl
 |[],_::_,h=>by simp[Lh]at h
 |_::_,[],h=>by simp[Lh]at h
 |a::l,b::m,h=>by
  simp only[Lh,af]at h;rw[awx a b h.1,tK l m h.2]
end
theorem qM: ∀(B:List Nat) (fr:List di),(qH ops B fr).length=fr.length
 |[],_=>rfl
 |i::B,fr=>by
  simp only[qH];split
  .rw[List.length_set];exact qM B fr
  .exact qM B fr
theorem agi {k d:Nat} {B:List Nat} {fr:List di} (h:xx ops k=a6 d):qH ops (k::B) fr=(qH ops B fr).set d .undef:=by
 have e:(ops[k]?).bind (·.dst)=a6 d:=h;simp only[qH,e]
theorem agh {k:Nat} {B:List Nat} {fr:List di} (h:xx ops k=a7):qH ops (k::B) fr=qH ops B fr:=by
 have d:(ops[k]?).bind (·.dst)=a7:=h;simp only[qH,d]
theorem ZI: ∀(B:List Nat) (fr:List di) (i:Nat) (h:i<fr.length) (e:i<(qH ops B fr).length),(qH ops B fr)[i]=.undef\/((qH ops B fr)[i]=fr[i]/\ ∀k∈B,xx ops k≠a6 i)
 |[],fr,i,h,e=>.inr ⟨rfl,fun k hk=>by cases hk⟩
 |k::B,fr,i,h,e=>by
  have f:=qM (ops:=ops) B fr;have g:=ZI B fr i h (by rw[f];exact h);cases hd:xx ops k with
  |some d=>
   simp only[agi hd]
   grind
  |none=>
   simp_all [agh]
theorem aLe (X:Act) (d:Option Nat) (v:Value) (i:Nat) (e:d≠a6 i) (h:i<(X.put d v).tmps.size) (f:i<X.tmps.size):(X.put d v).tmps[i]=X.tmps[i]:=by
 cases d with
 |none=>rfl
 |some d=>
  simp_all [Act.put]
theorem aaM (a:Act) (i:Nat): ∀(l:List (Nat×Value)),(∀k∈l.map (·.1),xx ops k≠a6 i)-> ∀(h:i<(gV ops a l).tmps.size) (d:i<a.tmps.size),(gV ops a l).tmps[i]=a.tmps[i]
 |[],_,h,d=>rfl
 |(k,v)::l,hk,h,d=>by
  have e:i<(gV ops a l).tmps.size:=by rw[xg];exact d
  rw[<-aaM a i l (fun m f=>hk m (au _ f)) e d];exact aLe _ _ _ _ (hk k aK) h e
theorem aqN {c:Cx} {fr:List di} {l:List (Nat×Value)} {B:List Nat} (h:bT c fr (gV ops a l).tmps.toList) (j: ∀k∈l.map (·.1),k∈B):bT c (qH ops B fr) a.tmps.toList:=by
 have g:=bT.length _ _ h;rw[Array.length_toList (xs:=(gV ops a l).tmps),xg]at g;refine bT.mk _ _ (by simp_all [qM]) fun i d f=> ?_;rw[qM]at d;have f:i<a.tmps.size:=by simpa using f
 rcases ZI (ops:=ops) B fr i d (by assumption)with e|⟨e,hk⟩
 .rw[e];simp[dn]
 .rw[e];have:=bT.get _ _ h i d (by simp_all [xg])
  grind [aaM]
theorem Ti {o:Oper} (h:kD o.op=true): ∀cs b,o.op≠ .select cs b:=fun cs b e=>by simp_all [kD]
theorem asA {d:Op} (h:iO d=true):kD d=true:=by
 cases d<;>first|exact h|skip
 rename_i e
 obtain⟨f,g,i⟩:=e;cases f with
 |builtin b=>cases b<;>first|exact h|(simp[iO]at h)
 |value v=>rfl
 |invoke x m=>simp[iO]at h
def atO (T:TT) (cl:Bool) {R:Type} (call:gY R) (ops:Array Oper) (d:List di) (st:St) (k:Nat):Prop:=∃ok,ops[k]? =a6 ok/\((iO ok.op=true/\ ∃(r:R) (K:St->Option R),(fE T cl call ok st fun z s=>cond (sameAt ok.dst z st) (K s) a7)=a6 r)\/ (iO ok.op=false/\jW ok d=jW ok st.fr/\CG ok.dst d=CG ok.dst st.fr))
theorem Fg {R:Type} {r:R} (hT:TOk P T) {call:gY R} {g:List di} {K:St->Option R} (f:je W0 b0 rd c st a ats): ∀(B:List Nat),
  A8 T cl call ops g B st K=a6 r->K st=a6 r/\ ∀k∈B,atO T cl call ops g st k
 |[],h=>⟨h,fun k hk=>by cases hk⟩
 |k::B,h=>by
  simp only[A8]at h;split at h
  .rename_i ok j
   cases hq:iO ok.op with
   |true=>
    rw[hq]at h;simp only[aa]at h;have l:=h;obtain⟨z,u,g1,g2,g3⟩:=DF hT f.ok hq f.hp f.fr h;replace g1:=dN g1;obtain⟨g4,g5⟩:=Fg hT f B g1.2;refine⟨g4,fun m d=> ?_⟩;rcases List.mem_cons.1 d with e|d
    .exact⟨ok,by rw[e];exact j,.inl ⟨hq,r,fun _=>A8 T cl call ops g B st K,l⟩⟩
    .exact g5 m d
   |false=>
    rw[hq]at h;simp only[ac]at h;replace h:=dN h;obtain⟨i,h⟩:=h;simp only[af]at i;obtain⟨g4,g5⟩:=Fg hT f B h;refine⟨g4,fun m d=> ?_⟩;rcases List.mem_cons.1 d with e|d
    .exact⟨ok,by rw[e];exact j,.inr ⟨hq,tK _ _ i.1,tK _ _ i.2⟩⟩
    .exact g5 m d
  .cases h
theorem wE.same {o:Oper} {fr e:List di} {z:di} (h:wE sg cl o fr z) (p:jW o fr=jW o e) (h2:CG o.dst fr=CG o.dst e):wE sg cl o e z:=by
 obtain⟨f,g,i,q,j,l,s,m⟩:=h;refine⟨f,g,i,fun d hd=> ?_,j,l,by simp_all,m⟩;simp_all [CG]
theorem aif {d:Nat} {z:di} (h:z=st.fr.getD d .undef):st.put (a6 d) z=st:=by
 obtain⟨fr,e,f,g⟩:=st;simp only[St.put];have:fr.set d z=fr:=by
  subst h;apply List.ext_getElem
  all_goals grind
 rw[this]
theorem aFh (X:Act) (d:Option Nat) (v u:Value):(X.put d v).put d u=X.put d u:=by
 cases d with
 |none=>rfl
 |some d=>simp[Act.put]
theorem ZE (hT:TOk P T) (hd:nX ops=true) (I:oM (R:=Unit) P (JZ sg cl)) {R:Type} {call:gY R} {W:List di} {lA:Array Bool} {log:List Nat}: ∀(l q:List (Nat×Value)),iU ops lA log (l.map (·.1))->je W0 b0 rd c st (gV ops (gV ops a l) q) ats->
  (∀k∈l.map (·.1),atO T cl call ops W st k)->PT sg cl ops st.fr (l.map (·.1))->(∀m∈q.map (·.1),∃i,ops[m]? =a6 i/\ ∀k∈l.map (·.1),∃ok,ops[k]? =a6 ok/\atP ops ok i)->
  ∃f,f.map (·.1)=l.map (·.1)/\je W0 b0 rd c st (gV ops (gV ops a f) q) ats/\lw rd n P ops c a f
 |[],q,_,y,_,_,_=>⟨[],rfl,y,trivial⟩
 |(k,v)::l,q,X,y,J,hF,L=>by
  obtain⟨Y,s2,s3,s4,ok,o,M,s7,Z,s9,ak⟩:=X;have ab: ∀m∈(q++[(k,v)]).map (·.1),∃i,ops[m]? =a6 i/\ ∀x∈l.map (·.1),∃N,ops[x]? =a6 N/\atP ops N i:=fun m g=>by
   grind
  obtain⟨f,e1,j,ad⟩:=ZE hT hd I l (q++[(k,v)]) Y (by rw[Cj];exact y) (fun m g=>J m (au _ g)) (fun m g=>hF m (au _ g)) ab;rw[Cj]at j;have hX:gV ops (gV ops a f) [(k,v)]=(gV ops a f).put (xx ops k) v:=rfl;rw[hX]at j;have A:=wO o;have ah:execOp (gV ops ((gV ops a f).put (xx ops k) v) q).eval ok=execOp (gV ops a f).eval ok:=by
   rw[Gx _ (Ti M) q fun m g e he=> ?_,execOp_put (ops:=ops) ok (Ti M) _ _ _ (by rw[A];exact Z)];obtain⟨i,h1,B⟩:=L m g;obtain⟨O,p,D⟩:=B k aK;rw[o]at p;cases p;exact(D e (by grind [wO])).1
  have S: ∀u,gV ops ((gV ops a f).put (xx ops k) u) q=(gV ops (gV ops a f) q).put (xx ops k) u:=fun u=>zC _ q fun m g e he h=>by
   obtain⟨i,h1,B⟩:=L m g;obtain⟨O,p,D⟩:=B k aK;rw[o]at p;cases p;exact(D e (by grind [wO])).2 (by simp_all)
  have U: ∀(z:di) (u:Value),dn c z u->st.put ok.dst z=st->KT rd n P c (gV ops ((gV ops a f).put (xx ops k) v) q) ok u->
    ∃E,E.map (·.1)=((k,v)::l).map (·.1)/\je W0 b0 rd c st (gV ops (gV ops a E) q) ats/\lw rd n P ops c a E:=fun z u g2 ai g3=>by
   refine⟨(k,u)::f,by simp[e1], ?_,ad,ok,o,g3.congr ah.symm⟩;have:=j.put (dst:=ok.dst) g2;rw[ai,S v,A,aFh,<-A,<-S u]at this;exact this
  obtain⟨O,V,a2⟩:=J k aK;rw[o]at V;cases V;rcases a2 with ⟨G,r,K,a3⟩|⟨G,_,_⟩
  .obtain⟨z,u,g1,g2,g3⟩:=DF hT j.ok G j.hp j.fr a3;rw[cond_eq_ite]at g1;split at g1
   .rename_i s
    refine U z u g2 ?_ (.of_run g3);cases hdst:ok.dst with
    |none=>rfl
    |some d=>
     rw[hdst]at s;exact aif (awx _ _ s)
   .cases g1
  .obtain⟨z,s⟩:=hF k aK ok o G;obtain⟨g2,g3⟩:=Vz (n:=n) hT I s rfl j;refine U z _ g2 ?_ g3;cases hdst:ok.dst with
   |none=>rfl
   |some d=>exact aif (s.2.2.2.1 d hdst)
theorem IZ (hT:TOk P T) (hd:nX ops=true) (M:oM (R:=Unit) P (JZ sg cl)) {R:Type} {r:R} {call:gY R} (N:nO P W0 n call) {lA:Array Bool} {log:List Nat} {l:List (Nat×Value)} {j:Nat} {K:St->Option R}
  (hF:PT sg cl ops st.fr (l.map (·.1))) (hj:j∈Region.ready .any ops lA) (y:iU ops lA log (l.map (·.1))) (ad:j∉l.map (·.1)) (d:je W0 b0 rd c st (gV ops a l) ats)
  (h:wU T cl call ops j log st K=a6 r) {next:Act->World->Prop} {Q:Exit->Act->World->Prop}
  (O: ∀c' p q f,K p=a6 r->f.map (·.1)=l.map (·.1)->je W0 b0 rd c' p (gV ops q f) ats->lw rd n P ops c' q f->PT sg cl ops p.fr (l.map (·.1))->c.Mono c'->next q c'.w):wpOpIn (FW rd) n P ops Q j next a c.w:=by
 unfold wU at h;split at h
 .rename_i g S
  replace h:=dN h;obtain⟨s,h⟩:=h;simp only[af]at s;have U:g.guard=a7:=by simpa using s.1
  unfold wpOpIn;simp only[S];rw[am (by simp[Region.wanted,U])];have A: ∀k∈l.map (·.1),k∈log.filter fun i=> !wz ops j i:=fun k hk=>List.mem_filter.2 ⟨iU.log y k hk,by grind [aiW,iU.un]⟩;have ah: ∀k∈l.map (·.1),∃ok,ops[k]? =a6 ok/\ok.apart ops g=true:=fun k hk=>by
   have V:=s.2;unfold azl at V
   grind
  have W:je W0 b0 rd c {st with fr:=qH ops (log.filter fun i=> !wz ops j i) st.fr,stk:=st.fr::st.stk} a ((gV ops a l).tmps::ats):=
   ⟨d.hp,d.nxt,d.ok,aqN d.fr A,⟨d.fr,d.stk⟩,by have:=d.df;rwa [Cm]at this,d.rd⟩
  refine XI hT N h W fun c' z u X k1 k2 k3 k4=> ?_;split at k1
  .rename_i fr v Y
   have o:=k2.stk;rw[Y]at o;simp only[FU]at o;have Z:je W0 b0 rd c' {X with fr:=fr,stk:=v} (gV ops a l) ats:=
    ⟨k2.hp,k2.nxt,k2.ok,o.1,o.2,by rw[Cm];exact k2.df,k2.rd⟩
   have x:=Z.put (dst:=g.dst) k3;have ab:(gV ops a l).put g.dst u=gV ops (a.put g.dst u) l:=(zC a l fun m B e he hh=>by
    grind [Oper.apart_spec,wO]).symm
   rw[ab]at x;obtain⟨g1,g2⟩:=Fg hT x _ k1;have D: ∀k∈l.map (·.1),atO T cl call ops st.fr _ k:=fun k hk=>g2 k (List.mem_reverse.2 (A k hk));have E:PT sg cl ops _ (l.map (·.1)):=fun k hk ok G I=>by
    obtain⟨z,hz⟩:=hF k hk ok G I;obtain⟨ai,J,b2⟩:=D k hk;rw[G]at J;cases J;rcases b2 with ⟨L,_⟩|⟨_,b4,b5⟩
    .rw[I]at L;cases L
    .exact⟨z,hz.same b4 b5⟩
   obtain⟨f,e1,e2,e3⟩:=ZE (n:=n) hT hd M l [] y x D E (fun m B=>by cases B);exact O c' _ _ f g1 e1 e2 e3 E k4
  .cases k1
 .cases h
def WfH (h:iw):Prop:= ∀id f e g jr d k n p,eG h id=a6 (.lp f e g jr d (a6 k) n p)->uq f k=a6 (jr,d)
theorem je.tidy {c:Cx} {st:St} {a:Act} (cl:Bool) (d:je W0 b0 rd c st a ats): ∃c',je W0 b0 rd c' (tidy cl st) a ats/\c.Mono c'/\c'.w=c.w:=by
 cases cl with
 |true=>exact⟨c,d,Cx.Mono.refl c,rfl⟩
 |false=>
  have g: ∀i,eG (mF c.hp) i=eG c.hp i:=fun i=>zo i _;have q: ∀(o:eu) (l:Loc),o.like l o l:=fun o l=>by
   cases o<;>simp[eu.like]
  have e:c.Le {c with hp:=mF c.hp}:=by
   refine⟨fun b f=>⟨⟨f.1,fun⟨j,o,s,m⟩=>f.2.1 ⟨j,o,by simp_all,m⟩,f.2.2⟩,rfl⟩,fun id hk=> ?_,fun id u _ h=>⟨u,by rw[<-g];exact h,q _ _⟩,fun _ h=>h,fun b L h=>⟨L,h⟩,ae _,rfl⟩;rcases hk with ⟨o,h⟩|h
   .exact .inl ⟨o,by simp_all⟩
   .exact .inr h
  have v:({c with hp:=mF c.hp}:Cx).Ok W0:=by
   refine⟨d.ok.bel,fun id o h=> ?_,fun i j o p b s m=>d.ok.inj i j o p b (by simp_all) (by simp_all),d.ok.mks,fun b f=>(e.out b (d.ok.bar b f)).1,d.ok.phi⟩;exact(d.ok.obj id o (by rw[<-g];exact h)).le e rfl fun b _=>rfl
  exact⟨{c with hp:=mF c.hp},⟨by show mF c.hp=mF st.hp;rw[d.hp],d.nxt,v,bT.le e _ _ d.fr,FU.le e _ _ d.stk,d.df,d.rd⟩,e.mono,rfl⟩
theorem je.wf {c:Cx} {st:St} {a:Act} (d:je W0 b0 rd c st a ats):WfH st.hp:=fun id f e g jr i k n p h=>by
 rw[<-d.hp]at h;exact(d.ok.obj id _ h).1 k rfl
def WfO:eu->Prop
 |.lp f _ _ jr bd (a6 k) _ _=>uq f k=a6 (jr,bd)
 |_=>True
theorem Ry: ∀(h:iw),vP h=true->WfH h-> ∀e∈h,WfO e.2
 |[],_,_,e,d=>by simp at d
 |(k,o)::h,g,m,e,d=>by
  simp only[vP,af,Bool.not_eq_true']at g;rcases List.mem_cons.1 d with rfl|d
  .cases o with
   |lp f i j jr l ky n p=>
    cases ky with
    |none=>trivial
    |some q=>exact m k f i j jr l q n p (by simp[fB])
   |_=>trivial
  .refine Ry h g.2 (fun id f i j jr l q n p u=>m id f i j jr l q n p ?_) e d;rw[fB];by_cases hk:k=id
   .subst hk;have:=zn _ _ _ u;have s:=g.1;rw[List.any_eq_false]at s;exact absurd (by simp:Nat.beq k k=true) (s _ this)
   simp_all
theorem aCK {a b:Ex} (h:aIO a b=true):a=b:=by
 cases a<;>cases b<;>simp only[aIO,ag]at h<;>first|rfl|rw[lm h]
theorem awv {a b:Option Ex} (h:awu a b=true):a=b:=by
 cases a<;>cases b<;>simp only[awu,ag]at h
 .rfl
 .rw[aCK h]
theorem aB8 {o:iw} {i:Nat} {a b x:eu} (s:WfH o) (hb:WfO b) (d:eqO a b=true) (h:YM o i a=a6 x):x=b:=by
 cases a with
 |box t l=>
  cases b<;>simp only[eqO,ag,af]at d;cases h;rw[lm d.1,tK _ _ d.2]
 |arr t v y=>
  cases b<;>simp only[eqO,ag,af]at d;cases h
  grind [nM,Qb,lm]
 |dead=>
  cases b<;>simp only[eqO,ag]at d;cases h;rfl
 |mp k v l=>
  cases b<;>simp only[eqO,ag,af,decide_eq_true_eq]at d;obtain⟨rfl,rfl,rfl⟩:=d;cases h;rfl
 |lp f fr ps jr bd ky n p=>
  cases b<;>simp only[eqO,ag,af]at d
  rename_i g G I J K L m q
  obtain⟨u,M,N,e,O,S⟩:=d;split at e
  .rename_i k U
   have z:=lm u;have A:=lm e;subst z A;simp only[YM]at h;split at h
   .rename_i B
    replace h:=dN h;obtain⟨j,h⟩:=h;simp only[af]at j
    rename_i g2 _ _ V W k2 _ _
    have D:=lm j.1;have E:=lm j.2;subst D E;have X:=s _ _ _ _ _ _ _ _ _ B
    grind [WfO,tK,CZ,lm,awv]
   .cases h
  .cases e
theorem YK {f:iw} (g:WfH f): ∀(a b x:iw),(∀e∈b,WfO e.2)->eqH a b=true->YJ f a=a6 x->x=b
 |[],b,x,_,d,h=>by
  cases b with
  |nil=>cases h;rfl
  |cons _ _=>simp[eqH]at d
 |(i,o)::a,b,x,l,d,h=>by
  cases b with
  |nil=>simp[eqH]at d
  |cons e b=>
   obtain⟨j,q⟩:=e;simp only[eqH,af]at d;simp only[YJ]at h;split at h
   .rename_i y m
    split at h
    .rename_i z p
     cases h;rw[aB8 g (l _ aK) d.2.1 m,YK g a b z (fun e d=>l e (au _ d)) d.2.2 p,lm d.1]
    .cases h
   .cases h
theorem asH {d:iw} {a b m:St} (h:settle d a=a6 m) (e:WfH d) (h2:aww a b=true) (f:vP b.hp=true) (hb:WfH b.hp):m=b:=by
 unfold settle at h;split at h
 .rename_i hp g
  cases h;unfold aww at h2;simp only[af]at h2;obtain⟨j,l,i,o⟩:=h2;have p:=YK e _ _ _ (Ry _ f hb) i g;obtain⟨q,s,u,v⟩:=a;obtain⟨x,y,z,A⟩:=b
  grind [tK,CZ,lm]
 .cases h
theorem amr {e:iw} {i:Nat} {a x:eu} (g:WfH e) (o:WfO a) (h:YM e i a=a6 x):x=a:=by
 cases a with
 |lp f fr ps jr bd ky n p=>
  cases ky with
  |none=>simp[YM]at h
  |some k=>
   simp only[YM]at h;split at h
   .rename_i j
    replace h:=dN h;obtain⟨d,h⟩:=h;simp only[af]at d;have l:=lm d.1;have m:=lm d.2;subst l m;have q:=g _ _ _ _ _ _ _ _ _ j;simp_all [WfO]
   .cases h
 |_=>simp_all [YM]
theorem YL {d:iw} (f:WfH d): ∀(a x:iw),(∀e∈a,WfO e.2)->YJ d a=a6 x->x=a
 |[],x,_,h=>by cases h;rfl
 |(i,o)::a,x,g,h=>by
  simp only[YJ]at h;split at h
  .rename_i y j
   split at h
   .rename_i z l
    cases h;rw[amr f (g _ aK) j,YL f a z (fun e m=>g e (au _ m)) l]
   .cases h
  .cases h
theorem aix {d:iw} {a m:St} (h:settle d a=a6 m) (e:WfH d) (f:vP a.hp=true) (g:WfH a.hp):m=a:=by
 unfold settle at h;split at h
 .rename_i hp i
  cases h;rw[YL e _ _ (Ry _ f g) i]
 .cases h
theorem ahP {e:iw} {L:List (Option St)} {m:St} (h:Xx e L=a6 m) (f:WfH e): ∀x∈L,∃b,x=a6 b/\(WfH b.hp->m=b):=by
 unfold Xx at h;split at h
 .rename_i a l
  replace h:=dN h;obtain⟨g,h⟩:=h;split at h
  .rename_i hp i
   cases h;intro x j;have d:=List.all_eq_true.1 g x j;cases x with
   |none=>simp at d
   |some b=>
    simp only[af]at d;refine⟨b,rfl,fun o=> ?_⟩;obtain⟨d,p⟩:=d;unfold aww at d;simp only[af]at d;obtain⟨s,u,q,v⟩:=d;have y:=YK f _ _ _ (Ry _ p o) q i;obtain⟨z,A,B,D⟩:=a;obtain⟨E,G,I,J⟩:=b
    grind [tK,CZ,lm]
  .cases h
 .cases h
def agq (ops:Array Oper) (lA:Array Bool):Nat:=((List.range ops.size).filter fun i=> !lA.getD i true).length
theorem filter_lt {f:Type} {p q:f->Bool}: ∀(l:List f),(∀x∈l,q x=true->p x=true)->(∃x∈l,p x=true/\q x=false)->(l.filter q).length<(l.filter p).length
 |[],_,h=>by simp_all
 |y::l,h,d=>by
  have m:(l.filter q).length<=(l.filter p).length:=by
   clear d
   induction l with
   |nil=>simp
   |cons z l g=>
    grind
  obtain⟨x,d,i,j⟩:=d;simp only[List.filter_cons];rcases List.mem_cons.1 d with e|d
  .grind
  .have g:=filter_lt l (fun x d=>h x (au _ d)) ⟨x,d,i,j⟩
   grind
theorem Nk {lA:Array Bool} {j:Nat} (l:lA.size=ops.size) (d:j∈Region.ready .any ops lA):agq ops (lA.setIfInBounds j true)<agq ops lA:=by
 obtain⟨f,m,g,_⟩:=mem_ready.1 d;have i:j<ops.size:=(Array.getElem?_eq_some_iff.1 g).1;refine filter_lt _ (fun x o h=> ?_) ⟨j,List.mem_range.2 i,by rw[f];rfl, ?_⟩
 .by_cases e:j=x
  all_goals simp_all
 simp
theorem aqP {lA:Array Bool} (h:agq ops lA=0):Region.ready .any ops lA=[]:=by
 simp_all [agq,Region.ready]
theorem iU.oldest {lA:Array Bool} {log:List Nat}: ∀{l:List Nat},iU ops lA log l->l≠[]-> ∃k∈l,k∈Region.ready .any ops lA
 |[],_,h=>absurd rfl h
 |[k],h,_=>by
  obtain⟨_,f,_,_,ok,g,_,_,_,i,_⟩:=h;simp_all [mem_ready]
 |k::m::l,h,_=>by
  obtain⟨x,d,e⟩:=iU.oldest h.1 (by simp);exact⟨x,au _ d,e⟩
structure Lag (n:Nat) (sg:FuncId->Option Sum) (cl:Bool) (P:Program) (W0:World) (b0:Nat) (rd:Option Nat) (ats:List (Array Value)) (ops:Array Oper) (c:Cx) (st:St) (lE:Array Bool) (log:List Nat) (a:Act) (lA:Array Bool) (l:List (Nat×Value)):Prop where
 rel:je W0 b0 rd c st (gV ops a l) ats
 pst:iU ops lA log (l.map (·.1))
 run:lw rd n P ops c a l
 sA:lA.size=ops.size
 sE:lE.size=ops.size
 sub: ∀j,lA.getD j false=true->lE.getD j false=true
 cov: ∀j,lE.getD j false=true->lA.getD j false=true\/j∈l.map (·.1)
 hE: ∀k∈l.map (·.1),lE.getD k false=true
 fit:PT sg cl ops st.fr (l.map (·.1))
theorem acr {l:Array Bool} {j:Nat} (h:j<l.size):l.getD j true=l.getD j false:=by simp[h]
theorem Lag.ready {d:Array Bool} {log:List Nat} {lA:Array Bool} {l:List (Nat×Value)} (h:Lag n sg cl P W0 b0 rd ats ops c st d log a lA l) {j:Nat} (g:j∈Region.ready .any ops lA) (u:j∉l.map (·.1)):j∈Region.ready .any ops d:=by
 obtain⟨v,i,f,m⟩:=mem_ready.1 g;have o:j<ops.size:=(Array.getElem?_eq_some_iff.1 f).1;refine mem_ready.2 ⟨?_,i,f,fun e p q=>h.sub _ (m e p q)⟩;cases hg:d.getD j true with
 |false=>rfl
 |true=>
  rw[acr (by rw[h.sE];exact o)]at hg;rcases h.cov j hg with s|s
  all_goals grind
theorem Uh (hd:nX ops=true) {f:Array Bool} {log:List Nat} {Q:Act->World->Prop}
  (J:Region.ready .any ops f=[]-> ∀w,JP c w-> ∀a,je W0 b0 rd (c.at_ w) st a ats->Q a w)
  (K: ∀(w:World),JP c w-> ∀(d:Nat) (a:Act) (lA:Array Bool) (l:List (Nat×Value)) (j:Nat),Lag n sg cl P W0 b0 rd ats ops (c.at_ w) st f log a lA l->agq ops lA<=d+1->j∈Region.ready .any ops lA->j∉l.map (·.1)->j∈Region.ready .any ops f->
   wpOpIn (FW rd) n P ops (fun e a w=>e=.normal/\Q a w) j (wpAnyIn (FW rd) n P .any ops (fun e a w=>e=.normal/\Q a w) d (lA.setIfInBounds j true)) a w):
  ∀(m d:Nat) (w:World),JP c w-> ∀(a:Act) (lA:Array Bool) (l:List (Nat×Value)),l.length=m->Lag n sg cl P W0 b0 rd ats ops (c.at_ w) st f log a lA l->agq ops lA<=d->
   wpAnyIn (FW rd) n P .any ops (fun e a w=>e=.normal/\Q a w) d lA a w:=by
 have D: ∀(w:World),JP c w-> ∀(a:Act) (lA:Array Bool) (l:List (Nat×Value)),Lag n sg cl P W0 b0 rd ats ops (c.at_ w) st f log a lA l->Region.ready .any ops lA=[]->Q a w:=fun w g a lA l h i=>by
  have L:l=[]:=by
   cases l with
   |nil=>rfl
   |cons x l=>
    obtain⟨k,_,hk⟩:=iU.oldest h.pst (by simp);simp_all
  subst L;refine J ?_ w g a h.rel;cases hrE:Region.ready .any ops f with
  |nil=>rfl
  |cons j X=>
   obtain⟨p,q,E,M⟩:=mem_ready.1 (show j∈Region.ready .any ops f by rw[hrE];simp);have u:j<ops.size:=(Array.getElem?_eq_some_iff.1 E).1;have:j∈Region.ready .any ops lA:=mem_ready.2 ⟨by
    cases hg:lA.getD j true with
    |false=>rfl
    |true=>
     rw[acr (by rw[h.sA];exact u)]at hg;exact(Qr (h.sub j hg) p).elim,q,E,fun e N O=>(h.cov _ (M e N O)).resolve_right (by simp)⟩
   simp_all
 intro m
 induction m using Nat.strongRecOn with
 |ind m y=>
  intro d w g a lA l s h S;cases d with
  |zero=>
   have i:=aqP (ops:=ops) (lA:=lA) (by omega);exact⟨i,rfl,D w g a lA l h i⟩
  |succ d=>
   refine⟨fun i=>⟨rfl,D w g a lA l h i⟩,fun j o=> ?_⟩;by_cases hjl:j∈l.map (·.1)
   .obtain⟨Y,q,z,Z⟩:=mem_ready.1 o;obtain⟨v,A,g1,g2,g3,g4⟩:=aaK hd z o h.pst h.run hjl;have u:j<ops.size:=(Array.getElem?_eq_some_iff.1 z).1;have U:q.guard=a7:=by
     have: ∀(l:List Nat),iU ops lA log l->j∈l->q.guard=a7:=fun l=>by
      induction l with
      |nil=>intro _ h;cases h
      |cons k l y=>
       intro G s;rcases List.mem_cons.1 s with e|s
       .subst e;obtain⟨_,_,_,_,ok,h5,_,h7,_⟩:=G;simp_all
       .exact y G.1 s
     exact this _ h.pst hjl
    have V:A.length<m:=by
     grind [aP]
    refine g1.wpOp (c:=c.at_ w) hd z U fun I B=> ?_;have W:JP c I:=Below.trans g (B.mono g.size);refine y A.length V d I W _ _ A rfl ⟨by rw[g4];exact h.rel.ext B,by rw[g2];exact iU.take (by rw[h.sA];exact u) h.pst hjl,lw.ext B g3,by simpa using h.sA,h.sE,fun k hk=> ?_,fun k hk=> ?_,fun k hk=>h.hE k (by grind),fun k hk=>h.fit k (by grind)⟩ (by have:=Nk h.sA o;omega)
    .by_cases e:j=k
     .subst e;exact h.hE j hjl
     .rw[getD_set_ne false e]at hk;exact h.sub k hk
    .rcases h.cov k hk with p|p
     .exact .inl (getD_set_true p)
     grind [zG]
   .exact K w g d a lA l j h S o hjl (h.ready o hjl)
theorem arN {fr:List di} {d:Nat} {z:di} {x:Operand} (h:x≠ .tmp d):iF (fr.set d z) x=iF fr x:=by
 cases x with
 |tmp t=>
  grind [iF]
 |_=>rfl
theorem Ee {o:Oper} {dst:Option Nat} {z:di} (h: ∀d,dst=a6 d->d∉o.looksAt ops):jW o (st.put dst z).fr=jW o st.fr:=by
 cases dst with
 |none=>rfl
 |some d=>
  have f: ∀x∈o.op.operands,x≠ .tmp d:=fun x f e=>h d rfl (by
   subst e;exact List.mem_append_left _ (List.mem_filterMap.2 ⟨.tmp d,by simpa using f,rfl⟩))
  grind [jW,St.put,arN,Op.operands,Call.operands,List.map_congr_left]
theorem al8 {o:Oper} {dst:Option Nat} {z:di} (h: ∀d,dst=a6 d->o.dst≠a6 d):CG o.dst (st.put dst z).fr=CG o.dst st.fr:=by
 cases dst with
 |none=>rfl
 |some d=>
  cases ho:o.dst with
  |none=>rfl
  |some e=>
   have f:d≠e:=fun x=>h d rfl (by rw[ho,x]);simp_all [CG,St.put]
theorem aaC: ∀(rs:List (Ty×Bool)) y,(rs.all fun r=> !r.2&&r.1.rigid)=true->AB rs y=a7/\news rs=0/\(rs.all fun r=>r.1.rigid||(r.2&&r.1.elem.rigid))=true
 |[],_,_=>⟨rfl,rfl,rfl⟩
 |(t,true)::rs,y,h=>by simp at h
 |(t,false)::rs,y,h=>by
  simp only[aY,az,aG,af]at h;obtain⟨d,e,f⟩:=aaC rs y.2 h.2;simp_all [AB,news]
theorem ZF {hp hp':iw}: ∀(d:List Ty) (args:List di),args.all di.calm=true->CU hp d args=CU hp' d args
 |[],[],_=>rfl
 |[],_::_,_=>rfl
 |_::_,[],_=>rfl
 |t::d,v::args,h=>by
  simp only[aY,af]at h;have e:v.as hp t=v.as hp' t:=by cases v<;>simp only[di.calm,ag]at h<;>first|rfl|simp_all
  have f:=ZF (hp:=hp) (hp':=hp') d args h.2;simp only[CU,e,f]
theorem al4 {R:Type} {r:R} {i:Nat} {e:Oper} {X:di->St->Option R} (hi:acx sg ops st.fr i=true) (u:ops[i]? =a6 e) (A: ∀d,e.dst=a6 d->d∉e.looksAt ops)
  (h:fE T cl (JZ sg cl) e st X=a6 r): ∃z,X z st=a6 r/\kD e.op=true/\wE sg cl e (st.put e.dst z).fr z:=by
 unfold acx at hi;rw[u]at hi;simp only at hi;split at hi
 .rename_i g m j
  split at hi
  .rename_i s B
   simp only[af]at hi;obtain⟨⟨o,p⟩,N⟩:=hi;obtain⟨O,D,S,U,V,W⟩:=e;cases D with
   |call c=>
    obtain⟨E,Y,Z⟩:=c;cases E with
    |value v=>
     have G:=j;simp only[jW,List.cons.injEq]at j;simp only[fE]at h;rw[j.1,j.2]at h;have I: ∀{R:Type} (dst:Option Nat) (l:St) (K:di->St->Option R),JZ sg cl (.fn g []) m dst l K=match CU [] s.ps m with
       |some x=>bK (s.f x) fun y=>K (QW (qK 0 s.rs y)) l
       |none=>a7:=fun {R} dst l K=>by
      simp only[JZ,B,o,p,Bool.and_self,aa,Sum.call];have q:=o;unfold O6 at q;rw[ZF (hp:=l.hp) (hp':=[]) _ _ p];cases CU [] s.ps m with
      |none=>simp
      |some x=>
       simp only;cases hf:s.f x with
       |none=>simp[bK]
       |some y=>
        obtain⟨J,L,M⟩:=aaC s.rs y q;simp[bK,J,L,M]
     rw[I]at h;split at h
     .rename_i x hx
      cases hf:s.f x with
      |none=>rw[hf]at h;cases h
      |some y=>
       rw[hf]at h;refine⟨_,h,rfl,rfl,⟨_,v,rfl,rfl⟩,X3 _ (MN 0 s.rs y o),fun d hd=> ?_,.fn g [],m, ?_,fun dst l K=> ?_⟩
       .simp_all [TS,St.put]
       .rw[Ee (ops:=ops) A];exact G
       simp_all [bK]
     .cases h
    |_=>simp[jW]at j
   |_=>simp[jW]at j
  .cases hi
 .cases hi
theorem yC (hT:TOk P T) (hd:nX ops=true) (G: ∀R:Type,oM (R:=R) P (JZ sg cl)) {an:gY St} (V:nO P W0 n an) {ao:gY Unit} (W:nO P W0 n ao) (X:zW sg an) (Y:zW sg ao): ∀(J:Nat) {R:Type} {r:R} {call:gY R} (Z:nO P W0 n call) (hx:zW sg call) {K:St->Option R} {Q:Act->World->Prop}
  (L:Array Bool) (log:List Nat) (c:Cx) (st:St),nR T cl sg an ao ops J call L log st K=a6 r->
  (∀c' p q,K p=a6 r->je W0 b0 rd c' p q ats->c.Mono c'->Q q c'.w)-> ∀(v:Nat) (a:Act) (lA:Array Bool) (l:List (Nat×Value)),Lag n sg cl P W0 b0 rd ats ops c st L log a lA l->agq ops lA<=v->
   wpAnyIn (FW rd) n P .any ops (fun e a w=>e=.normal/\Q a w) v lA a c.w
 |0,R,r,call,Z,hx,K,Q,L,log,c,st,h,hQ,v,a,lA,l,f,M=>by simp[nR]at h
 |J+1,R,r,call,Z,hx,K,Q,L,log,c,st,h,hQ,v,a,lA,l,f,M=>by
  have av: ∀(w:World) (q:Act) (lA:Array Bool) (l x:List (Nat×Value)) (j:Nat) (c':Cx) (p:St) (a:Act),Lag n sg cl P W0 b0 rd ats ops (c.at_ w) st L log a lA l->j∈Region.ready .any ops lA->j∉l.map (·.1)->x.map (·.1)=l.map (·.1)->
    je W0 b0 rd c' p (gV ops q x) ats->lw rd n P ops c' q x->PT sg cl ops p.fr (l.map (·.1))->Lag n sg cl P W0 b0 rd ats ops c' p (L.setIfInBounds j true) log q (lA.setIfInBounds j true) x:=fun w q lA l x j c' p a f y A B e2 e3 e4=>by
   obtain⟨_,oj,aU,_⟩:=mem_ready.1 y;have aF:j<ops.size:=(Array.getElem?_eq_some_iff.1 aU).1;refine⟨e2,by rw[B];exact iU.set f.pst A,e3,by simpa using f.sA,by simpa using f.sE,fun k hk=> ?_,fun k hk=> ?_,fun k hk=>getD_set_true (f.hE k (by simp_all)),by rw[B];exact e4⟩
   .by_cases e:j=k
    .subst e;exact zG (by rw[f.sE];exact aF)
    .rw[getD_set_ne false e]at hk ⊢;exact f.sub k hk
   .by_cases e:j=k
    .grind [zG]
    .rw[getD_set_ne false e]at hk ⊢;rw[B];exact f.cov k hk
  have aH: ∀(i:Nat) (g:Oper) (z:di) (u:Value),i∈Region.ready .any ops L->ops[i]? =a6 g->kD g.op=true->g.guard=a7->QM ops log i=true->
    nR T cl sg an ao ops J call (L.setIfInBounds i true) (i::log) (st.put g.dst z) K=a6 r->dn c z u->KT rd n P c (gV ops a l) g u->
    (iO g.op=false-> ∃z,wE sg cl g (st.put g.dst z).fr z/\True)->(iO g.op=false->wE sg cl g (st.put g.dst z).fr z)->
    wpAnyIn (FW rd) n P .any ops (fun e a w=>e=.normal/\Q a w) v lA a c.w:=fun i g z u ab D hq aV ai g1 g2 g3 _ g4=>by
   obtain⟨aI,bD,aJ,aW⟩:=mem_ready.1 ab;rw[D]at aJ;cases aJ;have aF:i<ops.size:=(Array.getElem?_eq_some_iff.1 D).1;have aX:i∉l.map (·.1):=fun hm=>Qr (f.hE i hm) aI;have aZ:lA.getD i true=false:=by
    cases hga:lA.getD i true with
    |false=>rfl
    |true=>
     rw[acr (by rw[f.sA];exact aF)]at hga;exact(Qr (f.sub i hga) aI).elim
   have E:=ai;unfold QM at E;rw[D]at E;simp only[af]at E;obtain⟨aw,E⟩:=E;have aO: ∀m∈l.map (·.1),∃om,ops[m]? =a6 om/\atP ops om g/\(wz ops i m=false->om.apart ops g=true):=fun m hm=>by
    have h3:=List.all_eq_true.1 E m (iU.log f.pst m hm);split at h3
    .rename_i om bF
     simp only[af,Bool.or_eq_true]at h3
     grind [Qm]
    .cases h3
   refine yC hT hd G V W X Y J Z hx (Q:=Q) (L.setIfInBounds i true) (i::log) c (st.put g.dst z) g1 hQ v a lA ((i,u)::l) ⟨?_, ?_,⟨f.run,g,D,g3⟩,f.sA,by simpa using f.sE,fun k hk=> ?_,fun k hk=> ?_,fun k hk=> ?_,fun k hk ok aQ bd=> ?_⟩ M
   .have:=f.rel.put (dst:=g.dst) g2;simp_all [gV,wO]
   .exact⟨iU.mono (fun k hk=>au _ hk) f.pst,aZ,aK,aX,g,D,hq,aV,fun d ad=>(Qm aw d ad).1,fun e he hb=>f.cov _ (aW e he hb),aO⟩
   .by_cases e:i=k
    .grind
    .rw[getD_set_ne false e];exact f.sub k hk
   .by_cases e:i=k
    .simp_all
    .rw[getD_set_ne false e]at hk;exact(f.cov k hk).imp (fun h=>h) fun h=>au _ h
   .rcases List.mem_cons.1 hk with e|hk
    .grind [zG]
    .exact getD_set_true (f.hE k hk)
   .rcases List.mem_cons.1 hk with e|hk
    .grind
    .obtain⟨z',bf⟩:=f.fit k hk ok aQ bd;obtain⟨om,I,h2,_⟩:=aO k hk;rw[aQ]at I;cases I;exact⟨z',bf.same (Ee (ops:=ops) fun d ad=>(h2 d ad).1).symm (al8 fun d ad=>(h2 d ad).2).symm⟩
  simp only[nR]at h;split at h
  .rename_i ak
   exact Uh (n:=n) (sg:=sg) (cl:=cl) hd (fun _ w N a hr=>hQ (c.at_ w) st a h hr (Cx.Le.ext N).mono) (fun w N v a lA l j _ _ _ _ y=>by simp_all) _ v c.w (Below.refl _ _) a lA l rfl f M
  .rename_i k rs ak
   split at h
   .rename_i i hf
    have al:=List.find?_some hf;simp only[af]at al;replace al:=al.1;have ab:=List.mem_of_find?_eq_some hf;rw[<-ak]at ab;split at h
    .rename_i g D
     replace h:=dN h;obtain⟨O,h⟩:=h;simp only[af]at O;obtain⟨O,ai⟩:=O;have hq:iO g.op=true:=by
      grind [aaE]
     obtain⟨z,u,g1,g2,g3⟩:=DF hT f.rel.ok hq f.rel.hp f.rel.fr h;exact aH i g z u ab D (asA hq) (by simpa using O) ai g1 g2 (.of_run g3) (fun h0=>by simp_all) (fun h0=>by simp_all)
    .cases h
   .split at h
    .rename_i i hf
     have al:=List.find?_some hf;have ab:=List.mem_of_find?_eq_some hf;rw[<-ak]at ab;split at h
     .rename_i g D
      replace h:=dN h;obtain⟨O,h⟩:=h;simp only[af]at O;obtain⟨O,ai⟩:=O;have aw: ∀d,g.dst=a6 d->d∉g.looksAt ops:=by
       have E:=ai;unfold QM at E;rw[D]at E;simp only[af]at E;exact fun d ad=>(Qm E.1 d ad).1
      obtain⟨z,g1,g2,g3⟩:=al4 al D aw h;obtain⟨g4,g5⟩:=Vz (n:=n) hT (G Unit) g3 (Ee (ops:=ops) aw) f.rel;exact aH i g z _ ab D g2 (by simpa using O) ai g1 g4 g5 (fun _=>⟨z,g3,trivial⟩) (fun _=>g3)
     .cases h
    .split at h
     .refine Uh (n:=n) (sg:=sg) (cl:=cl) hd (fun hr=>by simp_all) (fun w N v a lA l j f M y A S=> ?_) _ v c.w (Below.refl _ _) a lA l rfl f M;rw[ak]at S;obtain rfl:j=k:=by simpa using S
      refine IZ (c:=c.at_ w) hT hd (G Unit) Z f.fit y f.pst A f.rel h fun c' p q x k1 B k2 k3 k5 k4=> ?_;exact yC hT hd G V W X Y J Z hx (Q:=Q) _ log c' p k1 (fun ay aB ah s q2 q3=>hQ ay aB ah s q2 ((Cx.Le.ext N).mono.trans (k4.trans q3))) v q _ x (av w q lA l x j c' p a f y A B k2 k3 k5) (by have:=Nk f.sA y;omega)
     .rw[cond_eq_ite]at h;split at h
      rotate_left
      .rename_i aS
       simp only[Bool.or_eq_true,Bool.not_eq_true',not_or,bg,Bool.not_eq_false]at aS;have hp: ∀o∈ops.toList,yh sg o.op=true:=fun o ho=>List.all_eq_true.1 aS.2 o ho;refine Uh (n:=n) (sg:=sg) (cl:=cl) hd (fun hr=>by simp_all) (fun w N v a lA l j f M y A S=> ?_) _ v c.w (Below.refl _ _) a lA l rfl f M;rw[ak]at S;rcases List.mem_cons.1 S with rfl|bi
       .refine IZ (c:=c.at_ w) hT hd (G Unit) Z f.fit y f.pst A f.rel h fun c' p q x k1 B k2 k3 k5 k4=> ?_;exact yC hT hd G V W X Y J Z hx (Q:=Q) _ log c' p k1 (fun ay aB ah s q2 q3=>by
         replace s:=dN s;obtain⟨q0,s⟩:=s;obtain⟨c3,U,m3,w3⟩:=q2.tidy cl;split at s
         .rename_i m hm
          replace s:=(Bv _ s).1;have:=aix hm f.rel.wf q0 U.wf;subst this;rw[<-w3];exact hQ c3 _ ah s U ((Cx.Le.ext N).mono.trans (k4.trans (q3.trans m3)))
         .cases s) v q _ x (av w q lA l x j c' p a f y A B k2 k3 k5) (by have:=Nk f.sA y;omega)
       .obtain⟨_,I⟩:=ab4 hx hp h;obtain⟨bG,I⟩:=Wl hp X Y J hx _ _ _ _ I;replace I:=(dN I).2;split at I
        .rename_i m hm
         obtain⟨hK,bn⟩:=Bv _ I;have bt:=bn _ (List.mem_map.2 ⟨j,bi,rfl⟩);refine IZ (c:=c.at_ w) hT hd (G Unit) W f.fit y f.pst A f.rel bt fun c' p q x k1 B k2 k3 k5 k4=> ?_;exact yC hT hd G V W X Y J W Y (Q:=Q) _ log c' p k1 (fun ay aB ah s q2 q3=>by
          replace s:=(dN s).1;simp only[af]at s;obtain⟨c3,U,m3,w3⟩:=q2.tidy cl;have:=asH hm f.rel.wf s.1 s.2 U.wf;subst this;rw[<-w3];exact hQ c3 _ ah hK U ((Cx.Le.ext N).mono.trans (k4.trans (q3.trans m3)))) v q _ x (av w q lA l x j c' p a f y A B k2 k3 k5) (by have:=Nk f.sA y;omega)
        .cases I
      split at h
      .rename_i bH bu
       refine Uh (n:=n) (sg:=sg) (cl:=cl) hd (fun hr=>by simp_all) (fun w N v a lA l j f M y A S=> ?_) _ v c.w (Below.refl _ _) a lA l rfl f M;rw[ak]at S;obtain⟨b,bz,bC⟩:=ahP bu f.rel.wf _ (List.mem_map.2 ⟨j,S,rfl⟩);refine IZ (c:=c.at_ w) hT hd (G Unit) V f.fit y f.pst A f.rel bz fun c' p q x k1 B k2 k3 k5 k4=> ?_;exact yC hT hd G V W X Y J V X (Q:=Q) _ log c' p k1 (fun ay aB ah s q2 q3=>by
        cases s;obtain⟨c3,U,m3,w3⟩:=q2.tidy cl;have:=bC U.wf;subst this;rw[<-w3];exact hQ c3 _ ah h U ((Cx.Le.ext N).mono.trans (k4.trans (q3.trans m3)))) v q _ x (av w q lA l x j c' p a f y A B k2 k3 k5) (by have:=Nk f.sA y;omega)
      .cases h
theorem akl (hT:TOk P T) (p:P.follows .mixedOrders=true) (hd:nX ops=true) (q: ∀R:Type,oM (R:=R) P (JZ sg cl)) {g:gY St} (s:nO P W0 n g) {i:gY Unit} (u:nO P W0 n i) (v:zW sg g) (x:zW sg i) {R:Type} {r:R} {call:gY R} (y:nO P W0 n call) (hx:zW sg call) {id m:Nat} {K:St->Option R} {Q:Exit->Act->World->Prop}
  (h:nR T cl sg g i ops m call (Array.replicate ops.size false) [] st K=a6 r) (z:je W0 b0 rd c st a ats) (A: ∀c' d f,K d=a6 r->je W0 b0 rd c' d f ats->c.Mono c'->Q .normal f c'.w):
  (Code.region id ops true).wpIn (FW rd) n P Q a c.w:=by
 have o:JP c {c.w with drawn:=c.w.drawn+1}:=⟨rfl,rfl,rfl,ae _,fun _ _=>rfl⟩;have B:=z.ext o;have D:=yC (Q:=fun a w=>Q .normal a w) hT hd q s u v x m y hx _ [] (c.at_ {c.w with drawn:=c.w.drawn+1}) st h (fun c' d f k1 k2 k3=>A c' d f k1 k2 ((Cx.Le.ext o).mono.trans k3)) ops.size a
  (Array.replicate ops.size false) [] ⟨B,trivial,trivial,by simp,by simp,fun j l=>l,fun j l=>.inl l,(fun k hk=>by cases hk),(fun k hk=>by cases hk)⟩ (by
   grind [agq])
 exact Code.wpIn_mono (fun e a w E=>by simp_all) (wpIn_region_any p D)
end
end
section
open Option renaming some → a6, none → a7
open Bool renaming and_eq_true → af
open Nat renaming le_trans → aQ
open Go.RowKit
section
variable {P:Program} {T:TT} {W0:World} {b0:Nat} {rd:Option Nat} {R:Type} {r:R} {ats:List (Array Value)}
theorem atK {F:Fence} {n:Nat} {Q:Exit->Act->World->Prop} {a:Act} {w:World} {e:Ex} {d:Code} (f:e.code=a6 d) (h:Q e.xt a w):d.wpIn F n P Q a w:=by
 cases e<;>simp only[Ex.code,Option.some.injEq,reduceCtorEq]at f<;>subst f
 .exact wpIn_exit h
 .exact wpIn_goto h
 .exact wpIn_ret h
theorem WT {n:Nat} {F:St->(Ex->St->Option R)->Option R} {K:Ex->St->Option R} {Q:Exit->Act->World->Prop} {code:Code} {kp:Option eY}
  (hF: ∀(E:Ex->St->Option R) (G:Exit->Act->World->Prop) (c:Cx) (st:St) (a:Act),F st E=a6 r->je W0 b0 rd c st a ats->b0<=c.w.heap.size->(∀e c' g z,E e g=a6 r->je W0 b0 rd c' g z ats->c.Mono c'->G e.xt z c'.w)->code.wpIn (FW rd) n P G a c.w)
  {c:Cx} {st:St} {a:Act} (m:Nat) (h:iter kp F m st K=a6 r) (I:je W0 b0 rd c st a ats) (hb:b0<=c.w.heap.size) (x: ∀e c' g z,K e g=a6 r->je W0 b0 rd c' g z ats->c.Mono c'->Q e.xt z c'.w):
  (Code.loop code).wpIn (FW rd) n P Q a c.w:=by
 refine wpIn_loop_ghost (fun m a w=> ∃c' g,iter kp F m g K=a6 r/\je W0 b0 rd c' g a ats/\c.Mono c'/\c'.w=w) m ⟨c,st,h,I,Cx.Mono.refl c,rfl⟩ ?_;rintro m a w ⟨J,L,D,M,f,rfl⟩;cases m with
 |zero=>simp[iter]at D
 |succ m=>
  simp only[iter]at D;refine hF _ _ J L a D M (aQ hb f.size) fun e A B y d i j=> ?_;cases e with
  |normal=>
   simp only at d;simp only[Ex.xt,Exit.then];cases kp with
   |none=>exact⟨m,Nat.lt_succ_self m,A,B,d,i,f.trans j,rfl⟩
   |some k=>
    simp only at d;split at d
    .rename_i o p
     obtain⟨q,s,u,v⟩:=ry i p;exact⟨m,Nat.lt_succ_self m,q,o,d,s,(f.trans j).trans u,v⟩
    .cases d
  |ret=>
   simp only at d;simp only[Ex.xt,Exit.then];cases kp with
   |none=>exact x .ret A B y d i (f.trans j)
   |some k=>
    simp only at d;split at d
    .rename_i o p
     obtain⟨q,s,u,v⟩:=abn i p;rw[<-v];exact x .ret q o y d s ((f.trans j).trans u)
    .cases d
  |exit id=>
   simp only at d;simp only[Ex.xt,Exit.then];cases kp with
   |none=>exact x (.exit id) A B y d i (f.trans j)
   |some k=>
    simp only at d;split at d
    .rename_i o p
     obtain⟨q,s,u,v⟩:=ry i p;rw[<-v];exact x (.exit id) q o y d s ((f.trans j).trans u)
    .cases d
  |goto l=>
   simp only at d;simp only[Ex.xt,Exit.then];cases kp with
   |none=>exact x (.goto l) A B y d i (f.trans j)
   |some k=>
    simp only at d;split at d
    .rename_i o p
     obtain⟨q,s,u,v⟩:=ry i p;rw[<-v];exact x (.goto l) q o y d s ((f.trans j).trans u)
    .cases d
theorem ZQ {n:Nat} {F:St->(Ex->St->Option R)->Option R} {K:Ex->St->Option R} {Q:Exit->Act->World->Prop} {code:Code} {kp:Option eY}
  (hF: ∀(z:Ex->St->Option R) (A:Exit->Act->World->Prop) (c:Cx) (st:St) (a:Act),F st z=a6 r->je W0 b0 rd c st a ats->b0<=c.w.heap.size->(∀e c' x y,z e x=a6 r->je W0 b0 rd c' x y ats->c.Mono c'->A e.xt y c'.w)->code.wpIn (FW rd) n P A a c.w)
  {c:Cx} {st:St} {a:Act} (m:Nat) (h:iter kp (tH F) m st (xu 999999 K)=a6 r) (G:je W0 b0 rd c st a ats) (hb:b0<=c.w.heap.size) (q: ∀e c' x y,K e x=a6 r->je W0 b0 rd c' x y ats->c.Mono c'->Q e.xt y c'.w):
  code.wpIn (FW rd) n P Q a c.w:=by
 cases m with
 |zero=>simp[iter]at h
 |succ m=>
  simp only[iter,tH]at h;refine hF _ _ c st a h G hb fun e B D s d u v=> ?_;cases e with
  |normal=>
   simp only at d;cases kp with
   |none=>
    simp only[xu,beq_self_eq_true,aa]at d
    grind
   |some k=>
    simp only at d;split at d
    .rename_i f g
     obtain⟨i,j,o,p⟩:=ry u g;simp only[xu,beq_self_eq_true,aa]at d;rw[<-p];exact q .normal i f s d j (v.trans o)
    .cases d
  |ret=>
   simp only at d;cases kp with
   |none=>exact q .ret B D s d u v
   |some k=>
    simp only at d;split at d
    .rename_i f g
     obtain⟨i,j,o,p⟩:=abn u g;rw[<-p];exact q .ret i f s d j (v.trans o)
    .cases d
  |exit id=>
   simp only at d;rw[cond_eq_ite]at d;split at d
   .cases d
   .rename_i I
    have E:(id==999999)=false:=by
     simp_all
    cases kp with
    |none=>
     simp only[xu,E,ac]at d
     grind
    |some k=>
     simp only at d;split at d
     .rename_i f g
      obtain⟨i,j,o,p⟩:=ry u g;simp only[xu,E,ac]at d;rw[<-p];exact q (.exit id) i f s d j (v.trans o)
     .cases d
  |goto l=>
   simp only at d;cases kp with
   |none=>exact q (.goto l) B D s d u v
   |some k=>
    simp only at d;split at d
    .rename_i f g
     obtain⟨i,j,o,p⟩:=ry u g;rw[<-p];exact q (.goto l) i f s d j (v.trans o)
    .cases d
theorem CX {n:Nat} {f:FuncId} {args:Array Value} {w:World} {Rr:Ending->World->Prop} (h:Calls P f args w Rr):CallsIn (FW rd) n P f args w Rr:=(callsIn_wide (n:=n)).2 h
theorem aig {n:Nat} {f:FuncId} {cl:Bool} {ex:oH R} (ah:xC P W0 ex) {fv:Operand} {p:Array Tmp} {jr q:Code} {K:Ex->St->Option R} {Q:Exit->Act->World->Prop} {c:Cx} {st:St} {a:Act} {g:FuncId} {N:List di}
  (O:dn c (.fn g N) (a.eval fv))
  {X:Option Nat} (ai: ∀k,X=a6 k->uq f k=a6 (jr,q))
  (h:alloc cl (a6 (700000+p.toList.headD 0)) (.lp f st.fr p.toList jr q X 0 a7) st (fun id st=>
    ex (.call g (.yld id::N)) {st with stk:=[.yld id]::st.stk} fun _ st=>match st.stk with
     |[.yld id]::stk=>match eG st.hp id with
      |some (.lp _ _ _ _ _ _ 0 a7)=>K .normal {st with stk:=stk,hp:=jB st.hp id .dead}
      |some (.lp _ _ _ _ _ _ 1 (a6 e))=>K e {st with stk:=stk,hp:=jB st.hp id .dead}
      |_=>a7
     |_=>a7)=a6 r)
  (j:je W0 b0 rd c st a ats) (hb:b0<=c.w.heap.size) (hQ: ∀e c' ad a',K e ad=a6 r->je W0 b0 rd c' ad a' ats->c.Mono c'->Q e.xt a' c'.w):
  (Code.rangeFunc fv p jr q).wpIn (FW rd) n P Q a c.w:=by
 obtain⟨id,n',h3,h4,h5,h⟩:=jC h;simp only[dn]at O;obtain⟨S,O,aj⟩:=O;refine wpIn_rangeFunc fun fn _=> ?_;obtain⟨s,d,aI,G,ak,al,an⟩: ∃(s:List Deferred) (d:Cx),d.hp=c.hp/\je W0 b0 rd d st {a with defers:=s++a.defers} ats/\c.Mono d/\c.Le0 d/\
   ∃L:Loop,L.tmps=a.tmps/\L.params=p/\L.assign=jr/\L.body=q/\L.state=.ready/\L.pending=a7/\(Instr.enterLoop fn a.tmps p jr q rd).run P c.w=.ok (d.w.heap.size,s) (d.w.alloc (.loop L)):=by
  cases rd with
  |none=>
   obtain⟨U,ao⟩:=ay9 j.ok;refine⟨[mkD c.w.heap.size],{c with w:=c.w.alloc (.deferred (a6 [])),mks:=c.w.heap.size::c.mks},rfl,⟨j.hp,j.nxt,ao,bT.le U _ _ j.fr,FU.le U _ _ j.stk, ?_,fun l I=>by cases I⟩,U.mono,U.le0,{state:=.ready,pending:=a7,fn,tmps:=a.tmps,params:=p,assign:=jr,body:=q,defers:=c.w.heap.size},rfl,rfl,rfl,rfl,rfl,rfl, ?_⟩
   .obtain⟨Y,Z,e2,e3⟩:=j.df;refine⟨c.w.heap.size::Y,by simp[Z],List.nodup_cons.2 ⟨fun hm=> ?_,e2⟩,fun x hx=> ?_⟩
    .have:=j.ok.mark_lt (e3 _ hm).1;omega
    grind
   rfl
  |some l0=>
   obtain⟨L0,au⟩:=j.rd l0 rfl;exact⟨[],c,rfl,j,Cx.Mono.refl c,(Cx.Le.refl c).le0,{state:=.ready,pending:=a7,fn,tmps:=a.tmps,params:=p,assign:=jr,body:=q,defers:=L0.defers},rfl,rfl,rfl,rfl,rfl,rfl,run_enterLoop_inner au fn a.tmps p jr q⟩
 obtain⟨L,q1,q2,q3,q4,q5,q6,q7⟩:=an;subst q2 q3 q4;obtain⟨V,hd,aJ,hy,_⟩:=aKt G.ok (st:=st) G.hp G.nxt h3 h4 h5 (f:=f) (fr:=st.fr) (L:=L) (by rw[q1];exact G.fr) q5 q6 ai;have v:=G.did hd;have ae:c.Mono V:=ak.trans hd.le.mono;have av:je W0 b0 rd V {st with stk:=[.yld id]::st.stk,hp:=(id,.lp f st.fr L.params.toList L.assign L.body X 0 a7)::st.hp,nxt:=n'} {a with defers:=s++a.defers} (#[.func (.yield d.w.heap.size) #[] #[]]::ats):=
  ⟨v.hp,v.nxt,v.ok,v.fr,⟨by simpa [bT] using hy,v.stk⟩,v.df,v.rd⟩
 have aK:bT V N S.toList:=bT.le hd.le _ _ (bT.le0 al _ _ aj);have aO:=ah g (.yld id::N) _ _ r h b0 rd V {a with defers:=s++a.defers} (#[.func (.yield d.w.heap.size) #[] #[]]::ats) (#[.func (.yield d.w.heap.size) #[] #[]]++S) av (by simp_all [bT])
  (rangePost (FW rd) n P d.w.heap.size Q {a with defers:=s++a.defers}) (by
   intro c3 z u aw B i _ ag;have J:=i.stk;split at B
   .rename_i D aP ax
    rw[ax]at J;obtain⟨W,J⟩:=J;simp only[bT,and_true]at W;have E: ∀{o},eG aw.hp D=a6 o->eG c3.hp D=a6 o:=fun {o} ho=>by rw[i.hp];exact ho
    simp only[dn]at W;split at B
    .rename_i f3 ay az aA aB aF y
     obtain⟨_,hB,L3,M,aG,Z,e2,e3,e4,e5⟩:=i.ok.obj D _ (E y);have A:=W.2.2 _ _ _ _ _ _ _ _ (E y);have A:d.w.heap.size=(c3.mu D).blk:=by simpa using A
     obtain⟨c4,p1,p2,m,p4,p5,p6⟩:=MK i.ok (E y) M {L3 with state:=.exhausted,pending:=a7} (o':=.dead) (.inl rfl);refine⟨_,_,(by rw[A];exact run_endLoop M (by rw[e4];decide)), ?_⟩;rw[e5];simp only;rw[<-p5];refine hQ .normal c4 _ _ B ⟨by rw[p1,i.hp],by rw[p2,i.nxt],p4,bT.le m _ _ i.fr,FU.le m _ _ J, ?_, ?_⟩ ((ae.trans ag).trans m.mono)
     .obtain⟨Y,w1,w2,w3⟩:=i.df
      grind
     .intro l I;obtain⟨Ll,ab⟩:=i.rd l I;exact m.lp l Ll ab
    .rename_i f3 ay az aA aB aF e0 y
     obtain⟨_,hB,L3,M,aG,Z,e2,e3,e4,e5,e6⟩:=i.ok.obj D _ (E y);have A:=W.2.2 _ _ _ _ _ _ _ _ (E y);have A:d.w.heap.size=(c3.mu D).blk:=by simpa using A
     refine⟨_,_,(by rw[A];exact run_endLoop M (by rw[e4];decide)), ?_⟩;rw[e5];cases he0:e0.code with
     |none=>exact absurd he0 e6
     |some cd=>
      obtain⟨c4,p1,p2,m,p4,p5,p6⟩:=MK i.ok (E y) M {L3 with state:=.exhausted,pending:=a6 cd} (o':=.dead) (.inl rfl);simp only;refine atK he0 ?_;rw[<-p5];refine hQ e0 c4 _ _ B ⟨by rw[p1,i.hp],by rw[p2,i.nxt],p4,bT.le m _ _ i.fr,FU.le m _ _ J, ?_, ?_⟩ ((ae.trans ag).trans m.mono)
      .obtain⟨Y,w1,w2,w3⟩:=i.df
       grind
      .intro l I;obtain⟨Ll,ab⟩:=i.rd l I;exact m.lp l Ll ab
    .cases B
   .cases B)
 refine⟨d.w.heap.size,s,d.w.alloc (.loop L),{target:=.fn (.func g) S,args:= #[.func (.yield d.w.heap.size) #[] #[]]},d.w.alloc (.loop L),g,#[.func (.yield d.w.heap.size) #[] #[]]++S,d.w.alloc (.loop L),q7, ?_,fun _ _=>trivial, ?_,wC rd, ?_⟩
 .have aH:a.eval (.const (.func (.yield d.w.heap.size) #[] #[]))=.func (.yield d.w.heap.size) #[] #[]:=rfl;simp only[resolve,O];simp[go_sem,aH]
 .simp_all [invoke]
 simp_all [CX]
def abt {R:Type} (E:Env) (e:oH R) (g:abu) (f:FuncId) (c:Code) (L:dG):Prop:=
 ∀(r:R) (st:St) (v:L.V) (K:Ex->St->Option R),(∀h i d,PQ h i st=a6 d->WfH d.hp)->L.get st=a6 v->
  (bK (L.spec v) fun o=>dO o (fun a=>K (L.exA v) (L.stA st v a)) fun b=>K (L.exB v) (L.stB st v b))=a6 r->
  ∃m d,(match E.kp f (dM c)with|none=>d=st|some k=>PQ k.slots k.owns st=a6 d)/\iter (E.kp f (dM c)) (run E e g f c) m d K=a6 r
def ai4 {R:Type} (E:Env) (e:oH R) (g:abu) (f:FuncId) (c:Code) (L:dG):Prop:=
 ∀(r:R) (st:St) (v:L.V) (K:Ex->St->Option R),(∀h i d,PQ h i st=a6 d->WfH d.hp)->L.get st=a6 v->
  (bK (L.spec v) fun o=>dO o (fun a=>K (L.exA v) (L.stA st v a)) fun b=>K (L.exB v) (L.stB st v b))=a6 r->
  ∃m d,(match E.kp f (800000+dM c)with|none=>d=st|some k=>PQ k.slots k.owns st=a6 d)/\iter (E.kp f (800000+dM c)) (tH (run E e g f c)) m d K=a6 r
def jL {R:Type} (E:Env) (d:oH R) (e:abu) (f:FuncId):Code->Prop
 |.seq a b=>(jL E d e f a/\ ∀L,E.lp f (800000+dM b)=a6 L->L.dep.ble E.dp=true->ai4 E d e f b L)/\jL E d e f b
 |.cond _ a b=>jL E d e f a/\jL E d e f b
 |.block _ c=>jL E d e f c
 |.scope c=>jL E d e f c
 |.loop c=>jL E d e f c/\ ∀L,E.lp f (dM c)=a6 L->L.dep.ble E.dp=true->abt E d e f c L
 |.rangeFunc _ _ jr g=>jL E d e f jr/\jL E d e f g/\(E.rf f (dM g)=true->uq f (dM g)=a6 (jr,g))
 |_=>True
theorem iY {E:Env} {d:oH R} {e:abu} {f:FuncId} (h: ∀id,E.lp f id=a7) (h2: ∀id,E.rf f id=false): ∀c:Code,jL E d e f c
 |.seq a b=>⟨⟨iY h h2 a,fun L g=>by simp_all⟩,iY h h2 b⟩
 |.cond _ a b=>⟨iY h h2 a,iY h h2 b⟩
 |.block _ c=>iY (E:=E) h h2 c
 |.scope c=>iY (E:=E) h h2 c
 |.loop c=>⟨iY h h2 c,fun L g=>by simp_all⟩
 |.rangeFunc _ _ a b=>⟨iY h h2 a,iY h h2 b,fun i=>by simp_all⟩
 |.skip|.label _|.region _ _ _|.exit _|.goto _|.ret|.refuse _=>trivial
def ZZ (E:Env) (n:Nat):abu:=⟨fun j st=>mJ E n (R:=di) j st fun v _=>a6 v,mJ E n,mJ E n⟩
def dY (E:Env) (f:FuncId) (c:Code) (L:dG):Prop:=
 ∀(R:Type) (m:Nat),abt (R:=R) (E.at (m+L.dep)) (mJ E (m+L.dep)) (ZZ E (m+L.dep)) f c L
def qF (E:Env) (f:FuncId) (c:Code) (L:dG):Prop:=
 ∀(R:Type) (m:Nat),ai4 (R:=R) (E.at (m+L.dep)) (mJ E (m+L.dep)) (ZZ E (m+L.dep)) f c L
def dR (E:Env) (f:FuncId) (c:Code):Prop:= ∀(R:Type) (m:Nat),jL (R:=R) (E.at m) (mJ E m) (ZZ E m) f c
theorem jT {E:Env} {f:FuncId} (h: ∀id,E.lp f id=a7) (h2: ∀id,E.rf f id=false) (c:Code):dR E f c:=fun R m=>iY (E:=E.at m) h h2 c
theorem Q4 (hT:TOk P T) (hm:P.follows .mixedOrders=true) {n:Nat} {E:Env} (ay:E.T=T) {f:FuncId} {Z:oH R} {U:abu} (ai:nO P W0 n (yU E Z)) (hq:oM (R:=R) P (VX E U.q)) (az:xC P W0 Z) (hS:nO P W0 n (yU E U.s)) (hU:nO P W0 n (yU E U.u)) (aA: ∀R:Type,oM (R:=R) P (JZ E.sg E.cl)):
  ∀(code:Code),jL E Z U f code-> ∀(K:Ex->St->Option R) (Q:Exit->Act->World->Prop) (c:Cx) (st:St) (a:Act),run E Z U f code st K=a6 r->je W0 b0 rd c st a ats->b0<=c.w.heap.size->
   (∀e c' p z,K e p=a6 r->je W0 b0 rd c' p z ats->c.Mono c'->Q e.xt z c'.w)->code.wpIn (FW rd) n P Q a c.w:=by
 subst ay;intro code
 induction code with
 |skip=>intro _ K Q c st a h d B o;exact wpIn_skip (o .normal c st a h d (Cx.Mono.refl c))
 |label l=>intro _ K Q c st a h d B o;exact wpIn_label (o .normal c st a h d (Cx.Mono.refl c))
 |region id ops aB=>
  intro _ K Q c st a h d B o;simp only[run]at h;have aj: ∃M,Jr (E.kp f (600000+id)) st={st with fr:=M}/\bT c M a.tmps.toList:=by
   cases E.kp f (600000+id)with
   |none=>exact⟨st.fr,rfl,d.fr⟩
   |some k=>exact⟨_,rfl,Dq _ _ _ d.fr⟩
  obtain⟨M,e1,e2⟩:=aj;rw[e1]at h;replace d:je W0 b0 rd c {st with fr:=M} a ats:=⟨d.hp,d.nxt,d.ok,e2,d.stk,d.df,d.rd⟩;generalize ({st with fr:=M}:St)=st at h d;cases aB with
  |true=>
   simp only[aa]at h;rw[cond_eq_ite]at h;split at h
   .rename_i ae
    simp only[af]at ae;exact RJ hT hm hq ae.1 h d fun c' p z j=>o .normal c' p z j
   .split at h
    .rename_i l aF
     exact Zp hT hm ai aF h d fun c' p z j=>o .normal c' p z j
    .rw[cond_eq_ite]at h;split at h
     .rename_i ae
      simp only[af]at ae;exact RJ hT hm hq ae.1 h d fun c' p z j=>o .normal c' p z j
     replace h:=dN h;exact akl hT hm h.1 aA hS hU abL abL ai abL h.2 d fun c' p z j=>o .normal c' p z j
  |false=>
   simp only[ac]at h;exact wpIn_region_list (QO hT ai ops ops.toList c st a h d fun c' p z j=>o .normal c' p z j)
 |seq x y ihx V=>
  intro I K Q c st a h d B o;replace ihx:=ihx I.1.1;replace V:=V I.2;simp only[run]at h;refine wpIn_seq (ihx _ _ c st a h d B fun e c' p z j A D=> ?_);cases e with
  |normal=>
   have ah:=aQ B D.size;have aw: ∀e W ab ad,K e ab=a6 r->je W0 b0 rd W ab ad ats->c'.Mono W->Q e.xt ad W.w:=fun e W ab ad ak al an=>o e W ab ad ak al (D.trans an);have ao: ∀(N:Option eY) (m:Nat) (G:St),(match N with|none=>G=p|some k=>PQ k.slots k.owns p=a6 G)->iter N (tH (run E Z U f y)) m G (xu 999999 K)=a6 r->y.wpIn (FW rd) n P Q z c'.w:=by
    intro N m G O h2;cases N with
    |none=>grind [ZQ]
    |some k=>
     obtain⟨c1,X,ag,au⟩:=ry A O;rw[<-au];exact ZQ V m h2 X (aQ ah ag.size) fun e W ab ad ak al an=>aw e W ab ad ak al (ag.trans an)
   simp only[aM2,cutAt]at j;split at j
   .rename_i L hL
    replace j:=dN j;obtain⟨av,j⟩:=j;split at j
    .rename_i v S
     obtain⟨m,G,O,h2⟩:=I.1.2 L hL av r p v (xu 999999 K) (fun aG aH G ht=>let⟨c1,X,_,_⟩:=ry A ht;X.wf) S j;exact ao _ m G O h2
    .cases j
   .split at j
    .exact V _ _ c' p z j A ah aw
    .rename_i k hk
     split at j
     .rename_i G O
      exact ao (a6 k) bV G O j
     .cases j
  |exit id=>exact o (.exit id) c' p z j A D
  |goto l=>exact o (.goto l) c' p z j A D
  |ret=>exact o .ret c' p z j A D
 |cond cnd x y ihx V=>
  intro I K Q c st a h d B o;replace ihx:=ihx I.1;replace V:=V I.2;simp only[run]at h;have S:=eF d.fr cnd;split at h
  .rename_i b ah
   rw[ah]at S;simp only[dn]at S;have S:=S.bool_inv
   grind [wpIn_cond_true,wpIn_cond_false]
  .cases h
 |block id x J=>
  intro I K Q c st a h d B o;replace J:=J I;simp only[run]at h;refine wpIn_block (J _ _ c st a h d B fun e c' p z j A D=> ?_);cases e with
  |normal=>exact o .normal c' p z j A D
  |exit i=>
   simp only[xu]at j;simp only[Ex.xt,Exit.inBlock];rw[cond_eq_ite]at j;split at j
   .rename_i Y
    have Y:i=id:=by simpa using Y
    rw[am Y];exact o .normal c' p z j A D
   .rename_i Y
    have Y:i≠id:=by simpa using Y
    rw[aq Y];exact o (.exit i) c' p z j A D
  |goto l=>exact o (.goto l) c' p z j A D
  |ret=>exact o .ret c' p z j A D
 |loop x J=>
  intro I K Q c st a h d B o;replace J:=J I.1;have ao: ∀(N:Option eY) (m:Nat) (G:St),(match N with|none=>G=st|some k=>PQ k.slots k.owns st=a6 G)->iter N (run E Z U f x) m G K=a6 r->(Code.loop x).wpIn (FW rd) n P Q a c.w:=by
   intro N m G O h2;cases N with
   |none=>grind [WT]
   |some k=>
    obtain⟨c1,X,ag,au⟩:=ry d O;rw[<-au];exact WT J m h2 X (aQ B ag.size) fun e c' p z j A D=>o e c' p z j A (ag.trans D)
  simp only[run]at h;split at h
  .rename_i L hL
   replace h:=dN h;obtain⟨av,h⟩:=h;split at h
   .rename_i v S
    obtain⟨m,G,O,h2⟩:=I.2 L hL av r st v K (fun aG aH G ht=>let⟨c1,X,_,_⟩:=ry d ht;X.wf) S h
    grind
   .cases h
  grind
 |exit id=>intro _ K Q c st a h d B o;exact wpIn_exit (o (.exit id) c st a h d (Cx.Mono.refl c))
 |goto l=>intro _ K Q c st a h d B o;exact wpIn_goto (o (.goto l) c st a h d (Cx.Mono.refl c))
 |ret=>intro _ K Q c st a h d B o;exact wpIn_ret (o .ret c st a h d (Cx.Mono.refl c))
 |scope x J=>
  intro I K Q c st a h d B o;replace J:=J I;simp only[run]at h;refine amw (J _ _ c st a h d B fun e c' p z j A D=> ?_);cases e with
  |normal=>exact⟨(fun l e=>by cases e),o .normal c' p z j A D⟩
  |exit i=>exact⟨(fun l e=>by cases e),o (.exit i) c' p z j A D⟩
  |goto l=>simp[ayd]at j
  |ret=>exact⟨(fun l e=>by cases e),o .ret c' p z j A D⟩
 |rangeFunc fv ps jr bd _ _=>
  intro I K Q c st a h d B o;simp only[run]at h;split at h
  .rename_i g aK aI
   have aJ: ∀k,(bif E.rf f (dM bd)then a6 (dM bd)else a7)=a6 k->uq f k=a6 (jr,bd):=fun k hk=>by
    cases hrf:E.rf f (dM bd)with
    |false=>simp_all
    |true=>rw[hrf]at hk;cases hk;exact I.2.2 hrf
   have aj: ∃M,Jr (E.kp f (500000+dM bd)) st={st with fr:=M}/\bT c M a.tmps.toList:=by
    cases E.kp f (500000+dM bd)with
    |none=>exact⟨st.fr,rfl,d.fr⟩
    |some k=>exact⟨_,rfl,Dq _ _ _ d.fr⟩
   obtain⟨M,e1,e2⟩:=aj;rw[e1]at h;have ax:=eF d.fr fv;rw[aI]at ax;exact aig (st:={st with fr:=M}) az ax aJ h ⟨d.hp,d.nxt,d.ok,e2,d.stk,d.df,d.rd⟩ B o
  .cases h
 |refuse s=>simp_all [run]
end
end
section
open Option renaming some → a6, none → a7
open Nat renaming le_refl → ae
open Go.RowKit
section
variable {P:Program} {T:TT} {W0:World} {b0:Nat} {rd:Option Nat} {R:Type} {r:R} {c:Cx} {ats:List (Array Value)}
theorem afd (i:c.Ok W0) {x:di} {e:Ty} {j:List e.den} {u:Value} (h:x.as c.hp (.list e)=a6 j) (hx:dn c x u) {a:Option Addr} {m cp:Nat} (o:u=.slice a m cp):m<=cp:=by
 subst o;cases x with
 |val f z=>
  simp only[di.as]at h;have e:=iV h;subst e
  grind [dn,tZ]
 |nils=>
  simp_all [dn]
 |lst f z b=>
  grind [dn,tZ]
 |emp=>
  simp_all [dn]
 |slc id ver q=>
  simp only[di.as,Eh]at h;split at h
  .rename_i f v y g
   replace h:=dN h;obtain⟨d,h⟩:=h;have d:v=ver:=by simpa using d
   subst d;simp only[dn]at hx;have A:=(hx.2.2 _ _ _ g).2 rfl;obtain⟨_,B,D,s,E,G⟩:=i.obj id _ g;obtain⟨I,J,d,K,L⟩:=ut s;cases q with
   |none=>
    simp_all [jv]
   |some p=>
    grind [jv]
  .cases h
 |agg l=>simp[di.as,Ty.isAgg]at h
 |_=>simp[di.as]at h
def atX (c cb:Cx):Prop:= ∀b,b<c.w.heap.size->cb.free b/\cb.w.heap[b]? =c.w.heap[b]?
theorem I4 (f:c.Ok W0) {cb:Cx} (d:atX c cb) {x:di} {e:Ty} {g:List e.den} {u:Value} (h:x.as c.hp (.list e)=a6 g) (hx:dn c x u):VD cb (.list e) g u:=by
 obtain⟨a,cp,l,i,m,o⟩:=afe f h hx;have p:=afd f h hx i;refine(VD.leaf rfl).2 ⟨a,cp,l,by rw[i],p,gW.mono (fZ.mono (fun b q=>d b q.1) e) _ _ m,o.imp id fun⟨b,s,v,j,y⟩=>⟨b,s,v,(d b j).1,y.of_block (d b j).2⟩⟩
theorem aqH (j:c.Ok W0) {cb:Cx} (f:atX c cb) {v i:di} {u:Value} (h:ZG c.hp v=a6 i) (d:dn c v u):dn cb i u:=by
 cases v with
 |val t x=>
  simp only[ZG,Option.some.injEq]at h;subst h;simp only[dn]at d ⊢;exact⟨fun e=>let⟨cs,l,m⟩:=d.1 e;⟨cs,l,fZ.mono (fun b g=>f b g.1) t x _ m⟩,fun e=>fZ.mono (fun b g=>f b g.1) t x _ (d.2 e)⟩
 |nils=>
  grind [ZG,dn]
 |slc id ver o=>
  simp only[ZG]at h;split at h
  .rename_i t w p q
   rw[cond_eq_ite]at h;split at h
   .rename_i s
    cases h;simp only[dn];refine I4 j f (x:=.slc id ver o) ?_ d;simp_all [di.as,Eh,ik]
   .cases h
  .cases h
 |_=>simp[ZG]at h
theorem VG (f:c.Ok W0) {cb:Cx} (g:atX c cb): ∀(l e:List di) (us:List Value),VF c.hp l=a6 e->bT c l us->bT cb e us
 |[],e,[],h,_=>by simp_all [VF,bT]
 |v::l,e,u::us,h,d=>by
  simp only[VF]at h;split at h
  .rename_i o i
   split at h
   .rename_i j m
    cases h;simp only[bT]at d ⊢;exact⟨aqH f g i d.1,VG f g l j us m d.2⟩
   .cases h
  .cases h
 |[],_,_::_,_,d=>by simp[bT]at d
 |_::_,_,[],_,d=>by simp[bT]at d
def Cx.base (c:Cx) (w:World) (d:Nat->Prop):Cx:=⟨c.mu,[],c.nxt,w,[],d⟩
theorem aCy {w:World} {d:Nat->Prop} (e:Phi w) (hb: ∀b,d b->b<w.heap.size):(c.base w d).Ok w:=
 ⟨Below.refl _ _,fun id o h=>by simp[Cx.base,eG]at h,fun i j o p b h=>by simp[Cx.base,eG]at h,fun r f=>by simp[Cx.base]at f,fun b h=>⟨hb b h,(by rintro ⟨i,o,h,_⟩;simp[Cx.base,eG]at h),by simp[Cx.base]⟩,e⟩
theorem aqM {w:World} {d:Nat->Prop} {b:Nat}:(c.base w d).free b↔b<w.heap.size/\ ¬d b:=by
 constructor
 .intro h;exact⟨h.1,h.2.2.2⟩
 .rintro ⟨e,f⟩;exact⟨e,(by rintro ⟨i,o,h,_⟩;simp[Cx.base,eG]at h),by simp[Cx.base],f⟩
theorem auf {w:World} {d:Nat->Prop} (f:Phi w) (hb: ∀b,d b->b<w.heap.size) {e:Nat} (g:e=c.nxt):je w 0 a7 (c.base w d) ⟨[],[],[],e⟩ ⟨#[],[]⟩ []:=
 ⟨rfl,g.symm,aCy f hb,by simp[bT],trivial,⟨[],rfl,List.nodup_nil,fun r h=>by simp at h⟩,fun l i=>by cases i⟩
theorem ORel.le0 {B:Nat} {c c':Cx} {id:Nat} {o:eu} (h:c.ORel B id o) (hl:c.Le0 c') (d:c'.mu id=c.mu id) (hb: ∀b,o.blk (c.mu id)=a6 b->c'.w.heap[b]? =c.w.heap[b]?):c'.ORel B id o:=by
 cases o with
 |box e cs=>
  obtain⟨g,q,i,j,l⟩:=h;refine⟨by rw[d];exact g,q,by rw[d,hb _ rfl];exact i,bT.le0 hl _ _ j,l⟩
 |arr t ver x=>
  obtain⟨m,e,s,g,i,j⟩:=h;refine⟨m,e,s, ?_,gW.mono (fZ.mono hl.free t) _ _ i,j⟩;rw[d];exact DD g fun b u=>hb b u
 |lp f fr ps jr bd ky n p=>
  obtain⟨m,g,L,i,j,l⟩:=h;exact⟨m,by rw[d];exact g,L,by rw[d,hb _ rfl];exact i,bT.le0 hl _ _ j,l⟩
 |dead=>trivial
 |mp kk vk y=>
  obtain⟨g,v,cl,i,j⟩:=h;exact⟨by rw[d];exact g,v,cl,by rw[d,hb _ rfl];exact i,j⟩
theorem Cx.Le0.trans {a b c:Cx} (h:a.Le0 b) (k:b.Le0 c):a.Le0 c:=
 ⟨fun x e=>⟨(k.out x (h.out x e).1).1,(k.out x (h.out x e).1).2.trans (h.out x e).2⟩,fun i d=>k.ref i (h.ref i d),fun i o d f=>by
  obtain⟨g,j,l⟩:=k.obj i o (h.ref i d) f;obtain⟨m,p,q⟩:=h.obj i g d j
  grind [eu.like_trans],k.bar.trans h.bar⟩
theorem YI {n:Nat} {fn:Func} {tmps:Array Value} {Rr:Ending->World->Prop}: ∀(l:List Nat) (c:Cx),c.Ok W0->l.Nodup->(∀r∈l,r∈c.mks)->
  ∃c',c'.hp=c.hp/\c'.nxt=c.nxt/\c.Le0 c'/\c'.Ok W0/\(∀r∈c.mks,r∉l->r∈c'.mks)/\(∀(b:Nat) (L:Loop),c.w.heap[b]? =a6 (Obj.loop L)-> ∃A:Loop,c'.w.heap[b]? =a6 (Obj.loop A))/\c.w.heap.size<=c'.w.heap.size/\c'.bar=c.bar/\
   (LeavesIn (FW a7) n P fn tmps Rr [] .returning c'.w->LeavesInM (FW a7) n P fn tmps Rr (l.map mkD) .returning c.w)
 |[],c,f,_,_=>⟨c,rfl,rfl,(Cx.Le.refl c).le0,f,fun r m _=>m,fun b L x=>⟨L,x⟩,ae _,rfl,fun h=>h⟩
 |d::l,c,f,B,y=>by
  obtain⟨V,D⟩:=List.nodup_cons.1 B;have hd:=y d (by simp);have u:=f.mks d hd;have W:=f.mark_lt hd
  let i:Cx:={c with w:=c.w.putObj d (.deferred a7),mks:=c.mks.filter fun r=>r !=d}
  have p: ∀b,b≠d->i.w.heap[b]? =c.w.heap[b]? :=fun b g=>World.putObj_heap_other g;have v:c.Le0 i:=⟨fun b g=>⟨⟨by simpa [i] using g.1,g.2.1,(fun E=>g.2.2 (List.mem_filter.1 E).1)⟩,p b fun e=>g.2.2 (e▸hd)⟩,fun _ h=>h,fun id o _ q=>⟨o,q,o.like_refl _⟩,rfl⟩;have G:i.Ok W0:=by
   refine⟨⟨f.bel.os,f.bel.tape,f.bel.output,by simpa [i] using f.bel.size,fun j I=>(p j (by have:=u.1;omega)).trans (f.bel.block j I)⟩,fun id o q=>ORel.le0 (f.obj id o q) v rfl fun b g=>p b fun e=> ?_,f.inj,fun r m=> ?_,fun b g=>(v.out b (f.bar b g)).1,f.phi⟩
   .subst e;exact(f.obj id o q).no_mark g u.2
   .obtain⟨z,s⟩:=List.mem_filter.1 m;have s:r≠d:=by simpa using s
    exact⟨(f.mks r z).1,(p r s).trans (f.mks r z).2⟩
  obtain⟨J,K,M,N,O,X,Y,Z,S,U⟩:=YI (n:=n) (fn:=fn) (tmps:=tmps) (Rr:=Rr) l i G D fun r m=>List.mem_filter.2 ⟨y r (by simp[m]),by
   grind⟩
  refine⟨J,K,M,v.trans N,O,fun r m s=> ?_,fun b L x=> ?_, ?_,S,fun h=> ?_⟩
  .grind
  .grind
  .have:c.w.heap.size=i.w.heap.size:=by simp[i]
   omega
  .exact⟨by simp,.inl ⟨d,_,rfl,run_takeDeferred u.2,U h⟩⟩
theorem ayo {t:TypeId} {v u:Value} {w w':World} (h:(Instr.loadAt t v).run P w=.ok u w'):(do loadVar t (<-asAddr v):Sem Value).run P w=.ok u w':=by
 unfold Instr.loadAt at h;cases v<;>try (simp[Instr.sureAddr,stuck,Sem.run_bind,Result.andThen]at h;done)
 rename_i p
 cases p<;>first|exact h|simp_all [Instr.sureAddr]
def QX (tmps:Array Value):ResultVar->Sem Value
 |.tmp t=>pure (tmps.getD t undef)
 |.cell a t=>do loadVar t (<-asAddr (tmps.getD a undef))
theorem CB (hT:TOk P T) (e:c.Ok W0) {st:St} {tmps:Array Value} (f:c.hp=st.hp) (d:bT c st.fr tmps.toList): ∀(l:List ResultVar) (K:List di->Option R),ve T st l K=a6 r->
  ∃vs us,K vs=a6 r/\bT c vs us/\(l.mapM (QX tmps)).run P c.w=.ok us c.w
 |[],K,h=>⟨[],[],h,by simp[bT],rfl⟩
 |.tmp t::l,K,h=>by
  simp only[ve]at h;obtain⟨vs,us,g,i,j⟩:=CB hT e f d l _ h;refine⟨_,tmps.getD t undef::us,g,by simp only[bT];exact⟨d.getD t,i⟩, ?_⟩;simp_all [QX]
 |.cell a t::l,K,h=>by
  simp only[ve]at h;rw[<-f]at h;obtain⟨z,u,g,i,j⟩:=azy hT e h (d.getD a);obtain⟨vs,us,m,o,p⟩:=CB hT e f d l _ g;refine⟨_,u::us,m,by simp_all [bT], ?_⟩;have q:=ayo (j c.w (Below.refl _ _))
  grind [Sem.run_bind,QX,Result.andThen_ok,Sem.run_pure]
def TW:List Value->Value
 |[v]=>v
 |vs=>.tuple vs.toArray
theorem DJ {vs:List di} {us:List Value} (h:bT c vs us):dn c (QW vs) (TW us):=by
 match vs,us,h with
 |[],[],h=>simp only[QW,TW,dn];simp_all
 |[v],[u],h=>simpa [QW,TW,bT] using h
 |v::d::vs,u::e::us,h=>simp only[QW,TW,dn];simp_all
 |[],_::_,h=>simp[bT]at h
 |_::_,[],h=>simp[bT]at h
 |[_],_::_::_,h=>simp[bT]at h
 |_::_::_,[_],h=>simp[bT]at h
theorem ail {fn:Func} {tmps:Array Value} {us:List Value} {w:World} (h:(fn.results.toList.mapM (QX tmps)).run P w=.ok us w):(results fn tmps).run P w=.ok (TW us) w:=by
 have e:results fn tmps=(do let d<-fn.results.mapM (QX tmps);pure (if h:d.size=1 then d[0]else .tuple d)):=rfl;have f:(fn.results.mapM (QX tmps)).run P w=.ok us.toArray w:=by
  simp_all [Array.mapM_eq_mapM_toList]
 rw[e,Sem.run_bind,f]
 match us with
 |[]=>rfl
 |[v]=>rfl
 |v::g::d=>rfl
end
end
section
open Option renaming some → a6, none → a7
open Bool renaming and_eq_true → af
open Nat renaming eq_of_beq_eq_true → aj, lt_of_lt_of_le → bz
open Go.RowKit
def MX (P:Program):Prop:= ∀(f:FuncId) (fn:Func) (c:Code),P.funcs[f]? =a6 fn->fn.body=a6 c->(fn.name== "runtime.NumGoroutine")=false
def Gq {R:Type} (P:Program) (W0:World) (o:oH R):Prop:=
 ∀(id:Nat) (h:List di) (st:St) (K:di->St->Option R) (r:R),o (.yield id h) st K=a6 r->
  ∀(b0:Nat) (rd:Option Nat) (c:Cx) (a:Act) (ats:List (Array Value)) (i:Array Value),je W0 b0 rd c st a ats->bT c h i.toList->
   (∃f q s jr d v k p,eG st.hp id=a6 (.lp f q s jr d v k p))/\
   ∀j:Ending->World->Prop,(∀e z u l,K z l=a6 r->je W0 b0 rd e l a ats->dn e z u->c.Mono e->j (.returned u) e.w)->
    ∀n,∃g m jr d,(Instr.yield (c.mu id).blk i).run P c.w=.ok (.round (c.mu id).blk g m jr d) c.w/\RoundIn (FW rd) n P (c.mu id).blk g m jr d c.w j
def Iq {R:Type} (g:FuncId) (s:Sum) (cl:Bool):gY R:=fun d e f st K=>match d with
 |.fn g' h=>if g'=g then s.call cl (e++h) f st K else a7
 |_=>a7
def D6 (P:Program) (g:FuncId):Prop:= ∀(w:World) (b:Nat),w.shape? b=a6 (ZJ,2)->w.frozen? ⟨b,0,a7⟩=false->
 (callFunc g #[.pointer (a6 ⟨b,0,a7⟩)]).run P w=.ok (.enter g #[.pointer (a6 ⟨b,0,a7⟩)]) w/\
 (w.cell? ⟨b,0,a7⟩=a6 (.pointer (a6 ⟨b,0,a7⟩))->Calls P g #[.pointer (a6 ⟨b,0,a7⟩)] w fun e d=>e=.returned (.tuple #[])/\d=w)/\
 (w.cell? ⟨b,0,a7⟩=a6 (.pointer a7)->Calls P g #[.pointer (a6 ⟨b,0,a7⟩)] w fun e d=>e=.returned (.tuple #[])/\d=w.setCell ⟨b,0,a7⟩ (.pointer (a6 ⟨b,0,a7⟩)))
def Ru {R:Type} (g:FuncId) (s:gK) (cl:Bool):gY R:=fun d e h st K=>match d with
 |.fn g' f=>if g'=g then s.call cl (e++f) st K else a7
 |_=>a7
structure yR (P:Program) (E:Env):Prop where
 T:TOk P E.T
 x: ∀(R:Type) (W0:World) (n:Nat) (g:FuncId) (s:gK),E.sb g=a6 s->nO (R:=R) P W0 n (Ru g s E.cl)
 b: ∀g,E.bf g=true->D6 P g
 v: ∀(R:Type) (W0:World) (n:Nat) (g:FuncId) (s:Sum),E.sg g=a6 s->nO (R:=R) P W0 n (Iq g s E.cl)
 q: ∀(R:Type) (g:FuncId) (s:Sum),E.sg g=a6 s->(s.rs.all fun r=> !r.2&&r.1.rigid)=true->oM (R:=R) P (Iq g s E.cl)
section
variable {P:Program} {T:TT} {W0:World} {b0:Nat} {rd:Option Nat} {R:Type} {r:R} {c:Cx} {ats:List (Array Value)}
theorem Ef (e:MX P) {f:FuncId} {fn:Func} {d:Code} (hf:P.funcs[f]? =a6 fn) (hb:fn.body=a6 d) (args:Array Value) (w:World):(callFunc f args).run P w=.ok (.enter f args) w:=by
 have g:=e f fn d hf hb;simp_all [callFunc]
theorem uO {g:FuncId} {vs args:Array Value} {w:World}:(do let d<-Deferred.ofValue (.func (.func g) #[] vs) args;invoke d.target d.args:Sem Next).run P w=(callFunc g (args++vs)).run P w:=by
 grind [Deferred.ofValue,invoke]
theorem WR {g:FuncId} {vs args:Array Value} {w:World}:(do let d<-Deferred.ofValue (.func (.func g) vs #[]) args;invoke d.target d.args:Sem Next).run P w=(callFunc g (vs++args)).run P w:=by
 rfl
theorem acv {l:Nat} {args:Array Value} {w:World}:(do let d<-Deferred.ofValue (.func (.yield l) #[] #[]) args;invoke d.target d.args:Sem Next).run P w=(Instr.yield l args).run P w:=by
 grind [Deferred.ofValue,invoke]
theorem bT.append_arr {l m:List di} {xs d:Array Value} (h:bT c l xs.toList) (k:bT c m d.toList):bT c (l++m) (xs++d).toList:=by
 simp_all [bT.append]
theorem aal: ∀(h:iw) (i:Nat) (o:eu),eG h i=a6 o->jB h i o=h
 |[],_,_,_=>rfl
 |(k,p)::h,i,o,d=>by
  rw[fB]at d;simp only[jB];by_cases e:k=i
  .simp_all
  .rw[aq e]at d;have f:(k==i)=false:=by simpa using e
   simp[f,aal h i o d]
theorem agn {g:FuncId} (hT:TOk P T) (Y:D6 P g) {args:List di} {st:St} {K:di->St->Option R} (h:VP T args st K=a6 r) {a:Act} (d:je W0 b0 rd c st a ats) {us:Array Value} (v:bT c args us.toList)
  (Rr:Ending->World->Prop) (E: ∀c' z u G,K z G=a6 r->je W0 b0 rd c' G a ats->dn c' z u->c.Mono c'->Rr (.returned u) c'.w):
  (callFunc g us).run P c.w=.ok (.enter g us) c.w/\Calls P g us c.w Rr:=by
 unfold VP at h;split at h<;>try (cases h;done)
 rename_i id
 split at h<;>try (cases h;done)
 rename_i t i l m o f
 replace h:=dN h;obtain⟨I,h⟩:=h;simp only[af]at I;obtain⟨A,hk,j⟩:=I;have A:i=id:=aj A;subst A;have Z:=hT.bldr hk j;rw[<-d.hp]at f;obtain⟨hB,B,J,s,ae⟩:=d.ok.obj i _ f;obtain⟨us⟩:=us
 match us,v with
 |[u],v=>
  simp only[bT,dn,and_true]at v;have hu:=v.2.2 _ _ f;subst hu;obtain⟨B⟩:=B
  match B,s with
  |[p,q],s=>
   simp only[bT,and_true]at s;have x:=s.1;simp only[dn]at x;have x:=x.2.2 _ _ f;rw[Z]at J;have y:c.w.heap[(c.mu i).blk]? =a6 (.cells #[p,q] ZJ (0,0)):=J;have M:c.w.cell? ⟨(c.mu i).blk,0,a7⟩=a6 p:=by simp[World.cell?,y]
   obtain⟨h1,h2,h3⟩:=Y c.w (c.mu i).blk (by simp[World.shape?,y]) (by simp[World.frozen?,y]);refine⟨h1, ?_⟩;have N: ∀c',dn c' (.tup []) (.tuple #[]):=fun c'=>by simp only[dn];exact⟨#[],rfl,by simp[bT]⟩
   rcases x with e|e
   .subst e;refine(h3 M).mono ?_;rintro e w' ⟨rfl,rfl⟩;have ag:(c.mu i).blk<c.w.heap.size:=(Array.getElem?_eq_some_iff.1 y).1;have ah:(c.w.setCell ⟨(c.mu i).blk,0,a7⟩ (.pointer (a6 ⟨(c.mu i).blk,0,a7⟩))).heap[(c.mu i).blk]? =a6 (.cells #[.pointer (a6 ⟨(c.mu i).blk,0,a7⟩),q] ZJ (0,0)):=by
     grind [World.setCell]
    have O: ∀b,(c.mu i).blk≠b->(c.w.setCell ⟨(c.mu i).blk,0,a7⟩ (.pointer (a6 ⟨(c.mu i).blk,0,a7⟩))).heap[b]? =c.w.heap[b]? :=fun b j=>by
     grind [World.setCell]
    have S:(c.w.setCell ⟨(c.mu i).blk,0,a7⟩ (.pointer (a6 ⟨(c.mu i).blk,0,a7⟩))).heap.size=c.w.heap.size:=by simp[World.setCell]
    have U: ∀(b:Nat) (L:Loop),(eu.box t [.slf i,.slc l m o]).blk (c.mu i)=a6 b->c.w.heap[b]? =a6 (Obj.loop L)-> ∃L':Loop,(c.w.setCell ⟨(c.mu i).blk,0,a7⟩ (.pointer (a6 ⟨(c.mu i).blk,0,a7⟩))).heap[b]? =a6 (Obj.loop L'):=fun b L j hL=>absurd hL ((d.ok.obj i _ f).no_loop (by simp) j);have V: ∀b,b<c.w.heap.size->(eu.box t [.slf i,.slc l m o]).blk (c.mu i)≠a6 b->(c.w.setCell ⟨(c.mu i).blk,0,a7⟩ (.pointer (a6 ⟨(c.mu i).blk,0,a7⟩))).heap[b]? =c.w.heap[b]? :=fun b _ ab=>O b fun e=>ab (by simp[eu.blk,e]);have W: ∀b,(eu.box t [.slf i,.slc l m o]).blk (c.mu i)=a6 b->(eu.box t [.slf i,.slc l m o]).blk (c.mu i)=a6 b\/c.w.heap.size<=b:=fun b j=>.inl j;have ad:Below W0.heap.size W0 (c.w.setCell ⟨(c.mu i).blk,0,a7⟩ (.pointer (a6 ⟨(c.mu i).blk,0,a7⟩))):=
     ⟨d.ok.bel.os,d.ok.bel.tape,d.ok.bel.output,by omega,fun b j=>(O b (by omega)).trans (d.ok.bel.block b j)⟩
    have X:=eu.like_refl (.box t [.slf i,.slc l m o]) (c.mu i);have D:=Cx.Le.put d.ok f X (Nat.le_of_eq S.symm) V W U;have hd:Gg W0 c st (c.put i (.box t [.slf i,.slc l m o]) (c.mu i) (c.w.setCell ⟨(c.mu i).blk,0,a7⟩ (.pointer (a6 ⟨(c.mu i).blk,0,a7⟩)))) st:=by
     refine⟨by simp only[Cx.put];rw[aal _ _ _ f,d.hp],d.nxt,rfl,rfl,Cx.Ok.put d.ok f X ad (Nat.le_of_eq S.symm) V W U ?_,D⟩;refine⟨by simp only[Cx.put,upd_same];exact hB,#[.pointer (a6 ⟨(c.mu i).blk,0,a7⟩),q], ?_, ?_, ?_⟩
     .simp_all [Cx.put,upd_same]
     .simp only[bT,and_true];refine⟨?_,dn.le D _ _ s.2⟩;simp only[dn];exact⟨rfl,.inl ⟨_,Cx.put_get f⟩,fun _ _ _=>.inr (by simp[Cx.put,upd_same])⟩
     simp_all
    exact E _ (.tup []) (.tuple #[]) st h (d.did hd) (N _) D.mono
   .subst e;refine(h2 M).mono ?_;rintro e w' ⟨rfl,rfl⟩;exact E c (.tup []) (.tuple #[]) st h d (N _) (Cx.Mono.refl c)
theorem lJ {E:Env} (L:yR P E) {O:oH R} (W:xC P W0 O) (hy:Gq P W0 O) (n:Nat):nO P W0 n (yU E O):=by
 intro b0 rd fv I S st K r h c a ats X l j i m o next Q q
 cases fv with
 |fn g U=>
  simp only[yU]at h;split at h
  .rename_i s M
   exact L.v R W0 n g s M b0 rd (.fn g U) I S st K r (by simp_all [Iq]) c a ats X l j i m o next Q q
  split at h
  .rename_i s M
   exact L.x R W0 n g s M b0 rd (.fn g U) I S st K r (by simp_all [Ru]) c a ats X l j i m o next Q q
  .rw[cond_eq_ite]at h;split at h
   .rename_i ab
    simp only[dn]at i;obtain⟨J,rfl,V⟩:=i;obtain⟨N,y⟩:=agn L.T (L.b g ab) h j (us:=l++J) (bT.append_arr m V)
     (fun e d=>match e with
      |.returned v=>next (a.put o.dst v) d
      |.panicked A=>Q (.panic A) a d
      |.outgrown=>LetsOut Q) (fun B z u D k1 k2 k3 k4=>q B z u D k1 k2 k3 k4)
    rw[uO,N];exact⟨wC rd,(CX y).mono fun e d G=>by cases e<;>exact G⟩
   simp only[dn]at i;obtain⟨J,rfl,V⟩:=i;obtain⟨N,y⟩:=W g (I++U) st K r h b0 rd c a ats (l++J) j (bT.append_arr m V)
    (fun e d=>match e with
     |.returned v=>next (a.put o.dst v) d
     |.panicked A=>Q (.panic A) a d
     |.outgrown=>LetsOut Q) (fun B z u D k1 k2 k3 k4=>q B z u D k1 k2 k3 k4)
   rw[uO,N];exact⟨wC rd,(CX y).mono fun e d G=>by cases e<;>exact G⟩
 |mfn g Y=>
  simp only[yU]at h;simp only[dn]at i;obtain⟨J,rfl,Z⟩:=i;split at h
  .rename_i s M
   have h0:=L.x R W0 n g s M b0 rd (.fn g []) (Y++I) S st K r (by simp_all [Ru]) c a ats (.func (.func g) #[] #[]) (J++l) j (by simp only[dn];exact⟨#[],rfl,by simp[bT]⟩) (bT.append_arr Z m) o next Q q
   grind [WR]
  obtain⟨N,y⟩:=W g (Y++I) st K r h b0 rd c a ats (J++l) j (bT.append_arr Z m)
   (fun e d=>match e with
    |.returned v=>next (a.put o.dst v) d
    |.panicked A=>Q (.panic A) a d
    |.outgrown=>LetsOut Q) (fun B z u D k1 k2 k3 k4=>q B z u D k1 k2 k3 k4)
  rw[WR,N];exact⟨wC rd,(CX y).mono fun e d G=>by cases e<;>exact G⟩
 |yld id=>
  simp only[yU]at h;obtain⟨⟨f,fr,ps,jr,bd,ky,k,p,hg⟩,y⟩:=hy id I st K r h b0 rd c a ats l j m;simp only[dn]at i;have:=i.2.2 f fr ps jr bd ky k p (by rw[j.hp];exact hg);subst this;obtain⟨g,ad,jr,bd,h3,h4⟩:=y
    (fun e d=>match e with
     |.returned v=>next (a.put o.dst v) d
     |.panicked A=>Q (.panic A) a d
     |.outgrown=>LetsOut Q) (fun B z u D k1 k2 k3 k4=>q B z u D k1 k2 k3 k4) (n-1)
  rw[acv,h3];exact⟨wC rd,h4.mono fun e d G=>by cases e<;>exact G⟩
 |_=>simp[yU]at h
theorem Gt {E:Env} (A:yR P E) {o:oH di} (B: ∀W0,xC P W0 o):oM (R:=R) P (VX E fun j st=>o j st fun v _=>a6 v):=by
 intro W0 b0 rd D G I st K r h c a ats J l d m p;cases D with
 |fn g L=>
  cases L with
  |nil=>
   simp only[VX]at h;split at h
   .rename_i s M
    rw[cond_eq_ite]at h;split at h
    .rename_i N
     exact A.q R g s M N W0 b0 rd (.fn g []) G I st K r (by simp_all [Iq]) c a ats J l d m p
    .cases h
   .split at h
    .rename_i O S
     split at h
     .rename_i v U
      rw[cond_eq_ite]at h;split at h
      .rename_i x
       simp only[dn]at m;obtain⟨V,rfl,W⟩:=m;have X:V= #[]:=by
        have:=bT.length _ _ W
        grind
       subst X;refine⟨v,rv v,h,(MJ x _).2 rfl,fun i f=>.inl ⟨g,l, ?_⟩⟩;have Y:je i 0 a7 (c.base i fun _=>False) ⟨[],[],[],st.nxt⟩ ⟨#[],[]⟩ []:=auf (Phi.below f d.ok.phiw) (fun b h=>h.elim) d.nxt.symm;have Z:atX c (c.base i fun _=>False):=fun b y=>⟨aqM.2 ⟨bz y f.size,fun h=>h⟩,f.block b y⟩;obtain⟨h1,h2⟩:=B i g O _ _ v U 0 a7 _ _ [] l Y (VG d.ok Z _ _ _ (by rw[d.hp];exact S) p)
        (fun e ab=>e=.returned (rv v)/\JP c ab) (fun c' z u ad k1 k2 k3 k4=>by
         simp only[Option.some.injEq]at k1;subst k1;refine⟨by rw[(MJ x u).1 k3], ?_⟩;exact f.trans (k2.ok.bel.mono f.size))
       refine⟨?_,h2⟩;rw[uO,Array.append_empty];exact h1
      .cases h
     .cases h
    .cases h
  |cons _ _=>simp[VX]at h
 |_=>simp[VX]at h
theorem KA: ∀k,bT c (List.replicate k (.tup [])) (List.replicate k undef)
 |0=>by simp[bT]
 |k+1=>by
  simp only[List.replicate_succ,bT,dn];exact⟨⟨#[],rfl,by simp[bT]⟩,KA k⟩
theorem ae5 {l:Nat} {Rr:Ending->World->Prop} {e:Ex} {a:Act} {w:World} (h: ∃v w',(Instr.endRound l e.code).run P w=.ok v w'/\Rr (.returned v) w'):roundPost P l Rr e.xt a w:=by
 cases e<;>exact h
theorem KJ: ∀(d:List Nat) (fr args:List di) (f:List Value) (tmps:Array Value),bT c fr tmps.toList->bT c args f->bT c (yH fr d args) ((d.zip f).foldl (fun tmps (t,a)=>tmps.setIfInBounds t a) tmps).toList
 |[],fr,args,f,tmps,h,_=>by simp_all [yH]
 |p::d,fr,[],[],tmps,h,_=>by assumption
 |p::d,fr,v::args,u::f,tmps,h,e=>by
  simp only[bT]at e;simp only[yH,List.zip_cons_cons,List.foldl_cons];refine KJ d _ args f _ ?_ e.2;simp_all [bT.set]
 |p::d,fr,[],_::_,tmps,h,e=>by simp[bT]at e
 |p::d,fr,_::_,[],tmps,h,e=>by simp[bT]at e
end
end
section
open Option renaming some → a6, none → a7
open Bool renaming and_eq_true → af
open Nat renaming le_refl → ae, le_trans → aQ
open Go.RowKit
section
variable {P:Program} {T:TT} {W0:World} {b0:Nat} {rd:Option Nat} {R:Type} {r:R} {c:Cx} {ats:List (Array Value)}
def vJ (P:Program) (E:Env):Prop:= ∀(f:FuncId) (fn:Func) (c:Code),P.funcs[f]? =a6 fn->fn.body=a6 c->dR E f c
def ai8 (E:Env):Prop:= ∀f k jr d,uq f k=a6 (jr,d)->dR E f jr/\dR E f d
theorem uo {E:Env} {g:oH R} {i:abu} {f:FuncId} {k:Nat} {x y:Code}: ∀c:Code,jL E g i f c->MH c k=a6 (x,y)->jL E g i f x/\jL E g i f y
 |.rangeFunc _ _ jr j,d,h=>by
  simp only[MH]at h;split at h
  .cases h;exact⟨d.1,d.2.1⟩
  .split at h
   .rename_i z e;cases h;exact uo jr d.1 e
   .exact uo j d.2.1 h
 |.seq a b,d,h=>by
  simp only[MH]at h;split at h
  .rename_i z e;cases h;exact uo a d.1.1 e
  .exact uo b d.2 h
 |.cond _ a b,d,h=>by
  simp only[MH]at h;split at h
  .rename_i z e;cases h;exact uo a d.1 e
  .exact uo b d.2 h
 |.block _ c,d,h=>uo c d h
 |.loop c,d,h=>uo c d.1 h
 |.scope c,d,h=>uo c d h
 |.skip,_,h|.label _,_,h|.region _ _ _,_,h|.exit _,_,h|.goto _,_,h|.ret,_,h|.refuse _,_,h=>by simp[MH]at h
theorem aFj {P:Program} {E:Env} (h:vJ P E): ∀f k jr e,aLn P f k=a6 (jr,e)->dR E f jr/\dR E f e:=fun f k jr e d=>by
 unfold aLn at d;split at d
 .rename_i fn g
  split at d
  .rename_i c i
   exact⟨fun R m=>(uo c (h f fn c g i R m) d).1,fun R m=>(uo c (h f fn c g i R m) d).2⟩
  .cases d
 .cases d
theorem afW {P:Program} {E:Env} (h:yR P E): ∀R:Type,oM (R:=R) P (JZ E.sg E.cl):=fun R W0 b0 rd v f i st K r d c a ats j l m o p=>by
 unfold JZ at d;split at d
 .rename_i g
  split at d
  .rename_i s u
   replace d:=dN d;obtain⟨e,d⟩:=d;simp only[af]at e;exact h.q R g s u e.1 W0 b0 rd (.fn g []) f i st K r (by simp_all [Iq]) c a ats j l m o p
  .cases d
 .cases d
theorem yR.at {P:Program} {E:Env} (h:yR P E) (n:Nat):yR P (E.at n):=⟨h.T,h.x,h.b,h.v,h.q⟩
theorem azu {st:St} {K:St->Option R} (h:pop st K=a6 r): ∃fr stk,st.stk=fr::stk/\K {st with fr:=fr,stk:=stk}=a6 r:=by
 grind [pop]
theorem Gs {v:di} {u:Value} {f d:Cx} {st st1:St} {a:Act} {A:Nat} (o:je W0 b0 rd f st a ats) (B:d.Ok W0) (D:d.hp=st1.hp) (E:d.nxt=st1.nxt) (G:st1.fr=[]) (I:FU d st1.stk (a.tmps::ats))
  (g:f.Mono d) (J:dn d v u) {K:di->St->Option R} (h:(match gc A v st1 with|some p=>pop p (K v)|none=>a7)=a6 r):
  ∃c' q,K v q=a6 r/\je W0 b0 rd c' q a ats/\dn c' v u/\f.Mono c'/\c'.w=d.w:=by
 have i:je W0 0 a7 d st1 ⟨#[],[]⟩ (a.tmps::ats):=⟨D,E,B,by rw[G];simp[bT],I,⟨[],rfl,List.nodup_nil,fun r i=>by simp at i⟩,fun l j=>by cases j⟩;split at h
 .rename_i p M
  obtain⟨N,e,O,s,S,Z,_⟩:=i.gc J M;obtain⟨fr,stk,U,h⟩:=azu h;have m:=e.stk;rw[U]at m;refine⟨N,_,h,⟨e.hp,e.nxt,e.ok,m.1,m.2, ?_,fun l j=> ?_⟩,O,g.trans s,S⟩
  .obtain⟨V,W,X,y⟩:=o.df;exact⟨V,W,X,fun x z=>⟨s.mks x (g.mks x (y x z).1),(y x z).2⟩⟩
  .obtain⟨L,Y⟩:=o.rd l j;obtain⟨L1,ab⟩:=g.lp l L Y;simp_all
 .cases h
theorem arQ (hT:TOk P T) (hm:P.follows .mixedOrders=true) (ab:MX P) {E:Env} (ad:E.P=P) (U:E.T=T) (s:yR P E) (ag:vJ P E) (av:ai8 E) {m:Nat} (g: ∀(R:Type) (W0:World),xC P W0 (mJ E m (R:=R))/\Gq P W0 (mJ E m (R:=R))):
  xC P W0 (mJ E (m+1) (R:=R)):=by
 intro f B st K r h b0 rd c a ats D d ah M hR;simp only[mJ]at h;rw[ad]at h;split at h
 .cases h
 .rename_i fn N
  split at h
  .cases h
  .rename_i V o
   rw[cond_eq_ite]at h;split at h
   .rename_i ai
    have ai:B.length<=fn.ntmps:=by simp_all
    have aw:B.length=D.size:=by simpa using bT.length _ _ ah
    refine⟨Ef ab N o D c.w, ?_⟩;refine(callsIn_wide (n:=0)).1 (callsIn_of_wp_marks (F:=Fence.wide) (n:=0) N o trivial ?_);have aj:je W0 c.w.heap.size a7 c {fr:=B++List.replicate (fn.ntmps-B.length) (.tup []),stk:=st.fr::st.stk,hp:=st.hp,nxt:=st.nxt} {tmps:=D++Array.replicate (fn.ntmps-D.size) undef,defers:=[]} (a.tmps::ats):=by
     refine⟨d.hp,d.nxt,d.ok, ?_,⟨d.fr,d.stk⟩,⟨[],rfl,List.nodup_nil,fun r d=>by simp at d⟩,fun l hl=>by cases hl⟩
     grind [bT.append_arr,Array.toList_replicate,KA]
    refine Q4 (rd:=a7) hT hm (n:=0) (E:=E.at m) U (lJ (E:=E.at m) (s.at m) (g R W0).1 (g R W0).2 0) (Gt (E:=E.at m) (s.at m) fun W=>(g di W).1) (g R W0).1 (lJ (E:=E.at m) (s.at m) (g St W0).1 (g St W0).2 0) (lJ (E:=E.at m) (s.at m) (g Unit W0).1 (g Unit W0).2 0) (afW (E:=E.at m) (s.at m)) V (ag f fn V N o R m) _ _ c _ _ h aj (ae _) fun e O y S G p q=> ?_;have X:(ve E.T y fn.results.toList fun z=>
       let v:=match z with
        |[v]=>v
        |z=>.tup z
       match gc (bif E.cl then st.nxt else 1000000*y.stk.length) v {y with fr:=[]}with
       |some ak=>pop ak (K v)
       |none=>a7)=a6 r->LeavesInM Fence.wide 0 P fn S.tmps M S.defers .returning O.w:=by
     intro Y;obtain⟨ds,d1,d2,Z⟩:=p.df;obtain⟨c2,e1,e2,I,e4,e5,e6,e7,al,e8⟩:=YI (n:=0) (P:=P) (fn:=fn) (tmps:=S.tmps) (Rr:=M) ds O p.ok d2 fun x J=>(Z x J).1;rw[d1];refine e8 ?_;rw[U]at Y;obtain⟨z,us,h3,h4,h5⟩:=CB hT e4 (e1.trans p.hp) (bT.le0 I _ _ p.fr) _ _ Y;have an:c.Mono c2:=by
      refine⟨fun x J=>e5 x (q.mks x J) fun hd=> ?_,fun b L hL=> ?_,aQ q.size e7,al.trans q.bar,fun b o=>⟨(I.out b (q.out b o).1).1,(I.out b (q.out b o).1).2.trans (q.out b o).2⟩⟩
      .have h6:=(Z x hd).2;have h7:=d.ok.mark_lt J;omega
      .obtain⟨L1,ao⟩:=q.lp b L hL;exact e6 b L1 ao
     obtain⟨c3,ax,k1,k2,k3,k4,k5⟩:=Gs (v:=QW z) (u:=TW us) d e4 (st1:={y with fr:=[]}) (e1.trans p.hp) (e2.trans p.nxt) rfl (by
      have: ∀(A:List (List di)) (j:List (Array Value)),FU O A j->FU c2 A j:=fun A=>by
       induction A with
       |nil=>intro j h;cases j with
        |nil=>trivial
        |cons _ _=>exact h.elim
       |cons f A au=>intro j h;cases j with
        |nil=>exact h.elim
        |cons t j=>exact⟨bT.le0 I _ _ h.1,au j h.2⟩
      exact this _ _ p.stk) an (DJ h4) (K:=K) h3
     refine⟨TW us,ail h5, ?_⟩
     grind
    cases e with
    |normal=>exact X G
    |ret=>exact X G
    |exit i=>cases G
    |goto l=>cases G
   .cases h
theorem ajP (hT:TOk P T) (hm:P.follows .mixedOrders=true) (bC:MX P) {E:Env} (bD:E.P=P) (aU:E.T=T) (X:yR P E) (bF:vJ P E) (av:ai8 E) {m:Nat} (g: ∀(R:Type) (W0:World),xC P W0 (mJ E m (R:=R))/\Gq P W0 (mJ E m (R:=R))):
  Gq P W0 (mJ E (m+1) (R:=R)):=by
 intro id ai st K r h b0 rd c a ats aj o aw;simp only[mJ]at h;split at h
 .rename_i f ak ps jr Y d hg
  refine⟨⟨f,ak,ps,jr,Y,d,0,a7,hg⟩,fun Rr hR n=> ?_⟩;rw[cond_eq_ite]at h;split at h
  .rename_i ax
   have ax:ai.length=ps.length:=by simpa using ax
   have bG:ai.length=aj.size:=by simpa using bT.length _ _ aw
   have ay:eG c.hp id=a6 (.lp f ak ps jr Y d 0 a7):=by rw[o.hp];exact hg
   obtain⟨az,hB,L,hL,hv,q1,q2,q3,q4,q5⟩:=o.ok.obj id _ ay;have p:yR P ((E.at m).keyed d):=by
    cases d with
    |none=>exact⟨X.T,X.x,X.b,X.v,X.q⟩
    |some k=>exact X.at m
   have aA:((E.at m).keyed d).T=T:=by cases d<;>exact aU
   have⟨aV,aW⟩:jL ((E.at m).keyed d) (mJ E m (R:=R)) (ZZ E m) f jr/\jL ((E.at m).keyed d) (mJ E m (R:=R)) (ZZ E m) f Y:=by
    cases d with
    |none=>exact⟨iY (fun _=>rfl) (fun _=>rfl) _,iY (fun _=>rfl) (fun _=>rfl) _⟩
    |some k=>exact⟨(av f k jr Y (az k rfl)).1 R m,(av f k jr Y (az k rfl)).2 R m⟩
   have aX:aj.size=L.params.size:=by
    grind
   refine⟨_,_,_,_,run_yield hL aX, ?_⟩;refine roundIn_of_wpIn trivial ?_;rw[q2,q3];have aY:dn c (.yld id) (.func (.yield (c.mu id).blk) #[] #[]):=by
    simp only[dn];exact⟨rfl,.inl ⟨_,ay⟩,fun _ _ _ _ _ _ _ _ _=>by simp⟩
   have aZ:je W0 c.w.heap.size (a6 (c.mu id).blk) c {fr:=yH ak ps ai,stk:=[.yld id]::st.fr::st.stk,hp:=st.hp,nxt:=st.nxt} {tmps:=(L.params.zip aj).foldl (fun aB (t,a)=>aB.setIfInBounds t a) L.tmps,defers:=[]} (#[.func (.yield (c.mu id).blk) #[] #[]]::a.tmps::ats):=by
    refine⟨o.hp,o.nxt,o.ok, ?_,⟨by simpa [bT] using aY,o.fr,o.stk⟩,⟨[],rfl,List.nodup_nil,fun r o=>by simp at o⟩,fun l hl=>by simp_all⟩;have:=KJ ps ak ai aj.toList L.tmps hv aw
    grind [Array.toList_zip]
   refine Q4 (rd:=a6 (c.mu id).blk) hT hm (E:=(E.at m).keyed d) aA (lJ (E:=(E.at m).keyed d) p (g R W0).1 (g R W0).2 n) (Gt (E:=(E.at m).keyed d) p fun W=>(g di W).1) (g R W0).1 (lJ (E:=(E.at m).keyed d) p (g St W0).1 (g St W0).2 n) (lJ (E:=(E.at m).keyed d) p (g Unit W0).1 (g Unit W0).2 n) (afW p) jr aV _ _ c _ _ h aZ (ae _) fun e c1 Z a1 z s bf=> ?_;cases e with
   |normal=>
    split at z
    .rename_i ao bH _ bg
     split at z
     .rename_i f1 aF aG aH aI aJ bi
      have y:=s.stk;rw[bg]at y;obtain⟨aK,_⟩:=y;simp only[bT,and_true]at aK;have au:=bi;rw[<-s.hp]at au;obtain⟨bI,cb,L1,bn,cc,p1,p2,p3,p4,p5⟩:=s.ok.obj ao _ au;simp only[dn]at aK;have cd:(c.mu id).blk=(c1.mu ao).blk:=by simp_all
      obtain⟨c2,e1,e2,e3,e4,e5,e6⟩:=MK s.ok au bn {L1 with state:=.busy} (o':=.lp f1 aF aG aH aI aJ 2 a7) (.inr ⟨2,a7,rfl,rfl,rfl,rfl,rfl,rfl⟩);simp only[Ex.xt,Exit.then];refine⟨c2.w, ?_, ?_⟩
      .simp_all [run_beginRound]
      have ag:c.Mono c2:=bf.trans e3.mono;have bt:je W0 c.w.heap.size (a6 (c.mu id).blk) c2 {Z with hp:=jB Z.hp ao (.lp f1 aF aG aH aI aJ 2 a7)} a1 (#[.func (.yield (c.mu id).blk) #[] #[]]::a.tmps::ats):=
       ⟨e1.trans (by rw[s.hp]),e2.trans s.nxt,e4,bT.le e3 _ _ s.fr,FU.le e3 _ _ s.stk,let⟨ds,d1,d2,d3⟩:=s.df;⟨ds,d1,d2,fun x hx=>⟨e3.mks x (d3 x hx).1,(d3 x hx).2⟩⟩,fun l hl=>let⟨L,hL⟩:=s.rd l hl;e3.lp l L hL⟩
      refine Q4 (rd:=a6 (c.mu id).blk) hT hm (E:=(E.at m).keyed d) aA (lJ (E:=(E.at m).keyed d) p (g R W0).1 (g R W0).2 n) (Gt (E:=(E.at m).keyed d) p fun W=>(g di W).1) (g R W0).1 (lJ (E:=(E.at m).keyed d) p (g St W0).1 (g St W0).2 n) (lJ (E:=(E.at m).keyed d) p (g Unit W0).1 (g Unit W0).2 n) (afW p) Y aW _ _ c2 _ _ z bt ag.size fun e c3 A a3 B j al=> ?_;refine ae5 ?_;split at B
      .rename_i ab an bu
       split at B
       .rename_i D G I J M N bz
        have y:=j.stk;rw[bu]at y;obtain⟨aO,y⟩:=y;simp only[bT,and_true]at aO;have ad:=bz;rw[<-j.hp]at ad;obtain⟨ch,cm,L3,ah,cn,w1,w2,w3,w4⟩:=j.ok.obj ab _ ad;simp only[dn]at aO;have aP:(c.mu id).blk=(c3.mu ab).blk:=by simp_all
        have aS:=run_endRound (P:=P) (w:=c3.w) e.code ah;rw[<-aP]at aS;refine⟨_,_,aS, ?_⟩;rw[aP];cases e with
        |normal=>
         obtain⟨O,g1,g2,g3,g4,g5,g6⟩:=MK j.ok ad ah {L3 with state:=.ready,pending:=a7} (o':=.lp D G I J M N 0 a7) (.inr ⟨0,a7,rfl,⟨rfl,rfl⟩,rfl,rfl,rfl,rfl⟩);have S:c.Mono O:=(ag.trans al).trans g3.mono;obtain⟨U,V,k1,k2,k3,k4,k5⟩:=Gs (v:=.undef) (u:=undef) o g4 (st1:={A with fr:=[],stk:=an,hp:=jB A.hp ab (.lp D G I J M N 0 a7)}) (g1.trans (by rw[j.hp])) (g2.trans j.nxt) rfl (FU.le g3 _ _ y) S (by simp[dn]) (K:=fun _=>K (.val .bool true)) B;have:=hR U (.val .bool true) (.bool true) V k1 k2 (by simp only[dn];exact VD.bool_mk) k4;rw[k5,g5]at this;exact this
        |exit i=>
         obtain⟨O,g1,g2,g3,g4,g5,g6⟩:=MK j.ok ad ah {L3 with state:=.done,pending:=a6 (.exit i)} (o':=.lp D G I J M N 1 (a6 (.exit i))) (.inr ⟨1,a6 (.exit i),rfl,⟨rfl,rfl,by simp[Ex.code]⟩,rfl,rfl,rfl,rfl⟩);have S:c.Mono O:=(ag.trans al).trans g3.mono;obtain⟨U,V,k1,k2,k3,k4,k5⟩:=Gs (v:=.undef) (u:=undef) o g4 (st1:={A with fr:=[],stk:=an,hp:=jB A.hp ab (.lp D G I J M N 1 (a6 (.exit i)))}) (g1.trans (by rw[j.hp])) (g2.trans j.nxt) rfl (FU.le g3 _ _ y) S (by simp[dn]) (K:=fun _=>K (.val .bool false)) B;have:=hR U (.val .bool false) (.bool false) V k1 k2 (by simp only[dn];exact VD.bool_mk) k4;rw[k5,g5]at this;exact this
        |goto l=>
         obtain⟨O,g1,g2,g3,g4,g5,g6⟩:=MK j.ok ad ah {L3 with state:=.done,pending:=a6 (.goto l)} (o':=.lp D G I J M N 1 (a6 (.goto l))) (.inr ⟨1,a6 (.goto l),rfl,⟨rfl,rfl,by simp[Ex.code]⟩,rfl,rfl,rfl,rfl⟩);have S:c.Mono O:=(ag.trans al).trans g3.mono;obtain⟨U,V,k1,k2,k3,k4,k5⟩:=Gs (v:=.undef) (u:=undef) o g4 (st1:={A with fr:=[],stk:=an,hp:=jB A.hp ab (.lp D G I J M N 1 (a6 (.goto l)))}) (g1.trans (by rw[j.hp])) (g2.trans j.nxt) rfl (FU.le g3 _ _ y) S (by simp[dn]) (K:=fun _=>K (.val .bool false)) B;have:=hR U (.val .bool false) (.bool false) V k1 k2 (by simp only[dn];exact VD.bool_mk) k4;rw[k5,g5]at this;exact this
        |ret=>
         obtain⟨O,g1,g2,g3,g4,g5,g6⟩:=MK j.ok ad ah {L3 with state:=.done,pending:=a6 (.ret)} (o':=.lp D G I J M N 1 (a6 .ret)) (.inr ⟨1,a6 .ret,rfl,⟨rfl,rfl,by simp[Ex.code]⟩,rfl,rfl,rfl,rfl⟩);have S:c.Mono O:=(ag.trans al).trans g3.mono;obtain⟨U,V,k1,k2,k3,k4,k5⟩:=Gs (v:=.undef) (u:=undef) o g4 (st1:={A with fr:=[],stk:=an,hp:=jB A.hp ab (.lp D G I J M N 1 (a6 .ret))}) (g1.trans (by rw[j.hp])) (g2.trans j.nxt) rfl (FU.le g3 _ _ y) S (by simp[dn]) (K:=fun _=>K (.val .bool false)) B;have:=hR U (.val .bool false) (.bool false) V k1 k2 (by simp only[dn];exact VD.bool_mk) k4;rw[k5,g5]at this;exact this
       .cases B
      .cases B
     .cases z
    .cases z
   |exit i=>simp at z
   |goto l=>simp at z
   |ret=>simp at z
  .cases h
 .cases h
theorem Lm (hT:TOk P T) (d:P.follows .mixedOrders=true) (e:MX P) {E:Env} (g:E.P=P) (i:E.T=T) (j:yR P E) (l:vJ P E) (o:ai8 E): ∀(m:Nat) (R:Type) (W0:World),xC P W0 (mJ E m (R:=R))/\Gq P W0 (mJ E m (R:=R))
 |0,R,W0=>⟨fun f p st K r h=>by simp[mJ]at h,fun id p st K r h=>by simp[mJ]at h⟩
 |m+1,R,W0=>⟨arQ hT d e g i j l o (Lm hT d e g i j l o m),ajP hT d e g i j l o (Lm hT d e g i j l o m)⟩
end
end
section
open Option renaming some → a6, none → a7
open Bool renaming and_eq_true → af
open List renaming mem_cons_of_mem → au, all_cons → aY
open Nat renaming le_refl → ae
open Go.RowKit
def sD (c:Cx):(d:List Ty)->(d.foldr Ty.pair Ty.unit).den->List Value->Prop
 |[],_,us=>us=[]
 |t::d,x,us=> ∃u e,us=u::e/\VD c t x.1 u/\sD c d x.2 e
def mW (w:World) (d:Nat->Prop):Cx:=⟨fun _=>⟨0,undef⟩,[],0,w,[],d⟩
def Ji (rs:List (Ty×Bool)) (y:((rs.map (·.1)).foldr Ty.pair Ty.unit).den):iw:=
 match AB rs y with
 |some ⟨e,d⟩=>[(0,.arr e 0 d)]
 |none=>[]
def D7 (w:World) (f:Nat->Prop) (rs:List (Ty×Bool)) (y:((rs.map (·.1)).foldr Ty.pair Ty.unit).den):Ending->World->Prop:=fun e g=>
 ∃(d:Cx) (us:List Value),e=.returned (TW us)/\d.w=g/\d.Ok w/\d.bar=f/\d.mks=[]/\d.hp=Ji rs y/\bT d (qK 0 rs y) us
def dX (P:Program) (g:FuncId) (s:Sum):Prop:=
 ∀(w:World) (e:Nat->Prop) (d:Array Value) x y,Phi w->(∀b,e b->b<w.heap.size)->sD (mW w e) s.ps x d.toList->s.f x=a6 y->
  ((callFunc g d).run P w=.ok (.enter g d) w/\Calls P g d w (D7 w e s.rs y))\/ ∃u,(callFunc g d).run P w=.ok (.value u) w/\D7 w e s.rs y (.returned u) w
section
variable {P:Program} {T:TT} {W0:World} {b0:Nat} {rd:Option Nat} {R:Type} {r:R} {c:Cx} {ats:List (Array Value)}
theorem KW {w:World} {d:Nat->Prop} {b:Nat}:(mW w d).free b↔b<w.heap.size/\ ¬d b:=by
 constructor
 .intro h;exact⟨h.1,h.2.2.2⟩
 .rintro ⟨e,f⟩;exact⟨e,(by rintro ⟨i,o,h,_⟩;simp[mW,eG]at h),by simp[mW],f⟩
theorem amz (q:c.Ok W0) {cb:Cx} (i:atX c cb) {t:Ty} {v:di} {x:t.den} {u:Value} (h:v.as c.hp t=a6 x) (d:dn c v u):VD cb t x u:=by
 have m: ∀{t:Ty} {x:t.den} {u:Value},VD c t x u->VD cb t x u:=fun {t x u} d=>
  ⟨fun e=>let⟨cs,f,j⟩:=d.1 e;⟨cs,f,fZ.mono (fun b g=>i b g.1) t x _ j⟩,fun e=>fZ.mono (fun b g=>i b g.1) t x _ (d.2 e)⟩
 cases v with
 |val t' z=>
  grind [di.as,iV,ik,dn]
 |nils=>
  cases t with
  |list e=>grind [I4]
  |_=>simp[di.as]at h
 |lst t' z b=>
  simp only[di.as]at h;have e:=iV h;subst e;simp_all [ik,dn]
 |emp=>
  cases t with
  |list e=>grind [I4]
  |_=>simp[di.as]at h
 |slc id ver s=>
  cases t with
  |list e=>grind [I4]
  |_=>simp[di.as]at h
 |agg l=>
  simp only[di.as]at h;rw[cond_eq_ite]at h;split at h
  .rename_i o
   simp only[dn]at d;obtain⟨p,rfl,f,j⟩:=d;exact m ((VD.agg o).2 ⟨p,rfl,qm h f⟩)
  .cases h
 |_=>simp[di.as]at h
theorem Na {cb:Cx} (f: ∀b,c.free b->cb.free b/\cb.w.heap[b]? =c.w.heap[b]?) {t:Ty} {v:di} {x:t.den} {u:Value} (j:nY v=false) {hp:iw} (h:v.as hp t=a6 x) (d:dn c v u):VD cb t x u:=by
 cases v with
 |val t' z=>
  simp only[di.as]at h;have e:=iV h;subst e;rw[ik]at h;cases h;simp only[dn]at d;exact⟨fun e=>let⟨cs,g,i⟩:=d.1 e;⟨cs,g,fZ.mono f t' _ _ i⟩,fun e=>fZ.mono f t' _ _ (d.2 e)⟩
 |nils=>
  cases t with
  |list e=>
   simp only[di.as,Option.some.injEq]at h;subst h;simp only[dn]at d;subst d;exact(VD.leaf rfl).2 ⟨a7,0,[],rfl,ae _,rfl,.inl rfl⟩
  |_=>simp[di.as]at h
 |lst t' z b=>
  simp only[di.as]at h;have e:=iV h;subst e;rw[ik]at h;cases h;simp only[dn]at d;exact⟨fun e=>let⟨cs,g,i⟩:=d.1.1 e;⟨cs,g,fZ.mono f _ _ _ i⟩,fun e=>fZ.mono f _ _ _ (d.1.2 e)⟩
 |emp=>
  cases t with
  |list e=>
   simp only[di.as,Option.some.injEq]at h;subst h;simp only[dn]at d;obtain⟨a,rfl⟩:=d;exact(VD.leaf rfl).2 ⟨a,0,[],rfl,ae _,rfl,.inl rfl⟩
  |_=>simp[di.as]at h
 |slc id ver m=>simp[nY]at j
 |agg l=>simp[nY]at j
 |_=>simp[di.as]at h
theorem CV {cb:Cx} {hp:iw}: ∀(e:List Ty) (args:List di) x (us:List Value),CU hp e args=a6 x->bT c args us->
  (∀(t:Ty) (v:di) (x:t.den) (u:Value),v∈args->v.as hp t=a6 x->dn c v u->VD cb t x u)->sD cb e x us
 |[],[],x,[],h,_,_=>rfl
 |t::e,v::args,x,u::us,h,d,f=>by
  simp only[CU]at h;split at h
  .rename_i g i
   split at h
   .rename_i j l
    cases h;simp only[bT]at d;exact⟨u,us,rfl,f t v g u (by simp) i d.1,CV e args j us l d.2 fun t v x u m=>f t v x u (au _ m)⟩
   .cases h
  .cases h
 |[],[],_,_::_,_,d,_=>by simp[bT]at d
 |[],_::_,_,_,h,_,_=>by simp[CU]at h
 |_::_,[],_,_,h,_,_=>by simp[CU]at h
 |_::_,_::_,_,[],_,d,_=>by simp[bT]at d
theorem VD.move {c' c2:Cx} (f:c2.w=c'.w) {t:Ty} {x:t.den} {u:Value} (h:(∀b,c'.free b->c2.free b)\/t.rigid=true) (g:VD c' t x u):VD c2 t x u:=by
 rcases h with h|h
 .exact⟨fun e=>let⟨cs,i,j⟩:=g.1 e;⟨cs,i,fZ.mono (fun b d=>⟨h b d,by rw[f]⟩) t x _ j⟩,fun e=>fZ.mono (fun b d=>⟨h b d,by rw[f]⟩) t x _ (g.2 e)⟩
 simp_all [VD.rigid]
theorem gW.move {c' c2:Cx} (f:c2.w=c'.w) {e:Ty} {xs:List e.den} {d:List Value} (h:(∀b,c'.free b->c2.free b)\/e.rigid=true) (g:gW (fZ c'.w c'.free e) e.size xs d):gW (fZ c2.w c2.free e) e.size xs d:=by
 grind [gW.mono,fZ.mono,xh]
theorem JO {c' c2:Cx} (f:c2.w=c'.w) (id:Nat): ∀(rs:List (Ty×Bool)) y (us:List Value),(∀t∈rs,(∀b,c'.free b->c2.free b)\/t.1.rigid=true\/t.2=true)->
  (news rs=0\/ ∀u,dn c' (.slc 0 0 a7) u->dn c2 (.slc id 0 a7) u)->bT c' (qK 0 rs y) us->bT c2 (qK id rs y) us
 |[],y,[],_,_,_=>by simp[qK,bT]
 |[],y,_::_,_,_,d=>by assumption
 |(t,false)::rs,y,us,h,e,d=>by
  cases us with
  |nil=>assumption
  |cons u us=>
   simp only[qK,bT,dn]at d ⊢;refine⟨VD.move f ?_ d.1,JO f id rs y.2 us (fun t g=>h t (au _ g)) e d.2⟩;simp_all
 |(t,true)::rs,y,us,h,e,d=>by
  cases us with
  |nil=>assumption
  |cons u us=>
   simp only[qK,bT]at d ⊢;rcases e with e|e
   .simp[news]at e
   .exact⟨e u d.1,JO f id rs y.2 us (fun t g=>h t (au _ g)) (.inr e) d.2⟩
theorem aiV {c':Cx}: ∀(rs:List (Ty×Bool)) y (us:List Value),news rs≠0->bT c' (qK 0 rs y) us-> ∃u,dn c' (.slc 0 0 a7) u
 |[],y,us,h,_=>by simp[news]at h
 |(t,false)::rs,y,us,h,d=>by
  cases us with
  |nil=>simp[qK,bT]at d
  |cons u us=>
   simp only[qK,bT]at d;exact aiV rs y.2 us (by simpa [news] using h) d.2
 |(t,true)::rs,y,us,h,d=>by
  cases us with
  |nil=>simp[qK,bT]at d
  |cons u us=>
   grind [qK,bT]
theorem SV: ∀(rs:List (Ty×Bool)) y {e:Ty} {xs:List e.den},AB rs y=a6 ⟨e,xs⟩->(rs.all fun r=>r.1.rigid||(r.2&&r.1.elem.rigid))=true->e.rigid=true
 |[],y,e,xs,h,_=>by simp[AB]at h
 |(t,false)::rs,y,e,xs,h,d=>by
  simp only[AB]at h;simp only[aY,af]at d;exact SV rs y.2 h d.2
 |(t,true)::rs,y,e,xs,h,d=>by
  cases t with
  |list f=>
   simp only[AB,Option.some.injEq,Sigma.mk.injEq]at h;obtain⟨rfl,_⟩:=h;simp_all [Ty.rigid,Ty.elem]
  |_=>simp[AB]at h
theorem aB7 {c':Cx} (d:c.Ok W0) (m:c'.Ok c.w) (f:c'.bar=fun b=>b<c.w.heap.size/\ ¬c.free b) {b:Nat} (hb:c'.free b):(c.at_ c'.w).free b:=by
 refine⟨hb.1, ?_⟩;by_cases hlt:b<c.w.heap.size
 .have e:=hb.2.2.2;rw[f]at e;have g:c.free b:=Classical.byContradiction fun h=>e ⟨hlt,h⟩;exact g.2
 .refine⟨fun i=>hlt (d.own_lt i).2,fun j=>hlt (d.mark_lt j),fun l=>hlt (d.bar b l).1⟩
theorem aiS {s:Sum} {cl:Bool} {args:List di} {dst:Option Nat} {st:St} {K:di->St->Option R} (h:s.call cl args dst st K=a6 r):
    ((s.rs.all fun r=>r.1.rigid||(r.2&&r.1.elem.rigid))=true\/args.any nY=false)/\ ∃x y,CU st.hp s.ps args=a6 x/\s.f x=a6 y/\
      ((AB s.rs y=a7/\news s.rs=0/\K (QW (qK 0 s.rs y)) st=a6 r)\/
       (∃e xs id n',AB s.rs y=a6 ⟨e,xs⟩/\news s.rs=1/\eG st.hp id=a7/\st.nxt<=id/\st.nxt<=n'/\K (QW (qK id s.rs y)) {st with hp:=(id,.arr e 0 xs)::st.hp,nxt:=n'}=a6 r)):=by
  unfold Sum.call at h;rw[cond_eq_ite]at h;split at h
  . rename_i d
    refine⟨by simpa using d, ?_⟩;split at h
    . rename_i x g
      cases hy:s.f x with
      |none=>rw[hy]at h;cases h
      |some y=>
        rw[hy]at h;simp only[bK]at h;refine⟨x,y,g,hy, ?_⟩;split at h
        . simp_all [cond_eq_ite]
        . rename_i e xs i
          rw[cond_eq_ite]at h;split at h
          . rename_i j
            obtain⟨id,n',l,m,o,p⟩:=jC h;exact .inr ⟨e,xs,id,n',i,by simpa using j,l,m,o,p⟩
          . cases h
    . cases h
  . cases h
end
end
section
open Option renaming some → a6, none → a7
open Bool renaming and_eq_true → af
open List renaming mem_cons_of_mem → au, map_cons → ax, mem_append_right → bH
open Nat renaming le_refl → ae, eq_of_beq_eq_true → aj, le_trans → aQ, lt_of_lt_of_le → bz
open Go.RowKit
section
variable {P:Program} {T:TT} {W0:World} {b0:Nat} {rd:Option Nat} {R:Type} {r:R} {c:Cx} {ats:List (Array Value)}
theorem Cx.many {c2:Cx} (g:c.Ok W0) (S:Nat->Prop) (y:c2.mks=c.mks) (I:c2.bar=c.bar) (U:c2.nxt=c.nxt)
  (z: ∀i,¬S i->eG c2.hp i=eG c.hp i/\c2.mu i=c.mu i)
  (V: ∀i,S i-> ∃o o',eG c.hp i=a6 o/\eG c2.hp i=a6 o'/\o.like (c.mu i) o' (c2.mu i)/\ ∀f fr W jr X Y n p,o≠ .lp f fr W jr X Y n p)
  (Z:Below W0.heap.size W0 c2.w) (J:c.w.heap.size<=c2.w.heap.size)
  (A: ∀b,b<c.w.heap.size->(∀i o,S i->eG c.hp i=a6 o->o.blk (c.mu i)≠a6 b)->c2.w.heap[b]? =c.w.heap[b]?)
  (K: ∀i o' b,S i->eG c2.hp i=a6 o'->o'.blk (c2.mu i)=a6 b->c.w.heap.size<=b\/ ∃j o,S j/\eG c.hp j=a6 o/\o.blk (c.mu j)=a6 b)
  (ad: ∀i j o' h b,S i->S j->eG c2.hp i=a6 o'->eG c2.hp j=a6 h->o'.blk (c2.mu i)=a6 b->h.blk (c2.mu j)=a6 b->i=j)
  (ag: ∀(b:Nat) (L:Loop) (i:Nat) o,S i->eG c.hp i=a6 o->o.blk (c.mu i)=a6 b->c.w.heap[b]? ≠a6 (Obj.loop L)):
  c.Le c2/\((∀i o',S i->eG c2.hp i=a6 o'->c2.ORel W0.heap.size i o')->c2.Ok W0):=by
 have B:c.Le c2:=by
  refine⟨fun b e=>⟨⟨bz e.1 J, ?_,by rw[y];exact e.2.2⟩,A b e.1 fun i o _ l d=>e.2.1 ⟨i,o,l,d⟩⟩,fun i x=> ?_,fun i o' x u=> ?_,fun r v=>by rw[y];exact v,fun b L hL=> ?_,J,I⟩
  .rintro ⟨i,o',l,d⟩;by_cases q:S i
   .rcases K i o' b q l d with m|⟨j,o,_,m,s⟩
    .have:=e.1;omega
    .exact e.2.1 ⟨j,o,m,s⟩
   .obtain⟨m,s⟩:=z i q;rw[m]at l;rw[s]at d;exact e.2.1 ⟨i,o',l,d⟩
  .by_cases q:S i
   .obtain⟨o,o',_,d,_⟩:=V i q;exact .inl ⟨o',d⟩
   .rcases x with ⟨o,u⟩|x
    .exact .inl ⟨o,by simp_all⟩
    .exact .inr (by rw[U];exact x)
  .by_cases q:S i
   .grind
   .obtain⟨m,s⟩:=z i q;rw[m]at u;exact⟨o',u,by rw[s];exact o'.like_refl _⟩
  grind
 refine⟨B,fun hO=>⟨Z,fun i o' u=> ?_,fun i j o' h b l d m s=> ?_,fun r v=> ?_,fun b e=> ?_,g.phi⟩⟩
 .by_cases q:S i
  .exact hO i o' q u
  .obtain⟨m,s⟩:=z i q;rw[m]at u;refine(g.obj i o' u).le B s fun b e=>A b ((g.obj i o' u).lt e).2 fun j o ah D E=> ?_;have:=g.inj j i o o' b D u E e;simp_all
 .have G: ∀i o' b,¬S i->eG c2.hp i=a6 o'->o'.blk (c2.mu i)=a6 b->eG c.hp i=a6 o'/\o'.blk (c.mu i)=a6 b:=fun i o' b q l d=>by
   simp_all
  have mixed: ∀i j o' h b,S i-> ¬S j->eG c2.hp i=a6 o'->eG c2.hp j=a6 h->o'.blk (c2.mu i)=a6 b->h.blk (c2.mu j)=a6 b->False:=fun i j o' h b l d m s D E=>by
   obtain⟨M,N⟩:=G j h b d s E;rcases K i o' b l m D with O|⟨k,o,hk,O,ab⟩
   .have:=((g.obj j h M).lt N).2;omega
   .have:=g.inj k j o h b O M ab N;simp_all
  by_cases x:S i<;>by_cases hj:S j
  .grind
  .grind
  .grind
  .obtain⟨q1,q2⟩:=G i o' b x l m;obtain⟨q3,q4⟩:=G j h b hj d s;exact g.inj i j o' h b q1 q3 q2 q4
 .rw[y]at v;exact⟨(g.mks r v).1,(A r (g.mark_lt v) fun i o q l d=>g.mark_own v ⟨i,o,l,d⟩).trans (g.mks r v).2⟩
 .rw[I]at e;exact(B.out b (g.bar b e)).1
theorem aFs {size:Nat} {s u:Value} {e:Option (Int×Int)} (h:jv size s e u) {b off n cp:Nat} (f:u=.slice (a6 ⟨b,off,a7⟩) n cp):s.ownBlock=a6 b:=by
 subst f;cases e with
 |none=>simp only[jv]at h;subst h;rfl
 |some p=>
  obtain⟨lo,i⟩:=p;simp only[jv]at h;obtain⟨a,m,q,rfl,_,_,_,g⟩:=h;have d:(a6 ⟨b,off,a7⟩:Option Addr)=if q=lo.toNat then a else a.map (·.add (lo.toNat*size)):=by injection g
  split at d
  .subst d;rfl
  .cases a with
   |none=>cases d
   |some a=>
    simp only[Option.map_some,Option.some.injEq]at d;have:=congrArg Addr.block d
    grind [Value.ownBlock,Addr.add]
theorem ajc (q:c.Ok W0) {cb:Cx} (g: ∀b,c.free b->cb.free b/\cb.w.heap[b]? =c.w.heap[b]?) {t:Ty} {v:di} {x:t.den} {u:Value}
  (z: ∀id i m,v=.slc id i m-> ∀o b,eG c.hp id=a6 o->o.blk (c.mu id)=a6 b->cb.free b/\cb.w.heap[b]? =c.w.heap[b]?) (h:v.as c.hp t=a6 x) (d:dn c v u):VD cb t x u:=by
 cases hno:nY v with
 |false=>exact Na g hno h d
 |true=>
  cases v with
  |slc id i m=>
   cases t with
   |list e=>
    obtain⟨a,cp,A,f,j,B⟩:=Yk q h d;have D:=afd q h d f;have E: ∃t G,eG c.hp id=a6 (.arr t i G):=by
     simp only[di.as,Eh]at h
     grind
    obtain⟨O,S,s⟩:=E;simp only[dn]at d;have I:=(d.2.2 _ _ _ s).2 rfl;refine(VD.leaf rfl).2 ⟨a,cp,A,by rw[f],D,gW.mono (fZ.mono g e) _ _ j,B.imp (fun h=>h) fun⟨b,p,y,U,V,J⟩=> ?_⟩;have W:=aFs I (b:=b) (off:=p) (n:=x.length) (cp:=cp) (by rw[f,y]);obtain⟨K,L⟩:=z id i m rfl _ b s (by assumption);exact⟨b,p,y,K,J.of_block L⟩
   |_=>simp[di.as]at h
  |agg l=>
   simp only[di.as]at h;replace h:=dN h;obtain⟨M,h⟩:=h;simp only[dn]at d;obtain⟨N,rfl,f,j⟩:=d;have:=(VD.agg M).2 ⟨N,rfl,qm h f⟩;exact⟨fun e=>let⟨cs,f,j⟩:=this.1 e;⟨cs,f,fZ.mono g _ _ _ j⟩,fun e=>fZ.mono g _ _ _ (this.2 e)⟩
  |_=>simp[nY]at hno
theorem G6: ∀{l:List Nat},XF l=true->l.Nodup
 |[],_=>List.nodup_nil
 |i::l,h=>by
  simp only[XF,af,Bool.not_eq_true']at h;refine List.nodup_cons.2 ⟨fun d=> ?_,G6 h.2⟩;have:acO l i=true:=List.any_eq_true.2 ⟨i,d,by simp⟩;simp_all
theorem aaN {hp:iw} {b:Bool}: ∀(cs:List (Ty×Bool)) (cells:List di) {x},kF hp b cs cells=a6 x-> ∀n,(jy cs n).length=(qp cs cells).length:=by
 intro cs
 induction cs with
 |nil=>intro cells x h n;cases cells<;>rfl
 |cons tc cs f=>
  intro cells x h n;obtain⟨t,o⟩:=tc;cases cells with
  |nil=>simp_all [kF]
  |cons v cells=>
   cases o with
   |false=>
    simp only[kF]at h;rw[cond_eq_ite]at h
    grind [jy,qp]
   |true=>
    cases t with
    |list e=>
     cases v with
     |slc id ver d=>
      cases d with
      |none=>
       simp only[kF]at h;split at h
       .replace h:=dN h;grind [jy,qp]
       .cases h
      |some p=>simp[kF]at h
     |_=>simp[kF]at h
    |_=>simp[kF]at h
theorem IQ: ∀(cs:List (Ty×Bool)) (n:Nat),∀p∈jy cs n,n<=p.1
 |[],n,p,h=>by simp[jy]at h
 |(_,true)::cs,n,p,h=>by
  simp only[jy,List.mem_cons]at h;rcases h with rfl|h
  .exact ae _
  .exact aQ (Nat.le_succ n) (IQ cs (n+1) p h)
 |(_,false)::cs,n,p,h=>IQ cs n p h
theorem xF: ∀(cs:List (Ty×Bool)) (n:Nat),((jy cs n).map (·.1)).Nodup
 |[],n=>List.nodup_nil
 |(_,true)::cs,n=>by
  simp only[jy,ax];refine List.nodup_cons.2 ⟨fun h=> ?_,xF cs (n+1)⟩;obtain⟨p,d,e⟩:=List.mem_map.1 h;have:=IQ cs (n+1) p d;omega
 |(_,false)::cs,n=>xF cs n
theorem aaG {hp:iw} {b:Bool}: ∀(cs:List (Ty×Bool)) (cells:List di) (d:List (Nat×Nat)) {x},kF hp b cs cells=a6 x->d.length=(qp cs cells).length-> ∀g o,(g,o)∈wH cs d x->
  ∃(k i v j:Nat) (e:Ty) (xs:List e.den),(qp cs cells)[k]? =a6 (i,v)/\d[k]? =a6 (g,j)/\o=.arr e j xs/\eG hp i=a6 (.arr e v xs)/\(.list e,true)∈cs:=by
 intro cs
 induction cs with
 |nil=>simp_all [wH]
 |cons tc cs u=>
  intro cells d x h q g o f;obtain⟨t,y⟩:=tc;cases cells with
  |nil=>simp_all [kF]
  |cons v cells=>
   cases y with
   |false=>
    simp only[kF]at h;rw[cond_eq_ite]at h
    grind [qp,wH]
   |true=>
    cases t with
    |list e=>
     cases v with
     |slc id ver z=>
      cases z with
      |none=>
       simp only[kF]at h;split at h
       .rename_i N s xs A
        replace h:=dN h;obtain⟨l,h⟩:=h;have l:s=ver:=by simpa using l
        subst l;split at h
        .rename_i B m
         split at h
         .rename_i O D
          cases h;have E:=iV m;cases E;rw[ik]at m;cases m;cases d with
          |nil=>simp[qp]at q
          |cons p d=>
           obtain⟨S,G⟩:=p;simp only[wH,List.mem_cons]at f;rcases f with f|f
           .cases f;exact⟨0,id,s,G,_,B,by simp[qp],by simp,rfl,A,by simp⟩
           .obtain⟨k,i,v,j,e,xs,I,J,K,L,M⟩:=u cells d D (by simpa [qp] using q) g o f;exact⟨k+1,i,v,j,e,xs,by simpa [qp] using I,by simpa using J,K,L,au _ M⟩
         .cases h
        .cases h
       .cases h
      |some p=>simp[kF]at h
     |_=>simp[kF]at h
    |_=>simp[kF]at h
theorem ac2 {hp:iw} {b:Bool}: ∀(cs:List (Ty×Bool)) (cells:List di) (d:List (Nat×Nat)) {x},kF hp b cs cells=a6 x-> ∀(k i v f g:Nat),(qp cs cells)[k]? =a6 (i,v)->d[k]? =a6 (f,g)->
  ∃e xs,eG hp i=a6 (.arr e v xs)/\(f,eu.arr e g xs)∈wH cs d x:=by
 intro cs
 induction cs with
 |nil=>simp_all [qp]
 |cons tc cs A=>
  intro cells d x h k i v f g o j;obtain⟨t,q⟩:=tc;cases cells with
  |nil=>simp_all [kF]
  |cons u cells=>
   cases q with
   |false=>
    simp only[kF]at h;rw[cond_eq_ite]at h
    grind [qp,wH]
   |true=>
    cases t with
    |list e=>
     cases u with
     |slc id ver s=>
      cases s with
      |none=>
       simp only[kF]at h;split at h
       .rename_i B y xs D
        replace h:=dN h;obtain⟨l,h⟩:=h;have l:y=ver:=by simpa using l
        subst l;split at h
        .rename_i E m
         split at h
         .rename_i G I
          cases h;have z:=iV m;cases z;rw[ik]at m;cases m;cases d with
          |nil=>simp at j
          |cons p d=>
           obtain⟨J,K⟩:=p;cases k with
           |zero=>
            simp only[qp,List.getElem?_cons_zero,Option.some.injEq,Prod.mk.injEq]at o j;obtain⟨rfl,rfl⟩:=o;obtain⟨rfl,rfl⟩:=j
            grind [wH]
           |succ k=>
            grind [qp,wH]
         .cases h
        .cases h
       .cases h
      |some p=>simp[kF]at h
     |_=>simp[kF]at h
    |_=>simp[kF]at h
theorem agm {c':Cx} {b:Bool}: ∀(cs:List (Ty×Bool)) (cells:List di) (f:List (Nat×Nat)) {x} (vs:List Value),kF c.hp b cs cells=a6 x->bT c cells vs->f.length=(qp cs cells).length->
  (∀(k i v l m:Nat),(qp cs cells)[k]? =a6 (i,v)->f[k]? =a6 (l,m)-> ∀e xs,eG c.hp i=a6 (.arr e v xs)->eG c'.hp l=a6 (.arr e m xs)/\(c'.mu l).v=(c.mu i).v)->
  (∀t v x u,(t,false)∈cs->(b=true->nY v=false\/t.rigid=true)->(∀i∈refs v,i∈wM cs cells)->v.as c.hp t=a6 x->dn c v u->VD c' t x u)->bT c' (JR cs f x) vs:=by
 intro cs
 induction cs with
 |nil=>
  grind [JR,bT,kF]
 |cons tc cs A=>
  intro cells f x vs h o s g hd;obtain⟨t,I⟩:=tc;cases cells with
  |nil=>simp_all [kF]
  |cons v cells=>
   cases vs with
   |nil=>simp[bT]at o
   |cons u vs=>
    simp only[bT]at o;cases I with
    |false=>
     simp only[kF]at h;rw[cond_eq_ite]at h;split at h
     .cases h
     .rename_i S
      split at h
      .rename_i B q
       split at h
       .rename_i J y
        cases h;simp only[JR,bT,dn];refine⟨hd t v B u (by simp) (fun U=> ?_) (fun i g=>by simp[wM,g]) q o.1,A cells f vs y o.2 (by simpa [qp] using s) (fun k i v l m d j=>g k i v l m (by simpa [qp] using d) j) fun t v x u d j D=>hd t v x u (au _ d) j fun i g=>by simp[wM,D i g]⟩
        grind
       .cases h
      .cases h
    |true=>
     cases t with
     |list e=>
      cases v with
      |slc id ver K=>
       cases K with
       |none=>
        simp only[kF]at h;split at h
        .rename_i V E xs L
         replace h:=dN h;obtain⟨z,h⟩:=h;have z:E=ver:=by simpa using z
         subst z;split at h
         .rename_i B q
          split at h
          .rename_i J y
           cases h;have M:=iV q;cases M;rw[ik]at q;cases q;cases f with
           |nil=>simp[qp]at s
           |cons p f=>
            obtain⟨N,O⟩:=p;simp only[JR,bT];obtain⟨d,j⟩:=g 0 id E N O (by simp[qp]) (by simp) _ _ L;refine⟨?_,A cells f vs y o.2 (by simpa [qp] using s) (fun k i v l m d j=>g (k+1) i v l m (by simpa [qp] using d) (by simpa using j)) fun t v x u d j D=>hd t v x u (au _ d) j fun i g=>by simp_all [wM]⟩;have G:=o.1;simp only[dn]at G ⊢;refine⟨G.1,.inl ⟨_,d⟩,fun t u W X=> ?_⟩;simp_all
          .cases h
         .cases h
        .cases h
       |some p=>simp[kF]at h
      |_=>simp[kF]at h
     |_=>simp[kF]at h
theorem PU: ∀(cs:List (Ty×Bool)) (d:List (Nat×Nat)) (x),List.Sublist ((wH cs d x).map (·.1)) (d.map (·.1)):=by
 intro cs
 induction cs with
 |nil=>grind [wH]
 |cons tc cs f=>
  intro d x;obtain⟨t,o⟩:=tc;cases o with
  |false=>simp_all [wH]
  |true=>
   cases t with
   |list e=>
    cases d with
    |nil=>grind [wH]
    |cons p d=>
     simp_all [wH]
   |_=>simp_all [wH]
theorem RY: ∀(h:iw) (i:Nat) (o:eu),(h.map (·.1)).Nodup->(i,o)∈h->eG h i=a6 o
 |(k,p)::h,i,o,f,d=>by
  simp only[ax,List.nodup_cons]at f;rw[fB];rcases List.mem_cons.1 d with e|d
  .cases e;simp
  .have:k≠i:=fun e=>f.1 (e▸List.mem_map.2 ⟨_,d,rfl⟩);rw[aq this];exact RY h i o f.2 d
theorem pq: ∀(l h:iw) (i:Nat),i∉l.map (·.1)->eG (RZ l h) i=eG h i
 |[],h,i,_=>rfl
 |(k,o)::l,h,i,d=>by
  simp only[ax,List.mem_cons,not_or]at d;simp only[RZ];rw[pq l _ i d.2,jR,aq (Ne.symm d.1)]
theorem GK: ∀(l h:iw) (i:Nat) (o:eu),(l.map (·.1)).Nodup->(i,o)∈l->(eG h i).isSome=true->eG (RZ l h) i=a6 o
 |(k,p)::l,h,i,o,d,f,m=>by
  simp only[ax,List.nodup_cons]at d;simp only[RZ];rcases List.mem_cons.1 f with e|f
  .have g:=(Prod.mk.inj e).1;have j:=(Prod.mk.inj e).2;subst g j;rw[pq l _ i d.1,jR,am rfl];cases hg:eG h i with
   |none=>simp_all
   |some q=>rfl
  .refine GK l _ i o d.2 f ?_
   grind [jR]
def Zr:List Nat->List Nat->(Nat->Loc)->(Nat->Loc)->Nat->Loc
 |a::e,j::f,d,m,i=>if a=i then d j else Zr e f d m i
 |_,_,_,m,i=>m i
theorem XZ {o m:Nat->Loc}: ∀(d f:List Nat) (k a j:Nat),d.Nodup->d[k]? =a6 a->f[k]? =a6 j->Zr d f o m a=o j
 |[],_,k,a,j,_,h,_=>by simp at h
 |_::_,[],k,a,j,_,_,h=>by simp at h
 |p::d,q::f,0,a,j,_,g,i=>by
  simp_all [Zr]
 |p::d,q::f,k+1,a,j,l,g,i=>by
  simp only[List.getElem?_cons_succ]at g i;simp only[List.nodup_cons]at l;have:p≠a:=fun e=>l.1 (e▸List.mem_of_getElem? g);simp only[Zr,aq this];exact XZ d f k a j l.2 g i
theorem X0 {f m:Nat->Loc}: ∀(d e:List Nat) (i:Nat),i∉d->Zr d e f m i=m i
 |[],_,i,_=>by simp[Zr]
 |_::_,[],i,_=>by simp[Zr]
 |a::d,j::e,i,h=>by
  simp only[List.mem_cons,not_or]at h;simp only[Zr,aq (Ne.symm h.1)];exact X0 d e i h.2
def aFI (W0:World) (c:Cx) (s:gK) (z:((s.cs.map (·.1)).foldr Ty.pair Ty.unit).den×(s.rs.foldr Ty.pair Ty.unit).den):Ending->World->Prop:=fun e f=>
 ∃(d:Cx) (us:List Value) (cells:List di),e=.returned (TW us)/\d.w=f/\d.Ok W0/\c.Mono d/\eG d.hp 0=a6 (.box s.bt cells)/\(d.mu 0).blk=(c.mu 0).blk/\
  ((qp s.cs cells).map (·.1)).Nodup/\kF d.hp true s.cs cells=a6 z.1/\sD d s.rs z.2 us
def eP (P:Program) (g:FuncId) (s:gK):Prop:=
 ∀(W0:World) (c:Cx) x y z,c.Ok W0->c.mks=[]->c.nxt=0->c.hp=(0,.box s.bt (JR s.cs (jy s.cs 1) x))::wH s.cs (jy s.cs 1) x-> ∀d:Array Value,bT c (.ptr 0 0::Nr s.ps y) d.toList->s.f x y=a6 z->
  (callFunc g d).run P c.w=.ok (.enter g d) c.w/\Calls P g d c.w (aFI W0 c s z)
theorem Af: ∀(cs:List (Ty×Bool)) (n:Nat),∀p∈jy cs n,p.2=0
 |[],n,p,h=>by simp[jy]at h
 |(_,true)::cs,n,p,h=>by
  simp only[jy,List.mem_cons]at h;rcases h with rfl|h
  .rfl
  .exact Af cs (n+1) p h
 |(_,false)::cs,n,p,h=>Af cs n p h
theorem P9: ∀(d:List Ty) x (us:List Value),sD c d x us->bT c (Nr d x) us
 |[],x,us,h=>by
  simp_all [sD,Nr,bT]
 |t::d,x,us,h=>by
  obtain⟨u,e,rfl,f,g⟩:=h;simp only[Nr,bT,dn];exact⟨f,P9 d x.2 e g⟩
theorem sD.move {c' c2:Cx} (e:c2.w=c'.w): ∀(d:List Ty) x (us:List Value),((∀b,c'.free b->c2.free b)\/d.all Ty.rigid=true)->sD c' d x us->sD c2 d x us
 |[],x,us,_,h=>h
 |t::d,x,us,f,h=>by
  obtain⟨u,g,rfl,i,j⟩:=h;refine⟨u,g,rfl,VD.move e (f.imp (fun h=>h) fun h=> ?_) i,sD.move e d x.2 g (f.imp (fun h=>h) fun h=> ?_) j⟩
  all_goals simp_all
theorem aaP: ∀(l:List di) (v:di),v∈l-> ∀i∈refs v,i∈mr l
 |u::l,v,d,i,f=>by
  simp only[mr,List.mem_append];rcases List.mem_cons.1 d with e|d
  .simp_all
  .exact .inr (aaP l v d i f)
theorem aMX {g:FuncId} {s:gK} (hs:eP P g s) {id:Nat} {qs:List di} {st:St} {K:di->St->Option R} (h:s.go id qs st K=a6 r) {a:Act} (hr:je W0 b0 rd c st a ats) {us:Array Value} (hv:bT c (.ptr id 0::qs) us.toList)
  (Rr:Ending->World->Prop) (hR: ∀c' z u bG,K z bG=a6 r->je W0 b0 rd c' bG a ats->dn c' z u->c.Mono c'->Rr (.returned u) c'.w):
  (callFunc g us).run P c.w=.ok (.enter g us) c.w/\Calls P g us c.w Rr:=by
 unfold gK.go at h;split at h<;>try (cases h;done)
 rename_i t cells ab
 replace h:=dN h;obtain⟨hc,h⟩:=h;simp only[af,Bool.or_eq_true,Bool.not_eq_true']at hc;obtain⟨ht,⟨aw,aV⟩,ay⟩:=hc;have ht:t=s.bt:=aj ht;subst ht;split at h<;>try (cases h;done)
 rename_i x hx
 split at h<;>try (cases h;done)
 rename_i y hy
 cases hz:s.f x y with
 |none=>rw[hz]at h;cases h
 |some z=>
 rw[hz]at h;simp only[bK]at h;rw[<-hr.hp]at ab hx hy;have aw:=G6 aw;have aV:=wY aV;generalize ag:qp s.cs cells=own at*;have V:=hr.ok;obtain⟨hB,vs,hw,ea,ee⟩:=V.obj id _ ab;have aB: ∀(k i v:Nat),own[k]? =a6 (i,v)-> ∃(e:Ty) (G:List e.den),eG c.hp i=a6 (.arr e v G):=fun k i v hk=>by
  obtain⟨e,G,d,_⟩:=ac2 s.cs cells own hx k i v i v (by rw[ag];exact hk) hk;exact⟨e,G,d⟩
 have az: ∀p∈own,∃k:Nat,own[k]? =a6 p:=fun p W=>List.getElem?_of_mem W;have bI:id∉own.map (·.1):=fun hm=>by
  obtain⟨p,W,rfl⟩:=List.mem_map.1 hm;obtain⟨k,hk⟩:=az p W;obtain⟨e,G,d⟩:=aB k p.1 p.2 hk;rw[ab]at d;cases d
 let S:Nat->Prop:=fun i=>i=id\/i∈own.map (·.1)
 have en: ∀i,S i-> ∃o,eG c.hp i=a6 o/\ ∀f fr ps jr bd ky n p,o≠ .lp f fr ps jr bd ky n p:=fun i q=>by
  rcases q with rfl|q
  .exact⟨_,ab,by simp⟩
  .obtain⟨p,W,rfl⟩:=List.mem_map.1 q;obtain⟨k,hk⟩:=az p W;obtain⟨e,G,d⟩:=aB k p.1 p.2 hk;exact⟨_,d,by simp⟩
 let aA:Nat->Prop:=fun b=> ∃i o,S i/\eG c.hp i=a6 o/\o.blk (c.mu i)=a6 b
 have aW: ∀b,aA b->c.own b:=fun b ⟨i,o,_,d,l⟩=>⟨i,o,d,l⟩
 let I:Cx:=⟨fun k=>if k=0 then c.mu id else Zr ((jy s.cs 1).map (·.1)) (own.map (·.1)) c.mu c.mu k,(0,.box s.bt (JR s.cs (jy s.cs 1) x))::wH s.cs (jy s.cs 1) x,0,c.w,[],fun b=>s.rigid=false/\b<c.w.heap.size/\ ¬c.free b/\ ¬aA b⟩
 have aX:(jy s.cs 1).length=own.length:=by rw[<-ag];exact aaN s.cs cells hx 1
 have ah: ∀(k i v M:Nat),own[k]? =a6 (i,v)->(jy s.cs 1)[k]? =a6 (M,0)->M≠0/\I.mu M=c.mu i:=fun k i v M d l=>by
  have N:=IQ s.cs 1 _ (List.mem_of_getElem? l);refine⟨by simp at N;omega, ?_⟩;have X:M≠0:=by simp at N;omega
  simp only[I,aq X];exact XZ _ _ k M i (xF s.cs 1) (by rw[List.getElem?_map,l];rfl) (by rw[List.getElem?_map,d];rfl)
 have aF: ∀(M:Nat) (o:eu),eG I.hp M=a6 o->(M=0/\o=.box s.bt (JR s.cs (jy s.cs 1) x))\/
   ∃(k i v:Nat) (e:Ty) (G:List e.den),own[k]? =a6 (i,v)/\(jy s.cs 1)[k]? =a6 (M,0)/\o=.arr e 0 G/\eG c.hp i=a6 (.arr e v G):=fun M o m=>by
  simp only[I,fB]at m;split at m
  .rename_i e
   cases m;exact .inl ⟨e.symm,rfl⟩
  .right;obtain⟨k,i,v,v',e,G,D,B,Y,J,_⟩:=aaG s.cs cells (jy s.cs 1) hx (by rw[ag];exact aX) M o (zn _ _ _ m);rw[ag]at D;have:=Af s.cs 1 _ (List.mem_of_getElem? B);simp only at this;subst this;exact⟨k,i,v,e,G,D,B,Y,J⟩
 have aG: ∀b,I.own b->aA b:=fun b ⟨M,o,d,l⟩=>by
  rcases aF M o d with ⟨rfl,rfl⟩|⟨k,i,v,e,G,D,B,rfl,J⟩
  .exact⟨id,_,.inl rfl,ab,by simpa [I,eu.blk] using l⟩
  .rw[(ah k i v M D B).2]at l;exact⟨i,_,.inr (List.mem_map.2 ⟨_,List.mem_of_getElem? D,rfl⟩),J,l⟩
 have cc: ∀b,c.free b->I.free b/\I.w.heap[b]? =c.w.heap[b]? :=fun b E=>⟨⟨E.1,fun m=>E.2.1 (aW b (aG b m)),by simp[I],fun aY=>aY.2.2.1 E⟩,rfl⟩;have conv: ∀(t:Ty) (v:di) (x:t.den) (u:Value),(∀i ai vw,v=.slc i ai vw->s.rigid=true/\i≠id/\i∉own.map (·.1))->v.as c.hp t=a6 x->dn c v u->VD I t x u:=fun t v x u eq d l=>by
  refine ajc V cc (fun i ai vw ad o b N X=> ?_) d l;obtain⟨h5,h6,h7⟩:=eq i ai vw ad;refine⟨⟨((V.obj i o N).lt X).2,fun m=> ?_,by simp[I],fun aY=>by have:=aY.1;rw[h5]at this;cases this⟩,rfl⟩;obtain⟨j,Z,hj,h8,h9⟩:=aG b m;have:=V.inj i j o Z b N h8 X h9;subst this;rcases hj with hj|hj
  .exact h6 hj
  .exact h7 hj
 have cd: ∀i,i∈mr qs++wM s.cs cells->i≠id/\i∉own.map (·.1):=fun i q=>by
  have:=aV i q;simp only[List.mem_cons,not_or]at this;exact this
 have es:I.Ok W0:=by
  refine⟨V.bel,fun M o m=> ?_,fun i j o p b d l N X=> ?_,fun r hr=>by simp[I]at hr,fun b E=>⟨E.2.1,fun m=>E.2.2.2 (aG b m),by simp[I]⟩,V.phi⟩
  .rcases aF M o m with ⟨rfl,rfl⟩|⟨k,i,v,e,G,D,B,rfl,J⟩
   .refine⟨by simpa [I] using hB,vs,by simpa [I] using hw, ?_,ee⟩;refine agm s.cs cells (jy s.cs 1) vs.toList hx ea (by rw[ag];exact aX) (fun k i v M v' D B e G Y=> ?_) fun t v x u D B Y J q5=>conv t v x u (fun i ai vw ad=> ?_) J q5
    .rw[ag]at D;have ch:=Af s.cs 1 _ (List.mem_of_getElem? B);simp only at ch;subst ch;obtain⟨h6,h7⟩:=ah k i v M D B;refine⟨?_,by rw[h7]⟩;obtain⟨e2,gA,h8,h9⟩:=ac2 s.cs cells (jy s.cs 1) hx k i v M 0 (by rw[ag];exact D) B;rw[Y]at h8;cases h8;have eG:=RY _ _ _ (List.Sublist.nodup (PU s.cs (jy s.cs 1) x) (xF s.cs 1)) h9;simp only[I,fB,aq (Ne.symm h6)];exact eG
    .subst ad;obtain⟨h6,h7⟩:=cd i (bH _ (Y i (by simp[refs])));refine⟨?_,h6,h7⟩;cases hrg2:s.rigid with
     |true=>rfl
     |false=>
      rcases B (by rw[hrg2];rfl)with h8|h8
      .simp[nY]at h8
      .cases t<;>simp[Ty.rigid]at h8<;>simp[di.as]at J
   .obtain⟨aZ,el,zs,w1,w2,w3⟩:=V.obj i _ J;refine⟨aZ,el,zs,by rw[(ah k i v M D B).2];exact w1,gW.mono (fZ.mono cc e) _ _ w2,w3⟩
  .rcases aF i o d with ⟨rfl,rfl⟩|⟨k,i1,v,e,G,D,B,rfl,J⟩<;>rcases aF j p l with ⟨rfl,rfl⟩|⟨k',i2,v',e',aH,ak,al,rfl,aI⟩
   .rfl
   .rw[(ah k' i2 v' j ak al).2]at X;have:=V.inj id i2 _ _ b ab aI (by simpa [I,eu.blk] using N) X;subst this;rw[ab]at aI;cases aI
   .rw[(ah k i1 v i D B).2]at N;have:=V.inj id i1 _ _ b ab J (by simpa [I,eu.blk] using X) N;subst this;rw[ab]at J;cases J
   .rw[(ah k i1 v i D B).2]at N;rw[(ah k' i2 v' j ak al).2]at X;have:=V.inj i1 i2 _ _ b J aI N X;subst this;have bf:k=k':=by
     have e1:(own.map (·.1))[k]? =a6 i1:=by rw[List.getElem?_map,D];rfl
     have e2:(own.map (·.1))[k']? =a6 i1:=by rw[List.getElem?_map,ak];rfl
     exact(List.getElem?_inj (List.getElem?_eq_some_iff.1 e1).1 aw).1 (e1.trans e2.symm)
    subst bf;rw[B]at al;cases al;rfl
 obtain⟨us⟩:=us;cases us with
 |nil=>simp[bT]at hv
 |cons u0 us=>
 simp only[bT]at hv;obtain⟨bg,et⟩:=hv;have ew:bT I (.ptr 0 0::Nr s.ps y) (u0::us):=by
  simp only[bT];refine⟨?_,P9 s.ps y us (CV s.ps qs y us hy et fun t v x u hm d l=>conv t v x u (fun i ai vw ad=> ?_) d l)⟩
  .simp only[dn]at bg ⊢;exact⟨bg.1,.inl ⟨_,by simp[I,fB];rfl⟩,fun t' gC _=>by simpa [I] using bg.2.2 _ _ ab⟩
  .subst ad;have ex:i∈mr qs:=aaP _ _ hm i (by simp[refs]);obtain⟨h6,h7⟩:=cd i (List.mem_append_left _ ex);refine⟨?_,h6,h7⟩;rcases ay with ay|ay
   .exact ay
   .have:=List.any_eq_false.1 ay _ hm;simp[nY]at this
 obtain⟨eL,fd⟩:=hs W0 I x y z es rfl rfl rfl ⟨u0::us⟩ ew hz;refine⟨eL,fd.mono ?_⟩;rintro e w' ⟨O,cm,an,rfl,rfl,ao,bi,cn,fi,fl,aJ,fo⟩
 let U:List (Nat×Nat):=own.map fun p=>(p.1,p.2+1)
 generalize aK:qp s.cs an=own1 at*
 let A:Cx:=⟨fun i=>if i=id then c.mu id else Zr (own.map (·.1)) (own1.map (·.1)) O.mu c.mu i,jB (RZ (wH s.cs U z.1) c.hp) id (.box s.bt (JR s.cs U z.1)),c.nxt,O.w,c.mks,c.bar⟩
 have cv:own1.length=own.length:=by rw[<-aK,<-aaN s.cs an aJ 1,aX]
 have dd:U.length=(qp s.cs an).length:=by rw[aK];simp[U,cv]
 have df:(U.map (·.1))=own.map (·.1):=by simp[U,List.map_map,Function.comp_def]
 have fs:((wH s.cs U z.1).map (·.1)).Nodup:=List.Sublist.nodup (PU s.cs U z.1) (by rw[df];exact aw);have bn: ∀i,i∈(wH s.cs U z.1).map (·.1)->i∈own.map (·.1):=fun i q=>by
  have:=(PU s.cs U z.1).subset q;rwa [df]at this
 have aO: ∀(k i v:Nat),own[k]? =a6 (i,v)-> ∃(j w:Nat) (e:Ty) (G:List e.den),own1[k]? =a6 (j,w)/\eG O.hp j=a6 (.arr e w G)/\eG A.hp i=a6 (.arr e (v+1) G)/\A.mu i=O.mu j/\(.list e,true)∈s.cs:=fun k i v hk=>by
  have ft:k<own1.length:=by rw[cv];exact(List.getElem?_eq_some_iff.1 hk).1
  obtain⟨⟨j,w⟩,hj⟩: ∃p,own1[k]? =a6 p:=⟨_,List.getElem?_eq_getElem ft⟩;have fv:U[k]? =a6 (i,v+1):=by simp[U,List.getElem?_map,hk]
  obtain⟨e,G,d,l⟩:=ac2 s.cs an U aJ k j w i (v+1) (by rw[aK];exact hj) fv;obtain⟨k',i1,v1,v2,e',aH,D,B,Y,J,q5⟩:=aaG s.cs an U aJ dd i _ l;have fA:i∈own.map (·.1):=List.mem_map.2 ⟨_,List.mem_of_getElem? hk,rfl⟩;have dl:id≠i:=fun e=>bI (e▸fA);obtain⟨e0,gi,h0⟩:=aB k i v hk;refine⟨j,w,e,G,hj,d, ?_, ?_, ?_⟩
  .simp only[A];rw[jR,aq dl];exact GK _ _ _ _ fs l (by rw[h0];rfl)
  .simp only[A,aq (Ne.symm dl)];exact XZ _ _ k i j aw (by rw[List.getElem?_map,hk];rfl) (by rw[List.getElem?_map,hj];rfl)
  .cases Y;exact q5
 have bu:eG A.hp id=a6 (.box s.bt (JR s.cs U z.1)):=by
  simp only[A];rw[jR,am rfl,pq _ _ _ fun h=>bI (bn id h),ab];rfl
 have aP:A.mu id=c.mu id:=by simp[A]
 have dp:(O.mu 0).blk=(c.mu id).blk:=by rw[fi];simp[I]
 have aS: ∀(i:Nat) (Z:eu),S i->eG A.hp i=a6 Z-> ∃j o1,eG O.hp j=a6 o1/\o1.blk (O.mu j)=Z.blk (A.mu i)/\((i=id/\j=0/\o1=.box s.bt an)\/ ∃(k v w:Nat),own[k]? =a6 (i,v)/\own1[k]? =a6 (j,w)/\ ∃(e:Ty) (G:List e.den),o1=.arr e w G):=fun i Z q m=>by
  rcases q with rfl|q
  .rw[bu]at m;cases m;exact⟨0,_,cn,by simp[eu.blk,aP,dp],.inl ⟨rfl,rfl,rfl⟩⟩
  .obtain⟨p,W,rfl⟩:=List.mem_map.1 q;obtain⟨k,hk⟩:=az p W;obtain⟨j,w,e,G,D,B,Y,J,_⟩:=aO k p.1 p.2 hk;rw[Y]at m;cases m;exact⟨j,_,B,by simp only[eu.blk];rw[J],.inr ⟨k,p.2,w,hk,D,e,G,rfl⟩⟩
 have dq: ∀b,b<c.w.heap.size-> ¬aA b->O.out b/\O.w.heap[b]? =c.w.heap[b]? :=fun b E hn=>bi.out b ⟨E,fun m=>hn (aG b m),by simp[I]⟩;obtain⟨ds,gj⟩:=Cx.many (c2:=A) V S rfl rfl rfl (fun i q=>by
   have d:i≠id:=fun e=>q (.inl e);have l:i∉own.map (·.1):=fun e=>q (.inr e);refine⟨?_,by simp only[A,aq d];exact X0 _ _ _ l⟩;simp only[A];rw[jR,aq (Ne.symm d),pq _ _ _ fun h=>l (bn i h)])
  (fun i q=>by
   rcases q with rfl|q
   .exact⟨_,_,ab,bu,by simp[eu.like,aP],by simp⟩
   .obtain⟨p,W,rfl⟩:=List.mem_map.1 q;obtain⟨k,hk⟩:=az p W;obtain⟨j,w,e,G,D,B,Y,J,_⟩:=aO k p.1 p.2 hk;obtain⟨e0,gi,h0⟩:=aB k p.1 p.2 hk;exact⟨_,_,h0,Y,⟨by omega,fun e=>by omega⟩,by simp⟩)
  ao.bel bi.size (fun b E hn=>(dq b E fun⟨i,o,d,l,N⟩=>hn i o d l N).2)
  (fun i Z b q m E=>by
   by_cases hlt:b<c.w.heap.size
   .right;refine Classical.byContradiction fun hn=> ?_;obtain⟨j,o1,d,l,_⟩:=aS i Z q m;exact(dq b hlt fun⟨j,o,N,X,h5⟩=>hn ⟨j,o,N,X,h5⟩).1.2.1 ⟨j,o1,d,l.trans E⟩
   .left;omega)
  (fun i M Z p' b q gk m W E gl=>by
   obtain⟨j,o1,d,l,N⟩:=aS i Z q m;obtain⟨j',gn,av,aU,dE⟩:=aS M p' gk W;have hj:=ao.inj j j' o1 gn b d av (l.trans E) (aU.trans gl);subst hj;rw[d]at av;cases av;rcases N with ⟨rfl,rfl,rfl⟩|⟨k,v,w,D,B,e,G,rfl⟩
   .rcases dE with ⟨rfl,_⟩|⟨k',v',w',ak,al,e',aH,he⟩
    .rfl
    .cases he
   .rcases dE with ⟨_,_,he⟩|⟨k',v',w',ak,al,e',aH,he⟩
    .cases he
    .have bf:k=k':=by
      have e1:(own1.map (·.1))[k]? =a6 j:=by rw[List.getElem?_map,B];rfl
      have e2:(own1.map (·.1))[k']? =a6 j:=by rw[List.getElem?_map,al];rfl
      exact(List.getElem?_inj (List.getElem?_eq_some_iff.1 e1).1 fl).1 (e1.trans e2.symm)
     subst bf;rw[D]at ak;cases ak;rfl)
  (fun b L i o q m E=>by
   obtain⟨o2,d,l⟩:=en i q;rw[m]at d;cases d;exact(V.obj i o m).no_loop l E)
 have bC:s.rigid=true\/ ∀b,O.free b->A.free b:=by
  cases hrg2:s.rigid with
  |true=>exact .inl rfl
  |false=>
   right;intro b E;have bD: ∀b,b<c.w.heap.size-> ¬c.free b-> ¬aA b-> ¬O.free b:=fun b d l N hf=>hf.2.2.2 (by rw[bi.bar];exact⟨hrg2,d,l,N⟩);refine⟨E.1, ?_,fun hm=> ?_,fun hm=> ?_⟩
   .rintro ⟨i,Z,d,l⟩;by_cases q:S i
    .obtain⟨j,o1,N,X,_⟩:=aS i Z q d;exact E.2.1 ⟨j,o1,N,X.trans l⟩
    .have av:i≠id:=fun e=>q (.inl e);have aU:i∉own.map (·.1):=fun e=>q (.inr e);simp only[A]at d l;rw[jR,aq (Ne.symm av),pq _ _ _ fun h=>aU (bn i h)]at d;rw[aq av,X0 _ _ _ aU]at l;refine bD b ((V.obj i Z d).lt l).2 (fun hf=>hf.2.1 ⟨i,Z,d,l⟩) ?_ E;rintro ⟨j,o,hj,N,X⟩;have:=V.inj i j Z o b d N l X;subst this;exact q hj
   .exact bD b (V.mark_lt hm) (fun hf=>hf.2.2.1 hm) (fun m=>V.mark_own hm (aW b m)) E
   .exact bD b (V.bar b hm).1 (fun hf=>hf.2.2.2 hm) (fun m=>(V.bar b hm).2.1 (aW b m)) E
 have bF:s.rigid=true->(∀p∈s.cs,p.1.rigid=true\/p.2=true/\p.1.elem.rigid=true)/\s.rs.all Ty.rigid=true:=fun h=>by
  simp only[gK.rigid,af]at h;exact⟨fun p W=>by have:=List.all_eq_true.1 h.1 p W;simpa using this,h.2⟩
 have gr:A.Ok W0:=gj fun i Z q m=>by
  rcases q with rfl|q
  .rw[bu]at m;cases m;obtain⟨gD,dT,gs,gt,gv⟩:=ao.obj 0 _ cn;refine⟨by rw[aP];exact hB,dT,by rw[aP,<-dp];exact gs, ?_,gv⟩;refine agm s.cs an U dT.toList aJ gt dd (fun k j w i v D B e G Y=> ?_) fun t v x u D B Y J q5=> ?_
   .rw[aK]at D;have hk: ∃v0,own[k]? =a6 (i,v0)/\v=v0+1:=by
     simp only[U,List.getElem?_map,Option.map_eq_some_iff]at B;obtain⟨p,gw,gx⟩:=B;cases gx;exact⟨p.2,gw,rfl⟩
    obtain⟨v0,hk,rfl⟩:=hk;obtain⟨j',w',e',aH,p1,p2,p3,p4,_⟩:=aO k i v0 hk;rw[D]at p1;cases p1;rw[Y]at p2;cases p2;exact⟨p3,by rw[p4]⟩
   .rcases bC with hf|hf
    .have ht:t.rigid=true:=by
      rcases(bF hf).1 (t,false) D with h|h
      .exact h
      .cases h.1
     cases m:nY v with
     |false=>exact VD.move (c':=O) (c2:=A) rfl (.inr ht) (Na (cb:=O) (fun b E=>⟨E,rfl⟩) m J q5)
     |true=>
      refine VD.move (c':=O) (c2:=A) rfl (.inr ht) (ajc (cb:=O) ao (fun b E=>⟨E,rfl⟩) (fun i ai vw ad=> ?_) J q5);subst ad;cases t<;>simp[Ty.rigid]at ht<;>simp[di.as]at J
    .refine VD.move (c':=O) (c2:=A) rfl (.inl hf) (ajc (cb:=O) ao (fun b E=>⟨E,rfl⟩) (fun i ai vw ad=> ?_) J q5);subst ad;rcases B rfl with h8|h8
     .simp[nY]at h8
     .cases t<;>simp[Ty.rigid]at h8<;>simp[di.as]at J
  .obtain⟨p,W,rfl⟩:=List.mem_map.1 q;obtain⟨k,hk⟩:=az p W;obtain⟨j,w,e,G,D,B,Y,J,q5⟩:=aO k p.1 p.2 hk;rw[Y]at m;cases m;obtain⟨aZ,el,zs,w1,w2,w3⟩:=ao.obj j _ B;refine⟨aZ,el,zs,by rw[J];exact w1,gW.move (c':=O) (c2:=A) rfl ?_ w2,w3⟩;rcases bC with hf|hf
   .right;rcases(bF hf).1 _ q5 with h|h
    .simp[Ty.rigid]at h
    .exact h.2
   .exact .inl hf
 have hd:Gg W0 c st A {st with hp:=jB (RZ (wH s.cs U z.1) st.hp) id (.box s.bt (JR s.cs U z.1))}:=⟨by simp[A,hr.hp],hr.nxt,rfl,rfl,gr,ds⟩;exact hR A _ _ _ h (hr.did hd) (DJ (P9 s.rs z.2 cm (sD.move (c':=O) (c2:=A) rfl s.rs z.2 cm (bC.symm.imp (fun h=>h) fun h=>(bF h).2) fo))) ds.mono
theorem agK {cl:Bool}: ∀(cs:List (Ty×Bool)) (n:Nat) (cells:List di) (st:St) (K:List di->St->Option R),vK cl n cs cells st K=a6 r-> ∀(c:Cx) (vs:List Value),c.Ok W0->c.hp=st.hp->c.nxt=st.nxt->bT c cells vs->
  ∃c' d f,Gg W0 c st c' d/\c'.w=c.w/\bT c' f vs/\K f d=a6 r/\ ∀i o,eG st.hp i=a6 o->eG d.hp i=a6 o:=by
 have E: ∀(cells:List di) (st:St) (K:List di->St->Option R),K cells st=a6 r-> ∀(c:Cx) (vs:List Value),c.Ok W0->c.hp=st.hp->c.nxt=st.nxt->bT c cells vs->
   ∃c' d f,Gg W0 c st c' d/\c'.w=c.w/\bT c' f vs/\K f d=a6 r/\ ∀i o,eG st.hp i=a6 o->eG d.hp i=a6 o:=
  fun cells st K h c vs j m p g=>⟨c,st,cells,Gg.refl j m p,rfl,g,h,fun i o h=>h⟩
 intro cs
 induction cs with
 |nil=>intro n cells st K h;cases cells<;>exact E _ st K h
 |cons tc cs G=>
  intro n cells st K h c vs j m p g;cases cells with
  |nil=>exact E _ st K (by obtain⟨t,o⟩:=tc;cases o<;>cases t<;>simpa only[vK] using h) c vs j m p g
  |cons v cells=>
   cases vs with
   |nil=>simp[bT]at g
   |cons u vs=>
    have s:vK cl (n+1) cs cells st (fun l st=>K (v::l) st)=a6 r-> ∃c' d f,Gg W0 c st c' d/\c'.w=c.w/\bT c' f (u::vs)/\K f d=a6 r/\ ∀i o,eG st.hp i=a6 o->eG d.hp i=a6 o:=fun h=>by
     simp only[bT]at g;obtain⟨c',d,f,hd,x,z,A,hp⟩:=G (n+1) cells st _ h c vs j m p g.2;exact⟨c',d,v::f,hd,x,by simp only[bT];exact⟨dn.le hd.le _ _ g.1,z⟩,A,hp⟩
    obtain⟨t,o⟩:=tc;cases o with
    |false=>exact s (by simpa only[vK] using h)
    |true=>
     cases t with
     |list e=>
      cases v with
      |nils=>
       simp only[vK]at h;replace h:=dN h;obtain⟨B,h⟩:=h;have B:0<e.size:=by simpa [TS] using B
       obtain⟨id,U,I,L,M,h⟩:=jC h;simp only[bT]at g;have J:=g.1;simp only[dn]at J;subst J;obtain⟨N,q,O,S⟩:=uh j m p I L M (y:=e) B (xs:=[]) (v:=.slice a7 0 0) (w:=c.w) (Below.refl _ _) qI [] ⟨by simp,.inl ⟨rfl,rfl⟩⟩ (by simp[gW]) rfl (fun _=>rfl);obtain⟨c',d,f,hd,x,z,A,hp⟩:=G (n+1) cells _ _ h N vs q.ok q.hp q.nxt (bT.le q.le _ _ g.2);refine⟨c',d,.slc id 0 a7::f,q.trans hd,x.trans O,by simp only[bT];exact⟨dn.le hd.le _ _ S,z⟩,A,fun i o D=>hp i o ?_⟩;have:id≠i:=fun e=>by subst e;rw[I]at D;cases D
       simp only[fB,aq this];exact D
      |_=>exact s (by simpa only[vK] using h)
     |_=>exact s (by simpa only[vK] using h)
theorem aL2 {g:FuncId} {s:gK} (V:eP P g s) (cl:Bool) (n:Nat):nO (R:=R) P W0 n (Ru g s cl):=by
 intro b0 rd W X ay st K r h c a ats az j f G Y o next Q Z
 cases W with
 |fn g' ab=>
  simp only[Ru]at h;split at h
  .rename_i hg
   subst hg;simp only[dn]at G;obtain⟨l,rfl,ad⟩:=G;have I:=bT.append_arr Y ad;have ag: ∀p:Ending->World->Prop,(∀d z u i,K z i=a6 r->je W0 b0 rd d i a ats->dn d z u->c.Mono d->p (.returned u) d.w)->
     (callFunc g' (j++l)).run P c.w=.ok (.enter g' (j++l)) c.w/\Calls P g' (j++l) c.w p:=by
    intro p ah;generalize X++ab=al at h I;unfold gK.call at h;split at h<;>try (cases h;done)
    rename_i id qs
    split at h<;>try (cases h;done)
    rename_i t cells q
    rw[cond_eq_ite]at h;split at h
    .rw[<-f.hp]at q;obtain⟨hB,J,hw,ai,ak⟩:=f.ok.obj id _ q;obtain⟨d,i,x,hd,aA,an,hK,M⟩:=agK s.cs _ cells st _ h c J.toList f.ok f.hp f.nxt ai;have m:=f.did hd;have A:eG d.hp id=a6 (.box t cells):=by rw[m.hp];exact M id _ (by rw[<-f.hp];exact q)
     obtain⟨o1,y,B⟩:=hd.le.obj id _ (.inl ⟨_,q⟩) A;rw[q]at y;cases y;simp only[eu.like]at B;have N:eu.like (.box t cells) (d.mu id) (.box t x) (d.mu id):=rfl;have O: ∀b,(eu.box t x).blk (d.mu id)=a6 b->(eu.box t cells).blk (d.mu id)=a6 b\/d.w.heap.size<=b:=fun b hb=>.inl hb;have S: ∀(b:Nat) (L:Loop),(eu.box t cells).blk (d.mu id)=a6 b->d.w.heap[b]? =a6 (Obj.loop L)-> ∃L':Loop,d.w.heap[b]? =a6 (Obj.loop L'):=fun b L _ hL=>⟨L,hL⟩;have U:=Cx.Le.put (w:=d.w) m.ok A N (ae _) (fun b _ _=>rfl) O S;have ao:Gg W0 d i (d.put id (.box t x) (d.mu id) d.w) {i with hp:=jB i.hp id (.box t x)}:=by
      refine⟨by simp only[Cx.put];rw[m.hp],m.nxt,rfl,rfl,Cx.Ok.put m.ok A N m.ok.bel (ae _) (fun b _ _=>rfl) O S ?_,U⟩;refine⟨by simp_all [Cx.put,upd_same],J,by simp_all [Cx.put,upd_same],bT.le U _ _ an,ak⟩
     have D:=hd.trans ao;have hG:=aMX V hK (f.did D) (bT.le D.le _ _ I) p fun c3 z u av k1 k2 k3 k4=>ah c3 z u av k1 k2 k3 (D.le.mono.trans k4);change (callFunc g' (j++l)).run P d.w=.ok (.enter g' (j++l)) d.w/\Calls P g' (j++l) d.w p at hG;simp_all
    grind [aMX]
   obtain⟨y,B⟩:=ag (fun e E=>match e with
     |.returned v=>next (a.put o.dst v) E
     |.panicked aw=>Q (.panic aw) a E
     |.outgrown=>LetsOut Q) (fun d z u i k1 k2 k3 k4=>Z d z u i k1 k2 k3 k4)
   rw[uO,y];exact⟨wC rd,(CX B).mono fun e E he=>by cases e<;>exact he⟩
  .cases h
 |_=>simp[Ru]at h
end
end
section
open Option renaming some → a6, none → a7
open Bool renaming and_eq_true → af
open List renaming length_cons → aS, all_cons → aY
open Nat renaming le_trans → aQ, lt_of_lt_of_le → bz
open Go.RowKit
section
variable {P:Program} {T:TT} {W0:World} {b0:Nat} {rd:Option Nat} {R:Type} {r:R} {c:Cx} {ats:List (Array Value)}
theorem aOx {g:FuncId} {s:Sum} (hs:dX P g s) (cl:Bool) (n:Nat):nO (R:=R) P W0 n (Iq g s cl):=by
 intro b0 rd fv aO aP st K r h c a ats aU ab i ad al o next Q hn
 cases fv with
 |fn g' aV=>
  simp only[Iq]at h;split at h
  .rename_i hg
   subst hg;simp only[dn]at ad;obtain⟨vs,rfl,an⟩:=ad;have ae:=bT.append_arr al an;obtain⟨I,x,y,L,hy,A⟩:=aiS h;rw[<-i.hp]at L;obtain⟨z,ao,au,av⟩: ∃z:Nat->Prop,(∀b,z b->b<c.w.heap.size)/\sD (mW c.w z) s.ps x (ab++vs).toList/\
     ((s.rs.all fun r=>r.1.rigid||(r.2&&r.1.elem.rigid))=true\/z=fun b=>b<c.w.heap.size/\ ¬c.free b):=by
    rcases I with I|I
    .refine⟨fun _=>False,fun b h=>h.elim,CV s.ps _ x _ L ae fun t v x u _ M A=>amz i.ok (fun b m=>⟨KW.2 ⟨m,fun h=>h⟩,rfl⟩) M A,.inl I⟩
    .refine⟨fun b=>b<c.w.heap.size/\ ¬c.free b,fun b h=>h.1,CV s.ps _ x _ L ae fun t v x u hm M A=>Na (fun b m=>⟨KW.2 ⟨m.1,fun h=>h.2 m⟩,rfl⟩) ?_ M A,.inr rfl⟩
     grind
   have aw: ∀e B,D7 c.w z s.rs y e B->(match e with
     |.returned v=>next (a.put o.dst v) B
     |.panicked ax=>Q (.panic ax) a B
     |.outgrown=>LetsOut Q):= ?_
   .rw[uO];rcases hs c.w z (ab++vs) x y i.ok.phiw ao au hy with ⟨N,O⟩|⟨u,N,O⟩
    .rw[N];exact⟨wC rd,(CX O).mono fun e B he=>by
      grind⟩
    .rw[N];exact aw (.returned u) c.w O
   rintro e B ⟨d,us,rfl,rfl,S,ay,aW,aX,U⟩;simp only;have D:JP c d.w:=S.bel;have ag: ∀(q:Cx),q.w=d.w->(∀b,(c.at_ d.w).free b->d.free b->q.free b)->((s.rs.all fun r=>r.1.rigid||(r.2&&r.1.elem.rigid))=true\/ ∀b,d.free b->q.free b):=fun q hw hf=>by
    rcases av with V|V
    .exact .inl V
    .right;intro b m;exact hf b (aB7 i.ok S (ay.trans V) m) m
   rcases A with ⟨aZ,ah,W⟩|⟨e,f,id,p,bd,ah,h5,h6,h7,W⟩
   .have az:=i.ext D;refine hn (c.at_ d.w) _ _ _ W az (DJ ?_) (Cx.Le.ext D).mono;refine JO (c':=d) (c2:=c.at_ d.w) rfl 0 s.rs y us (fun t ht=> ?_) (.inl ah) U;rcases ag (c.at_ d.w) rfl (fun b h _=>h)with h8|h8
    all_goals grind
   .have aA:=S.obj 0 (.arr e 0 f) (by simp_all [Ji,fB]);obtain⟨aB,el,zs,X,hL,aF⟩:=aA;have hk:=DC i.hp i.nxt h5 h6;obtain⟨u0,ai⟩:=aiV s.rs y us (by omega) U;simp only[dn]at ai;have Y:eG d.hp 0=a6 (.arr e 0 f):=by simp_all [Ji,fB]
    have aG:(d.mu 0).v.oneCell'=true:=by
     have:=(ai.2.2 _ _ _ Y).2 rfl;simp_all [jv]
    have hl: ∀b,eu.blk (.arr e 0 f) ⟨0,(d.mu 0).v⟩=a6 b->c.w.heap.size<=b:=fun b m=>(World.ownsRow.lt X b m).1;have aj:=Cx.Le.push (o:=.arr e 0 f) (l:=⟨0,(d.mu 0).v⟩) (nxt:=p) (w:=d.w) hk (by rw[i.nxt];exact h7) D.size D.block hl;have bf:=ag (c.push id (.arr e 0 f) ⟨0,(d.mu 0).v⟩ p d.w) rfl (fun b Z aH=>⟨Z.1,(by
     rintro ⟨j,o,J,E⟩;simp only[Cx.push,fB]at J E;split at J
     .rename_i G
      subst G;cases J;rw[upd_same]at E;exact aH.2.1 ⟨0,_,Y,E⟩
     .rename_i G
      rw[upd_ne _ _ (Ne.symm G)]at E;exact Z.2.1 ⟨j,o,J,E⟩),Z.2.2⟩)
    have bg:d.w.ownsRow W0.heap.size el e.size (d.mu 0).v f.length zs:=by
     refine⟨X.1, ?_⟩;rcases X.2 with h|⟨g,aI,aJ,G,e2,e3⟩
     .exact .inl h
     .exact .inr ⟨g,aI,aJ,G,aQ i.ok.size e2,e3⟩
    have ho:(c.push id (.arr e 0 f) ⟨0,(d.mu 0).v⟩ p d.w).ORel W0.heap.size id (.arr e 0 f):=by
     refine⟨aB,el,zs,by simp_all [Cx.push,upd_same],gW.move (c':=d) (c2:=c.push id (.arr e 0 f) ⟨0,(d.mu 0).v⟩ p d.w) rfl ?_ hL,aF⟩
     grind [SV]
    have aK:=i.ok.push hk (by rw[i.nxt];exact h7) D hl ho;have hd:Gg W0 c st (c.push id (.arr e 0 f) ⟨0,(d.mu 0).v⟩ p d.w) {st with hp:=(id,.arr e 0 f)::st.hp,nxt:=p}:=⟨by simp[Cx.push,i.hp],rfl,rfl,rfl,aK,aj⟩;refine hn (c.push id (.arr e 0 f) ⟨0,(d.mu 0).v⟩ p d.w) _ _ _ W (i.did hd) (DJ ?_) aj.mono;refine JO (c':=d) (c2:=c.push id (.arr e 0 f) ⟨0,(d.mu 0).v⟩ p d.w) rfl id s.rs y us (fun t ht=> ?_) (.inr fun u hu=> ?_) U
    .grind
    .simp only[dn]at hu ⊢;have ak:=(hu.2.2 _ _ _ Y).2 rfl;simp only[jv]at ak;subst ak;refine⟨aG,.inl ⟨.arr e 0 f,by simp[Cx.push,fB]⟩,fun t u bi h=> ?_⟩;simp_all [Cx.push,jv,upd_same]
  .cases h
 |_=>simp[Iq]at h
theorem XD: ∀(rs:List (Ty×Bool)),(rs.all fun r=> !r.2&&r.1.rigid)=true->news rs=0
 |[],_=>rfl
 |(t,true)::rs,h=>by simp at h
 |(t,false)::rs,h=>by
  simp only[aY,af]at h;exact XD rs h.2
theorem aOw {g:FuncId} {s:Sum} (G:dX P g s) (cl:Bool) (I:(s.rs.all fun r=> !r.2&&r.1.rigid)=true):oM (R:=R) P (Iq g s cl):=by
 intro W0 b0 rd J ab ad st K r h c a ats ae f i z L;cases J with
 |fn g' ag=>
  simp only[Iq]at h;split at h
  .rename_i M
   subst M;simp only[dn]at z;obtain⟨j,rfl,N⟩:=z;have O:=bT.append_arr L N;obtain⟨hc,x,y,A,S,l⟩:=aiS h;rw[<-i.hp]at A;rcases l with ⟨ah,U,V⟩|⟨e,xs,id,n',ai,U,_⟩
   .have m:=X3 _ (MN 0 s.rs y I);refine⟨_,rv (QW (qK 0 s.rs y)),V,(MJ m _).2 rfl,fun B d=> ?_⟩;have W:sD (mW B fun _=>False) s.ps x (f++j).toList:=CV s.ps _ x _ A O fun t v x u _ X l=>amz i.ok (fun b D=>⟨KW.2 ⟨bz D d.size,fun h=>h⟩,d.block b D⟩) X l;rcases G B (fun _=>False) (f++j) x y (Phi.below d i.ok.phiw) (fun b h=>h.elim) W S with ⟨o,p⟩|⟨u,o,p⟩
    .refine .inl ⟨g',f++j,by rw[uO,o],p.mono ?_⟩;rintro e aj ⟨Y,us,rfl,rfl,E,ak,al,an,q⟩;exact⟨by rw[(MJ m _).1 (DJ q)],d.trans (E.bel.mono d.size)⟩
    .obtain⟨Y,us,Z,_,E,_,_,_,q⟩:=p;cases Z;right;rw[uO,o,(MJ m _).1 (DJ q)]
   simp_all [XD]
  .cases h
 |_=>simp[Iq]at h
theorem aFz {E:Env} (hT:TOk P E.T) (hb: ∀g,E.bf g=true->D6 P g) (h: ∀g s,E.sg g=a6 s->dX P g s) (hx: ∀g s,E.sb g=a6 s->eP P g s):yR P E:=
 ⟨hT,fun R W0 n g s d=>aL2 (hx g s d) E.cl n,hb,fun R W0 n g s d=>aOx (h g s d) E.cl n,fun R g s d e=>aOw (h g s d) E.cl e⟩
def IE:(d:List Ty)->(d.foldr Ty.pair Ty.unit).den->List di
 |[],_=>[]
 |t::d,x=>.val t x.1::IE d x.2
def frozen (hp:iw):di->di
 |.val t x=>.val t x
 |.nils=>.nils
 |.slc id ver d=>match eG hp id with
  |some (.arr e v f)=>bif v==ver then .val (.list e) (af0 f d)else .undef
  |_=>.undef
 |_=>.undef
def di.asR (hp:iw) (own:Bool) (t:Ty) (v:di):Option t.den:=bif own then v.as hp t else match v with
 |.agg l=>bif t.isAgg then Kv t (l.map (frozen hp))else a7
 |v=>v.as hp t
def jO (own:Bool):(rs:List (Ty×Bool))->List di->iw->Option ((rs.map (·.1)).foldr Ty.pair Ty.unit).den
 |[],[],_=>a6 ()
 |(t,false)::rs,v::l,d=>match(bif own&&(nY v&& !t.rigid)then a7 else v.asR d own t),jO own rs l d with
  |some x,a6 y=>a6 (x,y)
  |_,_=>a7
 |(.list e,true)::rs,.slc id ver a7::l,d=>match eG d id with
  |some (.arr t u f)=>bif u==ver then(match kY (.list e) (t':=.list t) f,jO own rs l d with
   |some x,a6 y=>a6 (x,y)
   |_,_=>a7)else a7
  |_=>a7
 |_,_,_=>a7
def TV (n:Nat) (v:di):List di:=
 match n,v with
 |1,v=>[v]
 |_,.tup l=>l
 |_,_=>[.undef]
def TY (E:Env) (g:FuncId) (d:List Ty) (rs:List (Ty×Bool)) (x:(d.foldr Ty.pair Ty.unit).den):Option ((rs.map (·.1)).foldr Ty.pair Ty.unit).den:=
 mJ E 1000000 (.call g (IE d x)) ⟨[],[],[],0⟩ fun v st=>jO (!Nat.beq (news rs) 0) rs (TV rs.length v) st.hp
theorem RG: ∀(d:List Ty) x (us:List Value),sD c d x us->bT c (IE d x) us
 |[],x,us,h=>by
  simp_all [sD,IE,bT]
 |t::d,x,us,h=>by
  obtain⟨u,e,rfl,f,g⟩:=h;simp only[IE,bT,dn];exact⟨f,RG d x.2 e g⟩
theorem yj {own:Bool}: ∀(rs:List (Ty×Bool)) (l:List di) {hp:iw},(jO own rs l hp).isSome=true->l.length=rs.length
 |[],[],_,_=>rfl
 |[],_::_,_,h=>by simp[jO]at h
 |(t,false)::rs,[],_,h=>by simp[jO]at h
 |(t,false)::rs,v::l,hp,h=>by
  simp only[jO]at h;split at h
  .rename_i d
   simp[yj rs l (hp:=hp) (by rw[d];rfl)]
  .cases h
 |(t,true)::rs,[],_,h=>by simp_all [jO]
 |(t,true)::rs,v::l,hp,h=>by
  cases t with
  |list e=>
   cases v with
   |slc id ver f=>
    cases f with
    |none=>
     simp only[jO]at h;split at h
     .rw[cond_eq_ite]at h;split at h
      .split at h
       .rename_i d
        simp[yj rs l (hp:=hp) (by rw[d];rfl)]
       .cases h
      .cases h
     .cases h
    |some p=>simp[jO]at h
   |_=>simp[jO]at h
  |_=>simp[jO]at h
theorem X4 {own:Bool} {v:di} {u:Value} {rs:List (Ty×Bool)} {hp:iw} (h:(jO own rs (TV rs.length v) hp).isSome=true) (d:dn c v u): ∃us,u=TW us/\bT c (TV rs.length v) us:=by
 match rs,h with
 |[t],h=>exact⟨[u],rfl,by simpa [TV,bT] using d⟩
 |[],h=>
  cases v with
  |tup l=>
   simp only[List.length_nil,TV]at h ⊢;cases l with
   |nil=>
    simp only[dn]at d;obtain⟨e,rfl,f⟩:=d;have:e= #[]:=by
     have:=bT.length _ _ f
     grind
    subst this;exact⟨[],rfl,by simp[bT]⟩
   |cons _ _=>simp[jO]at h
  |_=>simp[TV,jO]at h
 |g::i::rs,h=>
  cases v with
  |tup l=>
   simp only[dn]at d;obtain⟨e,rfl,f⟩:=d;have m:=bT.length _ _ f;have o:l.length=(g::i::rs).length:=yj _ _ h;simp only[aS,TV];refine⟨e.toList, ?_,f⟩;cases hvs:e.toList with
   |nil=>simp_all
   |cons v1 j=>
    cases j with
    |nil=>simp_all
    |cons v2 p=>simp only[TW];rw[<-hvs]
  |_=>
   exfalso;have:=yj _ _ h;simp[TV]at this
end
end
section
open Option renaming some → a6, none → a7
open Bool renaming and_eq_true → af
open List renaming map_cons → ax, length_map → aP
open Nat renaming le_refl → ae, eq_of_beq_eq_true → aj
open Go.RowKit
structure fH (E:Env):Prop where
 T:TOk E.P E.T
 m:E.P.follows .mixedOrders=true
 ng:MX E.P
 S: ∀g s,E.sg g=a6 s->dX E.P g s
 L:vJ E.P E
 R:ai8 E
 B: ∀g,E.bf g=true->D6 E.P g
 X: ∀g s,E.sb g=a6 s->eP E.P g s
section
variable {P:Program} {T:TT} {W0:World} {b0:Nat} {rd:Option Nat} {R:Type} {r:R} {c:Cx} {ats:List (Array Value)}
theorem Nv {E:Env} (h:fH E) (m:Nat) (R:Type) (W0:World):xC E.P W0 (mJ E m (R:=R)):=
 (Lm h.T h.m h.ng rfl rfl (aFz h.T h.B h.S h.X) h.L h.R m R W0).1
theorem II {w:World} {e:Nat->Prop} (f:Phi w) (hb: ∀b,e b->b<w.heap.size):je w 0 a7 (mW w e) ⟨[],[],[],0⟩ ⟨#[],[]⟩ []:=
 ⟨rfl,rfl,⟨Below.refl _ _,fun id o h=>by simp[mW,eG]at h,fun i j o p b h=>by simp[mW,eG]at h,fun r d=>by simp[mW]at d,fun b h=>⟨hb b h,(by rintro ⟨i,o,h,_⟩;simp[mW,eG]at h),by simp[mW]⟩,f⟩,by simp[mW,bT],trivial,⟨[],rfl,List.nodup_nil,fun r d=>by simp at d⟩,fun l g=>by cases g⟩
theorem ae3 {own:Bool} {c':Cx} (m:c'.w=c.w) (hf: ∀b,c.free b->c'.free b) (y:own=false-> ∀b,b<c.w.heap.size-> ¬c.bar b->c'.free b) {t:Ty} {v:di} {x:t.den} {u:Value} (s:c.Ok W0)
  (h:(bif own&&(nY v&& !t.rigid)then a7 else v.asR c.hp own t)=a6 x) (d:dn c v u):VD c' t x u:=by
 have o: ∀b,c.free b->c'.free b/\c'.w.heap[b]? =c.w.heap[b]? :=fun b z=>⟨hf b z,by rw[m]⟩;rw[cond_eq_ite]at h;split at h
 .cases h
 rename_i S
 have A: ∀{id g i} {u:Value} {e:Ty} {x:List e.den},own=false->(di.slc id g i).as c.hp (.list e)=a6 x->dn c (.slc id g i) u->VD c' (.list e) x u:=fun {id g i u e x} B h d=>by
  obtain⟨a,cp,D,j,p,E⟩:=Yk s h d;have G:=afd s h d j;exact(VD.leaf rfl).2 ⟨a,cp,D,by rw[j],G,gW.mono (fZ.mono o e) _ _ p,E.imp (fun h=>h) fun⟨b,I,J,K,L,M⟩=>⟨b,I,J,y B b K L,M.of_block (by rw[m])⟩⟩
 cases own with
 |true=>
  have h:v.as c.hp t=a6 x:=h;cases ho:nY v with
  |false=>exact Na o ho h d
  |true=>
   cases v with
   |slc id g i=>
    cases t with
    |list e=>grind [Ty.rigid]
    |_=>simp[di.as]at h
   |agg l=>
    simp only[di.as]at h;rw[cond_eq_ite]at h;split at h
    .rename_i q
     simp only[dn]at d;obtain⟨f,rfl,j,p⟩:=d;exact VD.move m (.inl hf) ((VD.agg q).2 ⟨f,rfl,qm h j⟩)
    .cases h
   |_=>simp[nY]at ho
 |false=>
  cases v with
  |slc id g i=>
   have h:(di.slc id g i).as c.hp t=a6 x:=h;cases t with
   |list e=>grind
   |_=>simp[di.as]at h
  |agg l=>
   have h:(bif t.isAgg then Kv t (l.map (frozen c.hp))else a7)=a6 x:=h;obtain⟨q,h⟩:=dN h;simp only[dn]at d;obtain⟨f,rfl,j,p⟩:=d;have N: ∀(l:List di) (f:List Value),bT c l f->bT c' (l.map (frozen c.hp)) f:=by
    intro l
    induction l with
    |nil=>grind [bT]
    |cons v l O=>intro f h;cases f with
     |nil=>simp[bT]at h
     |cons u f=>
      simp only[bT,ax]at h ⊢;refine⟨?_,O f h.2⟩;have d:=h.1;cases v with
      |val t x=>
       grind [frozen,dn,VD.move]
      |nils=>assumption
      |slc id g i=>
       simp only[frozen];split
       .rename_i e v U V
        rw[cond_eq_ite];split
        .rename_i W
         simp only[dn];refine A rfl ?_ d;simp_all [di.as,Eh,ik]
        .simp[dn]
       .simp[dn]
      |_=>simp[frozen,dn]
   exact(VD.agg q).2 ⟨f,rfl,qm h (N l _ j)⟩
  |_=>
   simp only[di.asR,ac]at h;exact Na o rfl h d
theorem ae1 {own:Bool} {c':Cx} (f:c.Ok W0) (g:c'.w=c.w) (hf: ∀b,c.free b->c'.free b) (i:own=false-> ∀b,b<c.w.heap.size-> ¬c.bar b->c'.free b): ∀(rs:List (Ty×Bool)) (l:List di) (y) (us:List Value),jO own rs l c.hp=a6 y->news rs=0->bT c l us->bT c' (qK 0 rs y) us
 |[],[],y,[],_,_,_=>by simp[qK,bT]
 |[],[],_,_::_,_,_,d=>by simp[bT]at d
 |[],_::_,_,_,h,_,_=>by simp[jO]at h
 |(t,true)::rs,_,_,_,_,e,_=>by simp[news]at e
 |(t,false)::rs,[],_,_,h,_,_=>by simp[jO]at h
 |(t,false)::rs,v::l,y,[],h,_,d=>by simp[bT]at d
 |(t,false)::rs,v::l,y,u::us,h,e,d=>by
  simp only[jO]at h;split at h
  .rename_i x j m o
   cases h;simp only[bT]at d;simp only[qK,bT,dn];exact⟨ae3 g hf i f m d.1,ae1 f g hf i rs l j us o (by simpa [news] using e) d.2⟩
  .cases h
theorem aph (s:c.Ok W0): ∀(rs:List (Ty×Bool)) (l:List di) (y) (us:List Value),jO true rs l c.hp=a6 y->news rs=1->bT c l us->
  ∃(id f:Nat) (e:Ty) (xs:List e.den),eG c.hp id=a6 (.arr e f xs)/\AB rs y=a6 ⟨e,xs⟩/\
   ∀c':Cx,c'.w=c.w->(∀b,c.free b->c'.free b)->c'.hp=[(0,.arr e 0 xs)]->(c'.mu 0).v=(c.mu id).v->bT c' (qK 0 rs y) us
 |[],_,_,_,_,g,_=>by simp[news]at g
 |(t,false)::rs,[],_,_,h,_,_=>by simp[jO]at h
 |(t,false)::rs,v::l,y,[],h,_,d=>by simp[bT]at d
 |(t,false)::rs,v::l,y,u::us,h,g,d=>by
  simp only[jO]at h;split at h
  .rename_i x j i m
   cases h;simp only[bT]at d;obtain⟨id,f,e,xs,k1,k2,k3⟩:=aph s rs l j us m (by simpa [news] using g) d.2;refine⟨id,f,e,xs,k1,k2,fun c' z A B E=> ?_⟩
   grind [qK,bT,dn,ae3]
  .cases h
 |(t,true)::rs,[],_,_,h,_,_=>by simp_all [jO]
 |(t,true)::rs,v::l,y,[],h,_,d=>by simp[bT]at d
 |(t,true)::rs,v::l,y,u::us,h,g,d=>by
  cases t with
  |list e=>
   cases v with
   |slc id f G=>
    cases G with
    |none=>
     simp only[jO]at h;split at h
     .rename_i K w xs D
      rw[cond_eq_ite]at h;split at h
      .rename_i o
       have o:w=f:=by simpa using o
       subst o;split at h
       .rename_i x j i m
        cases h;have I:=iV i;cases I;rw[ik]at i;cases i;simp only[bT]at d;refine⟨id,w,e,x,D,rfl,fun c' z A B E=> ?_⟩;simp only[qK,bT];refine⟨?_,ae1 s z A (fun h=>by cases h) rs l j us m (by simpa [news] using g) d.2⟩;have q:=d.1;simp only[dn]at q ⊢;have J:=(q.2.2 _ _ _ D).2 rfl;simp only[jv]at J;refine⟨q.1,.inl ⟨.arr e 0 x,by rw[B];simp[fB]⟩,fun t L M h=> ?_⟩;simp_all [jv]
       .cases h
      .cases h
     .cases h
    |some p=>simp[jO]at h
   |_=>simp[jO]at h
  |_=>simp[jO]at h
theorem XC: ∀(rs:List (Ty×Bool)) y,news rs=0->AB rs y=a7
 |[],_,_=>rfl
 |(t,true)::rs,_,h=>by simp[news]at h
 |(t,false)::rs,y,h=>XC rs y.2 (by simpa [news] using h)
theorem ae2 (g:c.Ok W0) {rs:List (Ty×Bool)} {l:List di} {y} {us:List Value} (h:jO (!Nat.beq (news rs) 0) rs l c.hp=a6 y) (E:news rs<=1) (v:bT c l us):
  ∃c':Cx,c'.w=c.w/\c'.Ok W0/\c'.bar=c.bar/\c'.mks=[]/\c'.hp=Ji rs y/\bT c' (qK 0 rs y) us:=by
 by_cases q:news rs=0
 .let c':Cx:=⟨c.mu,[],c.nxt,c.w,[],c.bar⟩
  have s: ∀b,c.free b->c'.free b:=fun b f=>⟨f.1,(by rintro ⟨i,o,h,_⟩;simp[c',eG]at h),by simp[c'],f.2.2.2⟩;exact⟨c',rfl,⟨g.bel,fun id o h=>by simp[c',eG]at h,fun i j o p b h=>by simp[c',eG]at h,fun r u=>by simp[c']at u,fun b f=>⟨(g.bar b f).1,(by rintro ⟨i,o,h,_⟩;simp[c',eG]at h),by simp[c']⟩,g.phi⟩,rfl,rfl,by rw[Ji,XC rs y q],ae1 g (c':=c') rfl s (fun _ b d m=>⟨d,(by rintro ⟨i,o,h,_⟩;simp[c',eG]at h),by simp[c'],m⟩) rs l y us h q v⟩
 .have x:news rs=1:=by omega
  rw[show(!Nat.beq (news rs) 0)=true by rw[x];rfl]at h;obtain⟨id,G,e,z,k1,k2,k3⟩:=aph g rs l y us h x v
  let c':Cx:=⟨fun _=>c.mu id,[(0,.arr e 0 z)],c.nxt,c.w,[],c.bar⟩
  have s: ∀b,c.free b->c'.free b:=fun b f=>⟨f.1,(by
   rintro ⟨i,o,d,m⟩;simp only[c',fB]at d m;split at d
   .cases d;exact f.2.1 ⟨id,_,k1,m⟩
   .simp[eG]at d),by simp[c'],f.2.2.2⟩
  refine⟨c',rfl,⟨g.bel,fun i o h=> ?_,fun i j o p b d m _ _=> ?_,fun r u=>by simp[c']at u,fun b f=>⟨(g.bar b f).1,(by
   rintro ⟨i,o,d,m⟩;simp only[c',fB]at d m;split at d
   .cases d;exact(g.bar b f).2.1 ⟨id,_,k1,m⟩
   .simp[eG]at d),by simp[c']⟩,g.phi⟩,rfl,rfl,by rw[Ji,k2],k3 c' rfl s rfl rfl⟩
  .simp only[c',fB]at h;split at h
   .cases h;obtain⟨q,A,B,d,m,D⟩:=g.obj id _ k1;exact⟨q,A,B,d,gW.mono (fZ.mono (fun b f=>⟨s b f,rfl⟩) e) _ _ m,D⟩
   .simp[eG]at h
  grind [eG]
theorem DZ {E:Env} (j:fH E) {g:FuncId} {s:Sum} (l:news s.rs<=1) (h: ∀x y,s.f x=a6 y->TY E g s.ps s.rs x=a6 y) (w:World) (d:Nat->Prop) (e:Array Value) (x) (y) (m:Phi w) (o: ∀b,d b->b<w.heap.size)
  (p:sD (mW w d) s.ps x e.toList) (q:s.f x=a6 y):(callFunc g e).run E.P w=.ok (.enter g e) w/\Calls E.P g e w (D7 w d s.rs y):=by
 have i:=h x y q;unfold TY at i;refine Nv j 1000000 _ w g (IE s.ps x) _ _ y i 0 a7 (mW w d) ⟨#[],[]⟩ [] e (II m o) (RG _ _ _ p) (D7 w d s.rs y) fun L z u M k1 k2 k3 k4=> ?_;obtain⟨us,rfl,v⟩:=X4 (by rw[k1];rfl) k3;rw[<-k2.hp]at k1;obtain⟨A,B,D,G,I,J,K⟩:=ae2 k2.ok k1 l v;exact⟨A,us,rfl,B,D,G.trans k4.bar,I,J,K⟩
theorem MM {E:Env} (d:fH E) {g:FuncId} {s:Sum} (e:news s.rs<=1) (h: ∀x y,s.f x=a6 y->TY E g s.ps s.rs x=a6 y):dX E.P g s:=fun w i j x y l m o p=>.inl (DZ d e h w i j x y l m o p)
theorem agl {E:Env} (i:fH E) {g:FuncId} {d:List Ty} {x:(d.foldr Ty.pair Ty.unit).den} {t:Ty} {y:t.den} (q:t.rigid=true) (h:TY E g d [(t,false)] x=a6 (y,())) {w:World} {args:Array Value} (j:sD (mW w fun _=>False) d x args.toList) (l:Phi w:=by exact trivial):
  Calls E.P g args w fun e w'=>e=.returned (Nl t y)/\Below w.heap.size w w':=by
 obtain⟨_,m⟩:=DZ i (g:=g) (s:=⟨d,[(t,false)],fun o=>TY E g d [(t,false)] o⟩) (by simp[news]) (fun x y h=>h) w (fun _=>False) args x (y,()) l (fun b h=>h.elim) j h;refine m.mono ?_;rintro e w' ⟨v,us,rfl,rfl,p,_,_,_,f⟩;refine⟨?_,p.bel⟩;cases us with
 |nil=>simp[qK,bT]at f
 |cons u us=>
  cases us with
  |cons _ _=>simp[qK,bT]at f
  |nil=>
   simp_all [qK,bT,dn,TW,VD.rigid]
theorem F8 {E:Env} (M:fH E) {g:FuncId} {e e2:Ty} (W:0<e.size) (X:0<e2.size) {f:List e.den->Option (List e2.den)} (Y: ∀xs y,f xs=a6 y->mJ E 1000000 (.call g [.lst e xs false]) ⟨[],[],[],0⟩ (fun v st=>jO true [(.list e2,true)] (TV 1 v) st.hp)=a6 (y,()))
  (h2: ∀y,f []=a6 y->y=[]/\mJ E 1000000 (.call g [.lst e [] true]) ⟨[],[],[],0⟩ (fun v st=>match v,st.hp with|.nils,[]=>a6 ()|_,_=>a7)=a6 ()):
  dX E.P g ⟨[.list e],[(.list e2,true)],fun x=>match f x.1 with|some y=>a6 (y,())|none=>a7⟩:=fun w i A x y N O Z m=>.inl (by
 obtain⟨u,ab,hu,hx,ad⟩:=Z;obtain⟨a,n,zs,o,p,j,q⟩:=tZ hx;simp only at m;split at m
 .rename_i y' B
  cases m;have s:bT (mW w i) [.lst e x.1 a.isNone] A.toList:=by
   rw[hu,show ab=[] from ad];simp only[bT,dn,and_true];simp_all
  cases ha:a.isNone with
  |true=>
   have hz:zs=[]:=by
    simp_all
   have S:=gW.length _ _ j;rw[hz]at S;have U:x.1=[]:=by
    cases hxx:x.1 with
    |nil=>rfl
    |cons a l=>rw[hxx]at S;have:=Nat.mul_pos (show 0<(a::l).length by simp) W;simp_all
   rw[ha,U]at s;rw[U]at B;obtain⟨rfl,D⟩:=h2 _ B;refine Nv M 1000000 _ w g [.lst e [] true] _ _ _ D 0 a7 (mW w i) ⟨#[],[]⟩ [] A (II N O) s (D7 w i [(.list e2,true)] ([],())) fun c1 z u d k1 k2 k3 k4=> ?_;split at k1
   .rename_i ai ag
    simp only[dn]at k3;obtain⟨V,G,d2,d3⟩:=uh (W0:=w) k2.ok k2.hp k2.nxt (id:=d.nxt) (n':=d.nxt+1) (by rw[ag];rfl) (ae _) (by omega) X (xs:=[]) (Below.refl _ _) (if e2=.int .u8 then qI else 0) [] (World.ownsRow_nil _ _ _ _) (by simp[gW]) (v:=.slice a7 0 0) rfl (fun h=>by simp[h]);have ah:jO true [(.list e2,true)] [.slc d.nxt 0 a7] V.hp=a6 (([],()):List e2.den×Unit):=by
     rw[G.hp];simp only[jO,eG,beq_self_eq_true,Nat.beq_refl,aa,ik];rfl
    have I:bT V [.slc d.nxt 0 a7] [.slice a7 0 0]:=by simp_all [bT]
    obtain⟨J,o,p,j,q,K,L⟩:=ae2 (rs:=[(.list e2,true)]) G.ok ah (by simp[news]) I;exact⟨J,[.slice a7 0 0],by rw[k3];rfl,o.trans d2,p,j.trans (G.le.bar.trans k4.bar),q,K,L⟩
   .cases k1
  |false=>
   rw[ha]at s;have D:=Y _ _ B;refine Nv M 1000000 _ w g [.lst e x.1 false] _ _ _ D 0 a7 (mW w i) ⟨#[],[]⟩ [] A (II N O) s (D7 w i [(.list e2,true)] (y',())) fun c1 z u d k1 k2 k3 k4=> ?_;obtain⟨us,rfl,I⟩:=X4 (own:=true) (rs:=[(.list e2,true)]) (hp:=d.hp) (by grind) k3;rw[<-k2.hp]at k1;obtain⟨J,o,p,j,q,K,L⟩:=ae2 (rs:=[(.list e2,true)]) k2.ok k1 (by simp[news]) I;exact⟨J,us,rfl,o,p,j.trans k4.bar,q,K,L⟩
 .cases m)
def Zt:(rs:List Ty)->List di->iw->Option (rs.foldr Ty.pair Ty.unit).den
 |[],[],_=>a6 ()
 |t::rs,v::l,d=>match(bif true&&(nY v&& !t.rigid)then a7 else v.as d t),Zt rs l d with
  |some x,a6 y=>a6 (x,y)
  |_,_=>a7
 |_,_,_=>a7
def azG (E:Env) (g:FuncId) (d:TypeId) (cs:List (Ty×Bool)) (e rs:List Ty) (x:((cs.map (·.1)).foldr Ty.pair Ty.unit).den) (y:(e.foldr Ty.pair Ty.unit).den):Option (((cs.map (·.1)).foldr Ty.pair Ty.unit).den×(rs.foldr Ty.pair Ty.unit).den):=
 mJ E 1000000 (.call g (.ptr 0 0::Nr e y)) ⟨[.ptr 0 0],[],(0,.box d (JR cs (jy cs 1) x))::wH cs (jy cs 1) x,0⟩ fun v st=>match st.fr with
  |[.ptr 0 0]=>match eG st.hp 0 with
   |some (.box t cells)=>bif Nat.beq t d&&XF ((qp cs cells).map (·.1))then(match kF st.hp true cs cells with
    |some f=>match Zt rs (TV rs.length v) st.hp with
     |some h=>a6 (f,h)
     |none=>a7
    |none=>a7)else a7
   |_=>a7
  |_=>a7
theorem aaR: ∀(rs:List Ty) (l:List di) {hp:iw},(Zt rs l hp).isSome=true->(jO true (rs.map fun t=>(t,false)) l hp).isSome=true
 |[],[],_,_=>rfl
 |[],_::_,_,h=>by simp[Zt]at h
 |_::_,[],_,h=>by simp[Zt]at h
 |t::rs,v::l,hp,h=>by
  simp only[Zt]at h;split at h
  .rename_i x y d e
   have:=aaR rs l (hp:=hp) (by rw[e];rfl);change @Option.isSome ((((t,false)::rs.map fun t=>(t,false)).map (·.1)).foldr Ty.pair Ty.unit).den (jO true ((t,false)::rs.map fun t=>(t,false)) (v::l) hp)=true;rw[jO];rw[show di.asR hp true t v=v.as hp t from rfl,d];cases h3:jO true (rs.map fun t=>(t,false)) l hp with
   |none=>simp_all
   |some z=>rfl
  .cases h
theorem aij (e:c.Ok W0): ∀(rs:List Ty) (l:List di) (z) (us:List Value),Zt rs l c.hp=a6 z->bT c l us->sD c rs z us
 |[],[],z,[],_,_=>rfl
 |[],[],_,_::_,_,d=>by simp[bT]at d
 |[],_::_,_,_,h,_=>by simp[Zt]at h
 |_::_,[],_,_,h,_=>by simp[Zt]at h
 |t::rs,v::l,z,[],_,d=>by simp[bT]at d
 |t::rs,v::l,z,u::us,h,d=>by
  simp only[Zt]at h;split at h
  .rename_i x y f g
   cases h;simp only[bT]at d;exact⟨u,us,rfl,ae3 (own:=true) (c':=c) rfl (fun b h=>h) (fun h=>by cases h) e f d.1,aij e rs l y us g d.2⟩
  .cases h
theorem aiP {E:Env} (K:fH E) {g:FuncId} {s:gK} (h: ∀x y z,s.f x y=a6 z->azG E g s.bt s.cs s.ps s.rs x y=a6 z):eP E.P g s:=fun W0 c x y z L Z M o N d O=>by
 have p:=h x y z O;unfold azG at p;obtain⟨us⟩:=N;cases us with
 |nil=>simp[bT]at d
 |cons u0 us=>
 have q:=d;simp only[bT]at q;obtain⟨A,_⟩:=q;have e:je W0 0 a7 c ⟨[.ptr 0 0],[],(0,.box s.bt (JR s.cs (jy s.cs 1) x))::wH s.cs (jy s.cs 1) x,0⟩ ⟨#[u0],[]⟩ []:=
  ⟨o,M,L,by simp_all [bT],trivial,⟨[],rfl,List.nodup_nil,fun r e=>by simp at e⟩,fun l S=>by cases S⟩
 refine Nv K 1000000 _ W0 g (.ptr 0 0::Nr s.ps y) _ _ z p 0 a7 c ⟨#[u0],[]⟩ [] ⟨u0::us⟩ e d (aFI W0 c s z) fun U v u V k1 k2 k3 k4=> ?_;split at k1<;>try (cases k1;done)
 rename_i W
 split at k1<;>try (cases k1;done)
 rename_i t cells i
 replace k1:=dN k1;obtain⟨B,k1⟩:=k1;simp only[af]at B;obtain⟨j,X⟩:=B;have j:t=s.bt:=aj j;subst j;split at k1<;>try (cases k1;done)
 rename_i x' D
 split at k1<;>try (cases k1;done)
 rename_i Y G
 cases k1;obtain⟨I,rfl,J⟩:=X4 (own:=true) (rs:=s.rs.map fun t=>(t,false)) (hp:=V.hp) (by simp_all [aaR]) k3;rw[aP]at J;rw[<-k2.hp]at i D G;refine⟨U,I,cells,rfl,rfl,k2.ok,k4,i, ?_,G6 X,D,aij k2.ok s.rs _ Y I G J⟩;have m:=k2.fr;rw[W]at m;simp only[bT,dn,and_true]at m;simp only[dn]at A;have e1:=m.2.2 _ _ i;have e2:=A.2.2 _ _ (by rw[o];simp[fB];exact⟨rfl,rfl⟩);simp_all
end
end
section
open Go.RowKit
def aB5:Sum:=⟨[.str,.int .u8],[(.int .i64,false)],fun x=>some (Lib.indexByte x.1 x.2.1.toNat.toUInt8,())⟩
theorem age {w:World} {d:Nat->Prop} (e:Phi w) (hb: ∀b,d b->b<w.heap.size):(mW w d).Ok w:=(II e hb).ok
theorem aiQ {P:Program} {g:FuncId} {fn:Func} (hf:P.funcs[g]? =some fn) (e:(fn.name== "runtime.NumGoroutine")=false) (hb:fn.body.isNone=true) (f:Extern.findNext fn=none)
  (h:Extern.find fn=some Extern.BytealgIndexByte.indexByte):dX P g aB5:=by
 intro w i j x y l m o p;obtain⟨u,G,I,q,s,J,v,z,d⟩:=o;simp only[sD]at d;subst d v;have A:j= #[u,s]:=by
  grind
 subst A;have B:=q.str_inv;have D:=z.int_inv;subst B D;have E:=Option.some.inj p;subst E;refine .inr ⟨_,by rw[run_callFunc_extern hf e hb f h,Lib.run_indexByteString];rfl,mW w i,[_],rfl,rfl,age l m,rfl,rfl,rfl, ?_⟩;simp_all [aB5,qK,bT,dn,VD.int_mk]
end
section
open Option renaming some → a6, none → a7
open Bool renaming and_eq_true → af, false_eq_true → ag
open List renaming mem_cons_of_mem → au, mem_cons_self → aK
open Nat renaming eq_of_beq_eq_true → aj
open Go.RowKit
inductive FK where
 |u
 |v (t:Ty)
 |slc (id:Nat)
 |ptr (id off:Nat)
 |nils
 |slf (id:Nat)
 |yld (id:Nat)
 |nilp
 |e
 |fn (f:FuncId) (caps:List (Nat×Nat))
 |cp (t:Ty)
 |mpv (id:Nat)
 |mfn (f:FuncId) (fst:List (Nat×Nat))
 |kb (b:Bool)
def us (l:List FK) (n:Nat):List FK:=l++List.replicate n .u
def FKs.den:List FK->Ty
 |[]=>.unit
 |.v t::l=>.pair t (FKs.den l)
 |.u::l=>FKs.den l
 |.slc _::l=>FKs.den l
 |.ptr _ _::l=>FKs.den l
 |.nils::l=>FKs.den l
 |.slf _::l=>FKs.den l
 |.mpv _::l=>FKs.den l
 |.mfn _ _::l=>FKs.den l
 |.kb _::l=>FKs.den l
 |.yld _::l=>FKs.den l
 |.nilp::l=>FKs.den l
 |.e::l=>FKs.den l
 |.fn _ _::l=>FKs.den l
 |.cp t::l=>.pair t (FKs.den l)
def QV:List (Nat×Nat)->List di
 |[]=>[]
 |(i,o)::l=>.ptr i o::QV l
def YZ:(l:List FK)->(FKs.den l).den->List di
 |[],_=>[]
 |.v t::l,y=>.val t y.1::YZ l y.2
 |.u::l,y=>.undef::YZ l y
 |.slc id::l,y=>.slc id 0 a7::YZ l y
 |.ptr id d::l,y=>.ptr id d::YZ l y
 |.nils::l,y=>.nils::YZ l y
 |.slf id::l,y=>.slf id::YZ l y
 |.mpv id::l,y=>.mpv id::YZ l y
 |.mfn f c::l,y=>.mfn f (QV c)::YZ l y
 |.kb b::l,y=>.val .bool b::YZ l y
 |.yld id::l,y=>.yld id::YZ l y
 |.nilp::l,y=>.nilp::YZ l y
 |.e::l,y=>.tup []::YZ l y
 |.fn f g::l,y=>.fn f (QV g)::YZ l y
 |.cp t::l,y=>.cellp t y.1::YZ l y.2
def aqC (t:Ty):di->Option t.den
 |.val t' x=>kY t x
 |_=>a7
def aCE (t:Ty):di->Option t.den
 |.cellp t' x=>kY t x
 |_=>a7
def aDu (b:Bool):di->Bool
 |.val .bool c=>bif b then c else !c
 |_=>false
def isU:di->Bool
 |.undef=>true
 |_=>false
def isNils:di->Bool
 |.nils=>true
 |_=>false
def acw:di->Bool
 |.nilp=>true
 |_=>false
def isE:di->Bool
 |.tup l=>l.isEmpty
 |_=>false
def anx (id:Nat):di->Bool
 |.slf i=>Nat.beq i id
 |_=>false
def anw (id:Nat):di->Bool
 |.mpv i=>Nat.beq i id
 |_=>false
def anz (id:Nat):di->Bool
 |.yld i=>Nat.beq i id
 |_=>false
def ahn (id:Nat):di->Bool
 |.slc i v w=>Nat.beq i id&&(Nat.beq v 0&&(match w with|none=>true|some _=>false))
 |_=>false
def isPtr (id off:Nat):di->Bool
 |.ptr i o=>Nat.beq i id&&Nat.beq o off
 |_=>false
def Lt:List (Nat×Nat)->List di->Bool
 |[],[]=>true
 |(i,o)::c,v::l=>isPtr i o v&&Lt c l
 |_,_=>false
def axB (f:FuncId) (c:List (Nat×Nat)):di->Bool
 |.fn g l=>Nat.beq g f&&Lt c l
 |_=>false
def ahk (f:FuncId) (c:List (Nat×Nat)):di->Bool
 |.mfn g l=>Nat.beq g f&&Lt c l
 |_=>false
theorem amv {t:Ty} {v:di} {x:t.den} (h:aqC t v=a6 x):v=.val t x:=by
 cases v with
 |val t' z=>
  grind [aqC,iV,ik]
 |_=>simp[aqC]at h
theorem aqR {t:Ty} {v:di} {x:t.den} (h:aCE t v=a6 x):v=.cellp t x:=by
 cases v with
 |cellp t' z=>
  grind [aCE,iV,ik]
 |_=>simp[aCE]at h
theorem axC {v:di} (h:isU v=true):v=.undef:=by grind [isU]
theorem ahm {v:di} (h:isNils v=true):v=.nils:=by grind [isNils]
theorem GM: ∀{c:List (Nat×Nat)} {l:List di},Lt c l=true->l=QV c
 |[],[],_=>rfl
 |(i,o)::c,v::l,h=>by
  simp only[Lt,af]at h;have d:v=.ptr i o:=by
   have:=h.1;cases v<;>simp only[isPtr,ag]at this;simp_all
  rw[d,GM h.2];rfl
 |[],_::_,h=>by simp[Lt]at h
 |_::_,[],h=>by simp[Lt]at h
theorem ar7 {f:FuncId} {c:List (Nat×Nat)} {v:di} (h:axB f c v=true):v=.fn f (QV c):=by
 cases v with
 |fn g l=>
  simp only[axB,af]at h;rw[aj h.1,GM h.2]
 |_=>simp[axB]at h
theorem ar8 {b:Bool} {v:di} (h:aDu b v=true):v=.val .bool b:=by
 unfold aDu at h;split at h
 .rename_i c
  cases b<;>cases c<;>first|rfl|exact absurd h (by decide)
 .exact absurd h (by decide)
theorem akc {f:FuncId} {c:List (Nat×Nat)} {v:di} (h:ahk f c v=true):v=.mfn f (QV c):=by
 cases v with
 |mfn g l=>
  simp only[ahk,af]at h;rw[aj h.1,GM h.2]
 |_=>simp[ahk]at h
theorem ahl {v:di} (h:acw v=true):v=.nilp:=by grind [acw]
theorem axA {v:di} (h:isE v=true):v=.tup []:=by
 cases v with
 |tup l=>simp_all [isE]
 |_=>simp[isE]at h
theorem akg {id:Nat} {v:di} (h:anx id v=true):v=.slf id:=by
 cases v with
 |slf i=>rw[aj h]
 |_=>simp[anx]at h
theorem akd {id:Nat} {v:di} (h:anw id v=true):v=.mpv id:=by
 cases v with
 |mpv i=>rw[aj h]
 |_=>simp[anw]at h
theorem akh {id:Nat} {v:di} (h:anz id v=true):v=.yld id:=by
 cases v with
 |yld i=>rw[aj h]
 |_=>simp[anz]at h
theorem ake {id:Nat} {v:di} (h:ahn id v=true):v=.slc id 0 a7:=by
 cases v with
 |slc i k w=>
  simp only[ahn,af]at h;obtain rfl:i=id:=aj h.1;obtain rfl:k=0:=aj h.2.1
  grind
 |_=>simp[ahn]at h
theorem akf {id off:Nat} {v:di} (h:isPtr id off v=true):v=.ptr id off:=by
 cases v with
 |ptr i o=>
  simp_all [isPtr]
 |_=>simp[isPtr]at h
def lg:(l:List FK)->List di->Option (FKs.den l).den
 |[],d=>match d with
  |[]=>a6 ()
  |_=>a7
 |.v t::l,d=>match d with
  |v::d=>match aqC t v,lg l d with
   |some x,a6 y=>a6 (x,y)
   |_,_=>a7
  |[]=>a7
 |.u::l,d=>match d with
  |v::d=>bif isU v then lg l d else a7
  |[]=>a7
 |.slc id::l,d=>match d with
  |v::d=>bif ahn id v then lg l d else a7
  |[]=>a7
 |.ptr id g::l,d=>match d with
  |v::d=>bif isPtr id g v then lg l d else a7
  |[]=>a7
 |.nils::l,d=>match d with
  |v::d=>bif isNils v then lg l d else a7
  |[]=>a7
 |.nilp::l,d=>match d with
  |v::d=>bif acw v then lg l d else a7
  |[]=>a7
 |.e::l,d=>match d with
  |v::d=>bif isE v then lg l d else a7
  |[]=>a7
 |.fn f c::l,d=>match d with
  |v::d=>bif axB f c v then lg l d else a7
  |[]=>a7
 |.mfn f c::l,d=>match d with
  |v::d=>bif ahk f c v then lg l d else a7
  |[]=>a7
 |.kb b::l,d=>match d with
  |v::d=>bif aDu b v then lg l d else a7
  |[]=>a7
 |.slf id::l,d=>match d with
  |v::d=>bif anx id v then lg l d else a7
  |[]=>a7
 |.mpv id::l,d=>match d with
  |v::d=>bif anw id v then lg l d else a7
  |[]=>a7
 |.yld id::l,d=>match d with
  |v::d=>bif anz id v then lg l d else a7
  |[]=>a7
 |.cp t::l,d=>match d with
  |v::d=>match aCE t v,lg l d with
   |some x,a6 y=>a6 (x,y)
   |_,_=>a7
  |[]=>a7
theorem jb: ∀(l:List FK) (fr:List di) (y:(FKs.den l).den),lg l fr=a6 y->fr=YZ l y
 |[],fr,y,h=>by
  simp only[lg]at h;split at h
  .rfl
  .cases h
 |.v t::l,fr,y,h=>by
  simp only[lg]at h;split at h
  .split at h
   .rename_i x g i j
    cases h;rw[amv i,jb l _ g j];rfl
   .cases h
  .cases h
 |.u::l,fr,y,h=>by
  simp only[lg]at h;split at h
  .rename_i v fr
   obtain⟨d,h⟩:isU v=true/\lg l fr=a6 y:=dN h;rw[axC d,jb l fr y h];rfl
  .cases h
 |.slc id::l,fr,y,h=>by
  simp only[lg]at h;split at h
  .rename_i v fr
   obtain⟨d,h⟩:ahn id v=true/\lg l fr=a6 y:=dN h;rw[ake d,jb l fr y h];rfl
  .cases h
 |.ptr id m::l,fr,y,h=>by
  simp only[lg]at h;split at h
  .rename_i v fr
   obtain⟨d,h⟩:isPtr id m v=true/\lg l fr=a6 y:=dN h;rw[akf d,jb l fr y h];rfl
  .cases h
 |.nils::l,fr,y,h=>by
  simp only[lg]at h;split at h
  .rename_i v fr
   obtain⟨d,h⟩:isNils v=true/\lg l fr=a6 y:=dN h;rw[ahm d,jb l fr y h];rfl
  .cases h
 |.nilp::l,fr,y,h=>by
  simp only[lg]at h;split at h
  .rename_i v fr
   obtain⟨d,h⟩:acw v=true/\lg l fr=a6 y:=dN h;rw[ahl d,jb l fr y h];rfl
  .cases h
 |.e::l,fr,y,h=>by
  simp only[lg]at h;split at h
  .rename_i v fr
   obtain⟨d,h⟩:isE v=true/\lg l fr=a6 y:=dN h;rw[axA d,jb l fr y h];rfl
  .cases h
 |.fn f c::l,fr,y,h=>by
  simp only[lg]at h;split at h
  .rename_i v fr
   obtain⟨d,h⟩:axB f c v=true/\lg l fr=a6 y:=dN h;rw[ar7 d,jb l fr y h];rfl
  .cases h
 |.mfn f c::l,fr,y,h=>by
  simp only[lg]at h;split at h
  .rename_i v fr
   obtain⟨d,h⟩:ahk f c v=true/\lg l fr=a6 y:=dN h;rw[akc d,jb l fr y h];rfl
  .cases h
 |.kb b::l,fr,y,h=>by
  simp only[lg]at h;split at h
  .rename_i v fr
   obtain⟨d,h⟩:aDu b v=true/\lg l fr=a6 y:=dN h;rw[ar8 d,jb l fr y h];rfl
  .cases h
 |.slf id::l,fr,y,h=>by
  simp only[lg]at h;split at h
  .rename_i v fr
   obtain⟨d,h⟩:anx id v=true/\lg l fr=a6 y:=dN h;rw[akg d,jb l fr y h];rfl
  .cases h
 |.mpv id::l,fr,y,h=>by
  simp only[lg]at h;split at h
  .rename_i v fr
   obtain⟨d,h⟩:anw id v=true/\lg l fr=a6 y:=dN h;rw[akd d,jb l fr y h];rfl
  .cases h
 |.yld id::l,fr,y,h=>by
  simp only[lg]at h;split at h
  .rename_i v fr
   obtain⟨d,h⟩:anz id v=true/\lg l fr=a6 y:=dN h;rw[akh d,jb l fr y h];rfl
  .cases h
 |.cp t::l,fr,y,h=>by
  simp only[lg]at h;split at h
  .split at h
   .rename_i x g i j
    cases h;rw[aqR i,jb l _ g j];rfl
   .cases h
  .cases h
noncomputable def rfA (f:FuncId) (k:Nat):Code:=match uq f k with
 |some (a,_)=>a
 |none=>.skip
noncomputable def rfB (f:FuncId) (k:Nat):Code:=match uq f k with
 |some (_,b)=>b
 |none=>.skip
inductive HK where
 |arr (id:Nat) (e:Ty)
 |box (id:Nat) (t:TypeId) (cs:List FK)
 |mp (id:Nat) (kk vk:IntKind)
 |lp (id:Nat) (f:FuncId) (fr:List FK) (ps:List Nat) (key:Nat) (n:Nat) (p:Option Ex)
def HKs.den:List HK->Ty
 |[]=>.unit
 |.arr _ e::l=>.pair (.list e) (HKs.den l)
 |.mp _ kk d::l=>.pair (.list (.pair (.int kk) (.int d))) (HKs.den l)
 |.box _ _ cs::l=>.pair (FKs.den cs) (HKs.den l)
 |.lp _ _ fr _ _ _ _::l=>.pair (FKs.den fr) (HKs.den l)
noncomputable def mkH:(l:List HK)->(HKs.den l).den->iw
 |[],_=>[]
 |.arr id e::l,y=>(id,.arr e 0 y.1)::mkH l y.2
 |.mp id kk d::l,y=>(id,.mp kk d y.1)::mkH l y.2
 |.box id t cs::l,y=>(id,.box t (YZ cs y.1))::mkH l y.2
 |.lp id f fr ps key n p::l,y=>(id,.lp f (YZ fr y.1) ps (rfA f key) (rfB f key) (a6 key) n p)::mkH l y.2
def amy (e:Ty):eu->Option (List e.den)
 |.arr e' v d=>bif Nat.beq v 0 then kY (.list e) (t':=.list e') d else a7
 |_=>a7
def aEu (d e:IntKind):eu->Option (List (Int×Int))
 |.mp k v f=>bif decide (k=d)&&decide (v=e)then a6 f else a7
 |_=>a7
theorem asr {d e:IntKind} {o:eu} {x:List (Int×Int)} (h:aEu d e o=a6 x):o=.mp d e x:=by
 cases o with
 |mp k v f=>
  simp only[aEu]at h
  grind
 |_=>simp[aEu]at h
def amC (t:TypeId) (cs:List FK):eu->Option (FKs.den cs).den
 |.box t' l=>bif Nat.beq t' t then lg cs l else a7
 |_=>a7
def aIQ:Ex->Ex->Bool
 |.normal,.normal=>true
 |.exit i,.exit j=>Nat.beq i j
 |.goto i,.goto j=>Nat.beq i j
 |.ret,.ret=>true
 |_,_=>false
def azq:Option Ex->Option Ex->Bool
 |none,a7=>true
 |some a,a6 b=>aIQ a b
 |_,_=>false
def QK:List Nat->List Nat->Bool
 |[],[]=>true
 |a::l,b::m=>Nat.beq a b&&QK l m
 |_,_=>false
theorem arO {a b:Ex} (h:aIQ a b=true):a=b:=by
 cases a<;>cases b<;>simp only[aIQ,ag]at h<;>first|rfl|simp_all
theorem alW {a b:Option Ex} (h:azq a b=true):a=b:=by
 cases a<;>cases b<;>simp only[azq,ag]at h<;>first|rfl|rw[arO h]
theorem SS: ∀{l m:List Nat},QK l m=true->l=m
 |[],[],_=>rfl
 |a::l,b::m,h=>by
  simp only[QK,af]at h;rw[aj h.1,SS h.2]
 |[],_::_,h=>by simp[QK]at h
 |_::_,[],h=>by simp[QK]at h
def ayr (f:FuncId) (fr:List FK) (d:List Nat) (key n:Nat) (p:Option Ex):eu->Option (FKs.den fr).den
 |.lp f' fr' ps' _ _ (a6 e) n' g=>bif Nat.beq f' f&&(QK ps' d&&(Nat.beq e key&&(Nat.beq n' n&&azq g p)))then lg fr fr' else a7
 |_=>a7
theorem ajb {e:Ty} {o:eu} {x:List e.den} (h:amy e o=a6 x):o=.arr e 0 x:=by
 cases o with
 |arr e' v f=>
  simp only[amy]at h;rw[cond_eq_ite]at h;split at h
  .rename_i d
   obtain rfl:v=0:=aj d
   grind [iV,ik]
  .cases h
 |_=>simp[amy]at h
theorem aji {t:TypeId} {cs:List FK} {o:eu} {x:(FKs.den cs).den} (h:amC t cs o=a6 x):o=.box t (YZ cs x):=by
 cases o with
 |box t' l=>
  simp only[amC]at h;obtain⟨d,h⟩:=dN h;rw[jb cs l x h,aj d]
 |_=>simp[amC]at h
theorem asn {f:FuncId} {fr:List FK} {m:List Nat} {key n:Nat} {p:Option Ex} {o:eu} {x:(FKs.den fr).den} (u:WfO o) (h:ayr f fr m key n p o=a6 x):o=.lp f (YZ fr x) m (rfA f key) (rfB f key) (a6 key) n p:=by
 cases o with
 |lp f' fr' ps' jr bd ky n' v=>
  cases ky with
  |none=>simp[ayr]at h
  |some d=>
   simp only[ayr]at h;replace h:=dN h;obtain⟨q,h⟩:=h;simp only[af]at q;obtain⟨e,g,i,j,l⟩:=q;have e:=aj e;have g:=SS g;have i:=aj i;have j:=aj j;have l:=alW l;subst e g i j l;have s:uq f' d=a6 (jr,bd):=u;have y:rfA f' d=jr:=by unfold rfA;rw[s]
   have z:rfB f' d=bd:=by unfold rfB;rw[s]
   grind [jb]
 |_=>simp[ayr]at h
def TQ:(l:List HK)->iw->Option (HKs.den l).den
 |[],d=>match d with
  |[]=>a6 ()
  |_=>a7
 |.arr id e::l,d=>match d with
  |(j,o)::d=>bif Nat.beq j id then(match amy e o,TQ l d with
   |some x,a6 y=>a6 (x,y)
   |_,_=>a7)else a7
  |[]=>a7
 |.mp id kk g::l,d=>match d with
  |(j,o)::d=>bif Nat.beq j id then(match aEu kk g o,TQ l d with
   |some x,a6 y=>a6 (x,y)
   |_,_=>a7)else a7
  |[]=>a7
 |.box id t cs::l,d=>match d with
  |(j,o)::d=>bif Nat.beq j id then(match amC t cs o,TQ l d with
   |some x,a6 y=>a6 (x,y)
   |_,_=>a7)else a7
  |[]=>a7
 |.lp id f fr ps key n p::l,d=>match d with
  |(j,o)::d=>bif Nat.beq j id then(match ayr f fr ps key n p o,TQ l d with
   |some x,a6 y=>a6 (x,y)
   |_,_=>a7)else a7
  |[]=>a7
theorem yE: ∀(l:List HK) (hp:iw) (y:(HKs.den l).den),(∀e∈hp,WfO e.2)->TQ l hp=a6 y->hp=mkH l y
 |[],hp,y,_,h=>by
  simp only[TQ]at h;split at h
  .rfl
  .cases h
 |.arr id e::l,hp,y,d,h=>by
  simp only[TQ]at h;split at h
  .rw[cond_eq_ite]at h;split at h
   .rename_i g
    split at h
    .rename_i x i j m
     cases h;rw[ajb j,yE l _ i (fun e o=>d e (au _ o)) m,aj g];rfl
    .cases h
   .cases h
  .cases h
 |.mp id kk s::l,hp,y,d,h=>by
  simp only[TQ]at h;split at h
  .rw[cond_eq_ite]at h;split at h
   .rename_i g
    split at h
    .rename_i x i j m
     cases h;rw[asr j,yE l _ i (fun e o=>d e (au _ o)) m,aj g];rfl
    .cases h
   .cases h
  .cases h
 |.box id t cs::l,hp,y,d,h=>by
  simp only[TQ]at h;split at h
  .rw[cond_eq_ite]at h;split at h
   .rename_i g
    split at h
    .rename_i x i j m
     cases h;rw[aji j,yE l _ i (fun e o=>d e (au _ o)) m,aj g];rfl
    .cases h
   .cases h
  .cases h
 |.lp id f fr ps key n p::l,hp,y,d,h=>by
  simp only[TQ]at h;split at h
  .rw[cond_eq_ite]at h;split at h
   .rename_i g
    split at h
    .rename_i x i j m
     cases h;have q:=d _ aK;dsimp only at q;rw[asn q j,yE l _ i (fun e o=>d e (au _ o)) m,aj g];rfl
    .cases h
   .cases h
  .cases h
structure SP where
 fr:List FK
 hp:List HK
def SP.den (p:SP):Type:=(FKs.den p.fr).den×(HKs.den p.hp).den
noncomputable def jf (p:SP) (y:p.den):St:=⟨YZ p.fr y.1,[[]],mkH p.hp y.2,0⟩
def axu (p:SP) (st:St):Option p.den:=
 match st.stk,st.nxt with
 |[[]],0=>match lg p.fr st.fr,TQ p.hp st.hp with
  |some x,a6 y=>bif vP st.hp then a6 (x,y)else a7
  |_,_=>a7
 |_,_=>a7
theorem WN {p:SP} {st:St} {y:p.den} (d:WfH st.hp) (h:axu p st=a6 y):st=jf p y:=by
 obtain⟨l,m,hp,o⟩:=st;unfold axu at h;split at h
 .rename_i e f
  subst e f;split at h
  .rename_i x q g i
   replace h:=dN h;obtain⟨j,h⟩:=h;cases h;have s:=jb _ _ _ g;have u:=yE _ _ _ (Ry _ j d) i;simp_all [jf]
  .cases h
 .cases h
def qR {R:Type} (E:Env) (d:Nat) (f:FuncId) (c:Code):St->(Ex->St->Option R)->Option R:=run (E.at d) (mJ E d) (ZZ E d) f c
noncomputable def fK (k:eY) (l d e:SP) (g:Ex) (h:l.den->Option (d.den⊕e.den)) (f:Nat:=0) (i:Ex:=.ret):dG:={
 V:=l.den
 A:=fun _=>d.den
 B:=fun _=>e.den
 get:=fun st=>match PQ k.slots k.owns st with
  |some st=>axu l st
  |none=>a7
 spec:=h
 exA:=fun _=>g
 stA:=fun _ _ a=>jf d a
 stB:=fun _ _ b=>jf e b
 dep:=f
 exB:=fun _=>i}
theorem asj {E:Env} {f:FuncId} {c:Code} {k:eY} {l i j:SP} {s:Ex} {p:l.den->Option (i.den⊕j.den)} {u:Nat} {x:Ex} (hk:E.kp f (dM c)=a6 k)
  (h: ∀(R:Type) (d:Nat) (K:Ex->St->Option R) (v:l.den) o,p v=a6 o->
   ∃m,iter (a6 k) (qR E (d+u) f c) m (jf l v) K=dO o (fun a=>K s (jf i a)) fun b=>K x (jf j b)):dY E f c (fK k l i j s p u x):=by
 intro R d r st v K A q g;simp only[fK]at q;split at q
 .rename_i D y
  have e:=WN (A _ _ _ y) q;subst e;simp only[fK]at g;cases ho:p v with
  |none=>rw[ho]at g;cases g
  |some o=>
   rw[ho]at g;obtain⟨m,B⟩:=h R d K v o ho;have z:(E.at (d+(fK k l i j s p u x).dep)).kp f (dM c)=a6 k:=hk;refine⟨m,jf l v,by rw[z];exact y, ?_⟩;rw[z];exact B.trans g
 .cases q
theorem wL {E:Env} {f:FuncId} {c:Code} {k:eY} {l i j:SP} {s:Ex} {p:l.den->Option (i.den⊕j.den)} {u:Nat} {x:Ex} (hk:E.kp f (800000+dM c)=a6 k)
  (h: ∀(R:Type) (d:Nat) (K:Ex->St->Option R) (v:l.den) o,p v=a6 o->
   ∃m,iter (a6 k) (tH (qR E (d+u) f c)) m (jf l v) K=dO o (fun a=>K s (jf i a)) fun b=>K x (jf j b)):qF E f c (fK k l i j s p u x):=by
 intro R d r st v K A q g;simp only[fK]at q;split at q
 .rename_i D y
  have e:=WN (A _ _ _ y) q;subst e;simp only[fK]at g;cases ho:p v with
  |none=>rw[ho]at g;cases g
  |some o=>
   rw[ho]at g;obtain⟨m,B⟩:=h R d K v o ho;have z:(E.at (d+(fK k l i j s p u x).dep)).kp f (800000+dM c)=a6 k:=hk;refine⟨m,jf l v,by rw[z];exact y, ?_⟩;rw[z];exact B.trans g
 .cases q
def FKss.den:List (List FK)->Type
 |[]=>Unit
 |l::d=>(FKs.den l).den×FKss.den d
def mkK:(l:List (List FK))->FKss.den l->List (List di)
 |[],_=>[]
 |l::d,y=>YZ l y.1::mkK d y.2
def axt:(l:List (List FK))->List (List di)->Option (FKss.den l)
 |[],st=>match st with
  |[]=>a6 ()
  |_=>a7
 |l::d,st=>match st with
  |e::st=>match lg l e,axt d st with
   |some x,a6 y=>a6 (x,y)
   |_,_=>a7
  |[]=>a7
theorem aai: ∀(l:List (List FK)) (st:List (List di)) (y:FKss.den l),axt l st=a6 y->st=mkK l y
 |[],st,y,h=>by
  simp only[axt]at h;split at h
  .rfl
  .cases h
 |l::d,st,y,h=>by
  simp only[axt]at h;split at h
  .split at h
   .rename_i x e f g
    cases h;rw[jb _ _ _ f,aai d _ e g];rfl
   .cases h
  .cases h
structure SQ where
 fr:List FK
 stk:List (List FK)
 hp:List HK
def SQ.den (p:SQ):Type:=(FKs.den p.fr).den×(FKss.den p.stk×(HKs.den p.hp).den)
noncomputable def jM (p:SQ) (y:p.den):St:=⟨YZ p.fr y.1,mkK p.stk y.2.1,mkH p.hp y.2.2,0⟩
def akb (p:SQ) (st:St):Option p.den:=
 match st.nxt with
 |0=>match lg p.fr st.fr,axt p.stk st.stk,TQ p.hp st.hp with
  |some x,a6 k,a6 y=>bif vP st.hp then a6 (x,k,y)else a7
  |_,_,_=>a7
 |_=>a7
theorem RV {p:SQ} {st:St} {y:p.den} (d:WfH st.hp) (h:akb p st=a6 y):st=jM p y:=by
 obtain⟨j,l,hp,m⟩:=st;unfold akb at h;split at h
 .rename_i e
  subst e;split at h
  .rename_i x k o f hk g
   replace h:=dN h;obtain⟨i,h⟩:=h;cases h;have q:=jb _ _ _ f;have s:=yE _ _ _ (Ry _ i d) g
   grind [aai,jM]
  .cases h
 .cases h
noncomputable def fQ (k:eY) (l d e:SQ) (g:Ex) (h:l.den->Option (d.den⊕e.den)) (f:Nat:=0) (i:Ex:=.ret):dG:={
 V:=l.den
 A:=fun _=>d.den
 B:=fun _=>e.den
 get:=fun st=>match PQ k.slots k.owns st with
  |some st=>akb l st
  |none=>a7
 spec:=h
 exA:=fun _=>g
 stA:=fun _ _ a=>jM d a
 stB:=fun _ _ b=>jM e b
 dep:=f
 exB:=fun _=>i}
theorem akv {E:Env} {f:FuncId} {c:Code} {k:eY} {l i j:SQ} {s:Ex} {p:l.den->Option (i.den⊕j.den)} {u:Nat} {x:Ex} (hk:E.kp f (dM c)=a6 k)
  (h: ∀(R:Type) (d:Nat) (K:Ex->St->Option R) (v:l.den) o,p v=a6 o->
   ∃m,iter (a6 k) (qR E (d+u) f c) m (jM l v) K=dO o (fun a=>K s (jM i a)) fun b=>K x (jM j b)):dY E f c (fQ k l i j s p u x):=by
 intro R d r st v K A q g;simp only[fQ]at q;split at q
 .rename_i D y
  have e:=RV (A _ _ _ y) q;subst e;simp only[fQ]at g;cases ho:p v with
  |none=>rw[ho]at g;cases g
  |some o=>
   rw[ho]at g;obtain⟨m,B⟩:=h R d K v o ho;have z:(E.at (d+(fQ k l i j s p u x).dep)).kp f (dM c)=a6 k:=hk;refine⟨m,jM l v,by rw[z];exact y, ?_⟩;rw[z];exact B.trans g
 .cases q
theorem PZ {E:Env} {f:FuncId} {c:Code} {k:eY} {l i j:SQ} {s:Ex} {p:l.den->Option (i.den⊕j.den)} {u:Nat} {x:Ex} (hk:E.kp f (800000+dM c)=a6 k)
  (h: ∀(R:Type) (d:Nat) (K:Ex->St->Option R) (v:l.den) o,p v=a6 o->
   ∃m,iter (a6 k) (tH (qR E (d+u) f c)) m (jM l v) K=dO o (fun a=>K s (jM i a)) fun b=>K x (jM j b)):qF E f c (fQ k l i j s p u x):=by
 intro R d r st v K A q g;simp only[fQ]at q;split at q
 .rename_i D y
  have e:=RV (A _ _ _ y) q;subst e;simp only[fQ]at g;cases ho:p v with
  |none=>rw[ho]at g;cases g
  |some o=>
   rw[ho]at g;obtain⟨m,B⟩:=h R d K v o ho;have z:(E.at (d+(fQ k l i j s p u x).dep)).kp f (800000+dM c)=a6 k:=hk;refine⟨m,jM l v,by rw[z];exact y, ?_⟩;rw[z];exact B.trans g
 .cases q
def kL (L M:dG):dG:={
 V:=L.V⊕M.V
 A:=fun v=>match v with|.inl v=>L.A v|.inr v=>M.A v
 B:=fun v=>match v with|.inl v=>L.B v|.inr v=>M.B v
 get:=fun st=>match L.get st with
  |some v=>a6 (.inl v)
  |none=>match M.get st with
   |some v=>a6 (.inr v)
   |none=>a7
 spec:=fun v=>match v with|.inl v=>L.spec v|.inr v=>M.spec v
 exA:=fun v=>match v with|.inl v=>L.exA v|.inr v=>M.exA v
 stA:=fun st v=>match v with|.inl v=>L.stA st v|.inr v=>M.stA st v
 stB:=fun st v=>match v with|.inl v=>L.stB st v|.inr v=>M.stB st v
 dep:=L.dep+M.dep
 exB:=fun v=>match v with|.inl v=>L.exB v|.inr v=>M.exB v}
theorem uS {E:Env} {f:FuncId} {c:Code} {L M:dG} (l:dY E f c L) (h2:dY E f c M):dY E f c (kL L M):=fun R m r st v K i d j=>by
 simp only[kL]at d;split at d
 .rename_i g h
  cases d;have e:m+(kL L M).dep=(m+M.dep)+L.dep:=by show m+(L.dep+M.dep)=_;omega
  rw[e];exact l R _ r st g K i h j
 .split at d
  .rename_i g h
   cases d;have e:m+(kL L M).dep=(m+L.dep)+M.dep:=by show m+(L.dep+M.dep)=_;omega
   rw[e];exact h2 R _ r st g K i h j
  .cases d
theorem au8 {E:Env} {f:FuncId} {c:Code} {L M:dG} (l:qF E f c L) (h2:qF E f c M):qF E f c (kL L M):=fun R m r st v K i d j=>by
 simp only[kL]at d;split at d
 .rename_i g h
  cases d;have e:m+(kL L M).dep=(m+M.dep)+L.dep:=by show m+(L.dep+M.dep)=_;omega
  rw[e];exact l R _ r st g K i h j
 .split at d
  .rename_i g h
   cases d;have e:m+(kL L M).dep=(m+L.dep)+M.dep:=by show m+(L.dep+M.dep)=_;omega
   rw[e];exact h2 R _ r st g K i h j
  .cases d
end
section
open Option renaming some → a6, none → a7
open List renaming mem_cons_of_mem → au, mem_cons_self → aK
open Nat renaming eq_of_beq_eq_true → aj
open Go.RowKit
def aAl:List (FuncId×Sum)->FuncId->Option Sum
 |[],_=>a7
 |e::l,g=>bif Nat.beq g e.1 then a6 e.2 else aAl l g
theorem afa {P:Program}: ∀(l:List (FuncId×Sum)),(∀e∈l,dX P e.1 e.2)-> ∀g s,aAl l g=a6 s->dX P g s
 |[],_,g,s,h=>by cases h
 |e::l,d,g,s,h=>by
  simp only[aAl]at h;rw[cond_eq_ite]at h;split at h
  .simp_all
  .exact afa l (fun e f=>d e (au _ f)) g s h
def aPu (f:FuncId) (l:List (Nat×eY)) (g:FuncId) (id:Nat):Option eY:=cond (Nat.beq g f) ((l.find? fun e=>Nat.beq id e.1).map (·.2)) a7
def aJR (f:FuncId) (l:List (Nat×dG)) (g:FuncId) (id:Nat):Option dG:=
 bif Nat.beq g f then(match l.find? fun e=>Nat.beq id e.1 with|some e=>a6 e.2|none=>a7)else a7
theorem akA {f g:FuncId} (l:List (Nat×dG)) (h:g≠f) (id:Nat):aJR f l g id=a7:=by
 grind [aj,aJR]
def aMH:FuncId:=115
def NY (g:FuncId):Bool:=Nat.beq g aMH&& !Nat.beq aMH 1000000
def aAi:List (FuncId×gK)->FuncId->Option gK
 |[],_=>a7
 |e::l,g=>bif Nat.beq g e.1 then a6 e.2 else aAi l g
theorem ae8 {P:Program}: ∀(l:List (FuncId×gK)),(∀e∈l,eP P e.1 e.2)-> ∀g s,aAi l g=a6 s->eP P g s
 |[],_,g,s,h=>by cases h
 |e::l,d,g,s,h=>by
  simp only[aAi]at h;cases hb:Nat.beq g e.1 with
  |true=>
   simp_all
  |false=>
   rw[hb]at h;exact ae8 l (fun e f=>d e (au _ f)) g s h
def iW (P:Program) (T:TT) (f:FuncId) (sg:List (FuncId×Sum)) (kp:List (Nat×eY)) (lp:List (Nat×dG)) (sb:List (FuncId×gK):=[]):Env:=
 {P:=P,T:=T,cl:=false,kp:=aPu f kp,sg:=aAl sg,lp:=aJR f lp,bf:=NY,sb:=aAi sb}
theorem awr {P:Program} {T:TT} (hT:TOk P T) (h:P.follows .mixedOrders=true) (i:MX P) {f:FuncId} {sg:List (FuncId×Sum)} {kp:List (Nat×eY)} {lp:List (Nat×dG)} {sb:List (FuncId×gK)}
  (j: ∀e∈sg,dX P e.1 e.2) {fn:Func} {c:Code} (hf:P.funcs[f]? =a6 fn) (hb:fn.body=a6 c) (hl:dR (iW P T f sg kp lp sb) f c) (l: ∀E,vJ P E->ai8 E) (m: ∀g,NY g=true->D6 P g) (hx: ∀e∈sb,eP P e.1 e.2:=by simp):fH (iW P T f sg kp lp sb):=by
 have d:vJ P (iW P T f sg kp lp sb):= ?_;exact⟨hT,h,i,afa sg j,d,l _ d,m,ae8 sb hx⟩;intro g p o q s;by_cases e:g=f
 .simp_all
 .exact jT (fun id=>akA lp e id) (fun _=>rfl) o
def aM3 (l:List (FuncId×Nat×eY)) (g:FuncId) (id:Nat):Option eY:=match l.find? fun e=>Nat.beq g e.1&&Nat.beq id e.2.1 with
 |some e=>a6 e.2.2
 |none=>a7
def anP:List (FuncId×Nat×dG)->FuncId->Nat->Option dG
 |[],_,_=>a7
 |e::l,g,id=>bif Nat.beq g e.1&&Nat.beq id e.2.1 then a6 e.2.2 else anP l g id
theorem Xn: ∀(l:List (FuncId×Nat×dG)) (g:FuncId),(∀e∈l,e.1≠g)-> ∀id,anP l g id=a7
 |[],g,_,id=>rfl
 |e::l,g,h,id=>by
  have d:Nat.beq g e.1=false:=by
   grind [aj]
  simp only[anP,d,Bool.false_and,ac];exact Xn l g (fun e f=>h e (au _ f)) id
def gZ (P:Program) (T:TT) (sg:List (FuncId×Sum)) (kp:List (FuncId×Nat×eY)) (lp:List (FuncId×Nat×dG)) (rf:List FuncId) (sb:List (FuncId×gK):=[]):Env:=
 {P:=P,T:=T,cl:=false,kp:=aM3 kp,sg:=aAl sg,lp:=anP lp,rf:=fun g _=>rf.any fun x=>Nat.beq g x,bf:=NY,sb:=aAi sb}
theorem arK {P:Program} {T:TT} (hT:TOk P T) (h:P.follows .mixedOrders=true) (i:MX P) {sg:List (FuncId×Sum)} {kp:List (FuncId×Nat×eY)} {lp:List (FuncId×Nat×dG)}
  {rf:List FuncId} {sb:List (FuncId×gK)} (j: ∀e∈sg,dX P e.1 e.2) (d:List FuncId) (p:(lp.all fun e=>d.any fun g=>Nat.beq e.1 g)=true) (q:(rf.all fun e=>d.any fun g=>Nat.beq e g)=true) (hl: ∀g∈d,∃fn c,P.funcs[g]? =a6 fn/\fn.body=a6 c/\dR (gZ P T sg kp lp rf sb) g c)
  (l: ∀E,vJ P E->ai8 E) (m: ∀g,NY g=true->D6 P g) (hx: ∀e∈sb,eP P e.1 e.2:=by simp):fH (gZ P T sg kp lp rf sb):=by
 have f:vJ P (gZ P T sg kp lp rf sb):= ?_;exact⟨hT,h,i,afa sg j,f,l _ f,m,ae8 sb hx⟩;intro g s o u v;by_cases e:g∈d
 .grind
 .refine jT (fun id=>Xn lp g (fun x hx y=>e ?_) id) (fun _=> ?_) o
  .grind [aj]
  .cases hr:rf.any fun x=>Nat.beq g x with
   |false=>exact hr
   |true=>
    simp_all
def cu {d:Type} (a b:List d):List d:=a++b
def dL (i:Int):Nat:=i.toNat
def dU {e:Type} (l:List e) (d:e) (i:Nat):e:=l.getD i d
def takeN {d:Type} (l:List d) (n:Nat):List d:=l.take n
def gG (a b:List UInt8):Bool:=decide (a.length+b.length<=mD)
def pW {d:Type} (i:Nat) (l:List d):Bool:=TS i l.length
def jP (a b:Bool):Bool:=a==b
def oV (t:Ty) (x y:List t.den):Bool:=yY (eqD t) x y
def ibW (s:List UInt8) (c:Int):Int:=Lib.indexByte s c.toNat.toUInt8
def cA:Code->Code
 |.seq a _=>a
 |.block _ c=>c
 |.loop c=>c
 |.scope c=>c
 |.cond _ a _=>a
 |.rangeFunc _ _ a _=>a
 |c=>c
def cB:Code->Code
 |.seq _ b=>b
 |.cond _ _ b=>b
 |.rangeFunc _ _ _ b=>b
 |c=>c
def jk:Code->List Code
 |.seq a b=>jk a++jk b
 |.cond _ a b=>jk a++jk b
 |.block _ c=>jk c
 |.scope c=>jk c
 |.loop c=>jk c++[c]
 |.rangeFunc _ _ a b=>jk a++jk b
 |_=>[]
def jY:Code->List (Code×Code)
 |.seq a b=>jY a++jY b
 |.cond _ a b=>jY a++jY b
 |.block _ c=>jY c
 |.scope c=>jY c
 |.loop c=>jY c
 |.rangeFunc _ _ a b=>(a,b)::(jY a++jY b)
 |_=>[]
def rJ:Code->List Code
 |.seq a b=>rJ a++(b::rJ b)
 |.cond _ a b=>rJ a++rJ b
 |.block _ c=>rJ c
 |.scope c=>rJ c
 |.loop c=>rJ c
 |.rangeFunc _ _ a b=>rJ a++rJ b
 |_=>[]
def acS (E:Env) (f:FuncId) (c:Code):Bool:=(rJ c).all fun d=>(E.lp f (800000+dM d)).isNone
theorem kP {R:Type} {E:Env} {x:oH R} {e:abu} {f:FuncId}: ∀c:Code,(∀x∈jY c,E.rf f (dM x.2)=true->uq f (dM x.2)=a6 x)->(∀d∈jk c,∀L,E.lp f (dM d)=a6 L->L.dep.ble E.dp=true->abt E x e f d L)->
  (∀d∈rJ c,∀L,E.lp f (800000+dM d)=a6 L->L.dep.ble E.dp=true->ai4 E x e f d L)->jL E x e f c
 |.seq a b,g,h,k=>⟨⟨kP a (fun d hd=>g d (List.mem_append.2 (.inl hd))) (fun d hd=>h d (List.mem_append.2 (.inl hd))) fun d hd=>k d (List.mem_append.2 (.inl hd)),k b (List.mem_append.2 (.inr aK))⟩,
   kP b (fun d hd=>g d (List.mem_append.2 (.inr hd))) (fun d hd=>h d (List.mem_append.2 (.inr hd))) fun d hd=>k d (List.mem_append.2 (.inr (au _ hd)))⟩
 |.cond _ a b,g,h,k=>⟨kP a (fun d hd=>g d (List.mem_append.2 (.inl hd))) (fun d hd=>h d (List.mem_append.2 (.inl hd))) fun d hd=>k d (List.mem_append.2 (.inl hd)),kP b (fun d hd=>g d (List.mem_append.2 (.inr hd))) (fun d hd=>h d (List.mem_append.2 (.inr hd))) fun d hd=>k d (List.mem_append.2 (.inr hd))⟩
 |.block _ c,g,h,k=>kP (E:=E) c g h k
 |.scope c,g,h,k=>kP (E:=E) c g h k
 |.loop c,g,h,k=>⟨kP c g (fun d hd=>h d (List.mem_append.2 (.inl hd))) k,h c (List.mem_append.2 (.inr (List.mem_singleton.2 rfl)))⟩
 |.rangeFunc _ _ a b,g,h,k=>⟨kP a (fun d hd=>g d (au _ (List.mem_append.2 (.inl hd)))) (fun d hd=>h d (List.mem_append.2 (.inl hd))) fun d hd=>k d (List.mem_append.2 (.inl hd)),
   kP b (fun d hd=>g d (au _ (List.mem_append.2 (.inr hd)))) (fun d hd=>h d (List.mem_append.2 (.inr hd))) fun d hd=>k d (List.mem_append.2 (.inr hd)),g (a,b) aK⟩
 |.skip,_,_,_|.label _,_,_,_|.region _ _ _,_,_,_|.exit _,_,_,_|.goto _,_,_,_|.ret,_,_,_|.refuse _,_,_,_=>trivial
theorem pz {E:Env} {f:FuncId} (c:Code) (g: ∀x∈jY c,E.rf f (dM x.2)=true->uq f (dM x.2)=a6 x) (h: ∀d∈jk c,∀L,E.lp f (dM d)=a6 L->dY E f d L)
  (k: ∀d∈rJ c,∀L,E.lp f (800000+dM d)=a6 L->qF E f d L):dR E f c:=fun R m=>
 kP (E:=E.at m) c g (fun d hd L i j=>by
  have e:=h d hd L i R (m-L.dep);rw[show m-L.dep+L.dep=m from Nat.sub_add_cancel (Nat.le_of_ble_eq_true (m:=m) j)]at e;exact e) fun d hd L i j=>by
  have e:=k d hd L i R (m-L.dep);rw[show m-L.dep+L.dep=m from Nat.sub_add_cancel (Nat.le_of_ble_eq_true (m:=m) j)]at e;exact e
theorem asu {E:Env} {f:FuncId} {c:Code} (h:acS E f c=true): ∀d∈rJ c,∀L,E.lp f (800000+dM d)=a6 L->qF E f d L:=fun d hd L e=>by
 have:=List.all_eq_true.1 h d hd;simp_all
def uP (E:Env) (f:FuncId) (c:Code):List Code:=(rJ c).filter fun d=>(E.lp f (800000+dM d)).isSome
theorem qj {E:Env} {f:FuncId} {c:Code} (h: ∀d∈uP E f c,∀L,E.lp f (800000+dM d)=a6 L->qF E f d L): ∀d∈rJ c,∀L,E.lp f (800000+dM d)=a6 L->qF E f d L:=fun d hd L e=>
 h d (List.mem_filter.2 ⟨hd,by rw[e];rfl⟩) L e
theorem sG {E:Env} {f:FuncId} (c:Code) (g: ∀x∈jY c,E.rf f (dM x.2)=true->uq f (dM x.2)=a6 x) (h: ∀d∈jk c,∀L,E.lp f (dM d)=a6 L->dY E f d L) (k:acS E f c=true:=by kernel_rfl):dR E f c:=
 pz c g h (asu k)
theorem akw {E:Env} {f:FuncId} (c:Code) (e: ∀id,E.rf f id=false) (h: ∀d∈jk c,∀L,E.lp f (dM d)=a6 L->dY E f d L) (k:acS E f c=true:=by kernel_rfl):dR E f c:=
 sG c (fun x _ g=>by simp_all) h k
theorem dw {d e:Type} (b:Bool) (x y:Option d) (k:d->Option e):bK (bif b then x else y) k=bif b then bK x k else bK y k:=by cases b<;>rfl
theorem dA {d e:Type} (k:d->Option e):bK a7 k=a7:=rfl
theorem bJ {d e:Type} (x:d) (k:d->Option e):bK (a6 x) k=k x:=rfl
theorem dh {d e f:Type} (x:Option d) (k:d->Option e) (l:e->Option f):bK (bK x k) l=bK x fun a=>bK (k a) l:=by cases x<;>rfl
theorem azo {d h e:Type} (a:d) (f:d->e) (g:h->e):dO (.inl a) f g=f a:=rfl
theorem dB {e h d i:Type} (o:e⊕h) (f:e->Option d) (g:h->Option d) (k:d->Option i):bK (dO o f g) k=dO o (fun a=>bK (f a) k) fun b=>bK (g b) k:=by cases o<;>rfl
end
section
open Option renaming some → a6, none → a7
open Bool renaming and_eq_true → af, not_eq_true → bg
open List renaming mem_cons_of_mem → au
open Nat renaming le_refl → ae
open Go.RowKit
def TT.allK:TT->Bool
 |.nil=>true
 |.node _ i l r=>i.known&&(l.allK&&r.allK)
theorem TT.allK_at: ∀(T:TT) (t:TypeId),T.allK=true->(T.at t).ty.isSome=true->(T.at t).known=true
 |.nil,t,_,h=>by assumption
 |.node k i l r,t,h,d=>by
  simp only[TT.allK,af]at h;simp only[TT.at]at d ⊢;by_cases e:Nat.beq k t=true
  .simp_all
  .have f:Nat.beq k t=false:=(bg _).mp e;simp only[f,ac]at d ⊢;by_cases e2:Nat.blt t k=true
   .simp only[e2,aa]at d ⊢;exact TT.allK_at l t h.2.1 d
   .have g:Nat.blt t k=false:=(bg _).mp e2;simp only[g,ac]at d ⊢;exact TT.allK_at r t h.2.2 d
def wfD:(t:Ty)->t.den->Prop
 |.unit,_=>True
 |.bool,_=>True
 |.int k,x=>(Lit.int k x).wf=true
 |.str,x=>x.length<=maxLen
 |.list e,d=>d.length<=maxLen/\ ∀x∈d,wfD e x
 |.pair a b,x=>wfD a x.1/\wfD b x.2
section
variable {P:Program} {T:TT} {w:World} {H:Type} {enc:TypeId×Value->H} {spare:Nat->Bool} {held:Bool}
theorem aCc {t:TypeId} {k:TK} (h:(P.underlying t).map lG=a6 (a6 k)): ∃d,P.underlying t=a6 d/\lG d=a6 k:=by
 simp_all
theorem KY (hT:TOk P T) {t:TypeId} (hk:(T.at t).known=true):P.cellsOf t=(T.at t).size:=by
 obtain⟨h,_⟩:=hT t hk;unfold Program.cellsOf;cases hi:P.info? t with
 |none=>simp_all
 |some f=>
  simp_all
theorem aCB {a:Addr} {v:Value} (h:w.cell? a=a6 v):a.block<w.heap.size/\a.spot=a7:=by
 unfold World.cell? at h;split at h
 .rename_i d
  refine⟨(Array.getElem?_eq_some_iff.1 d).1, ?_⟩;simp_all
 .cases h
theorem addr_add_add (a:Addr) (x m:Nat):(a.add x).add m=a.add (x+m):=by
 grind [Addr.add]
theorem ain {e:Ty} {size:Nat} (p:e.size=size) {a:Addr} {len:Nat} {F:List Value->Option (DataW H×List MemPlace)} (hF: ∀cs y,F cs=a6 y-> ∃x:e.den,fZ w (fun b=>b<w.heap.size) e x cs/\wfD e x)
  (h: ∀i,i<len-> ∃y,(w.cells? 0 (a.add (i*size)) size).bind F=a6 y): ∀(k j:Nat),j+k<=len->
  ∃(xs:List e.den) (d:List Value),xs.length=k/\gW (fZ w (fun b=>b<w.heap.size) e) e.size xs d/\(∀m (f:m<d.length),w.cell? (a.add (j*size+m))=a6 d[m])/\ ∀x∈xs,wfD e x
 |0,j,_=>⟨[],[],rfl,rfl,fun m f=>absurd f (by simp),fun x g=>by cases g⟩
 |k+1,j,v=>by
  obtain⟨xs,d,q,s,A,B⟩:=ain p hF h k (j+1) (by omega);obtain⟨y,l⟩:=h j (by omega);obtain⟨c,o,l⟩:=Option.bind_eq_some_iff.1 l;obtain⟨x,g,D⟩:=hF c y l;have u:c.length=e.size:=fZ.length e x c g;have E: ∀m (f:m<c.length),w.cell? (a.add (j*size+m))=a6 c[m]:=fun m f=>by
   simp only[World.cells?,Nat.zero_le,if_true]at o;have:=mapM_some_get o m m (by simp_all);simp_all [addr_add_add]
  refine⟨x::xs,c++d,by simp[q],⟨c,d,rfl,u,g,s⟩,fun m f=> ?_,fun z G=> ?_⟩
  all_goals grind
theorem Wq (hT:TOk P T) {n:Nat} {cs:List Value} (e: ∀(t:TypeId) (cs:List Value) (y:DataW H×List MemPlace) (ty:Ty),(T.at t).known=true->(T.at t).ty=a6 ty->DataW.trod enc P w 0 spare held n t cs=a6 y-> ∃x:ty.den,fZ w (fun b=>b<w.heap.size) ty x cs/\wfD ty x):
  ∀(f:List (Nat×TypeId)) (off:Nat) (ty:Ty),kw T off f=a6 ty->(∀p∈f,∃y,DataW.trod enc P w 0 spare held n p.2 ((cs.drop p.1).take (P.cellsOf p.2))=a6 y)->
   ∃x:ty.den,fZ w (fun b=>b<w.heap.size) ty x ((cs.drop off).take ty.size)/\wfD ty x
 |[],off,ty,h,_=>by
  simp only[kw,Option.some.injEq]at h;subst h;exact⟨(),by simp[fZ,Ty.size],trivial⟩
 |(o,g)::l,off,ty,h,i=>by
  simp only[kw]at h;split at h
  .rename_i m
   split at h
   .rename_i a q
    split at h
    .rename_i d
     split at h
     .rename_i b s
      simp only[Option.some.injEq]at h;subst h m;obtain⟨y,j⟩:=i (o,g) (by simp);simp only[KY hT d.2,<-d.1]at j;obtain⟨u,v,z⟩:=e g _ y a d.2 q j;obtain⟨A,B,D⟩:=Wq hT e l _ b s fun p E=>i p (au _ E);refine⟨(u,A),⟨_,_, ?_,v,B⟩,z,D⟩;simp_all [Ty.size,List.take_add]
     .cases h
    .cases h
   .cases h
  .cases h
theorem YP (hT:TOk P T) (q:T.allK=true): ∀(m:Nat) (t:TypeId) (cs:List Value) (y:DataW H×List MemPlace) (ty:Ty),(T.at t).known=true->(T.at t).ty=a6 ty->DataW.trod enc P w 0 spare held m t cs=a6 y->
  ∃x:ty.den,fZ w (fun b=>b<w.heap.size) ty x cs/\wfD ty x
 |0,t,cs,y,ty,_,_,h=>by simp[DataW.trod]at h
 |m+1,t,cs,y,ty,hk,L,h=>by
  obtain⟨ag,M,ah,N,-,-,-,-⟩:=hT t hk;obtain⟨d,hd,l⟩:=aCc M;have g:mG T (T.at t).k=a6 ty:=by
   simp_all
  have hc:=KY hT hk;have ai:=N ty L;cases d with
  |bool=>
   simp only[lG,Option.some.injEq]at l;rw[<-l]at g;simp only[mG,Option.some.injEq]at g;subst g;obtain⟨b,rfl,_⟩:=DataW.trod_bool hd h;exact⟨b,rfl,trivial⟩
  |int k=>
   simp only[lG,Option.some.injEq]at l;rw[<-l]at g;simp only[mG,Option.some.injEq]at g;subst g;obtain⟨b,rfl,_,A⟩:=DataW.trod_int hd h;exact⟨b,rfl,A⟩
  |string=>
   simp only[lG,Option.some.injEq]at l;rw[<-l]at g;simp only[mG,Option.some.injEq]at g;subst g;obtain⟨s,rfl,_,A⟩:=DataW.trod_string hd h;exact⟨s.data.toList,by simp[fZ],(show s.data.toList.length<=maxLen from by assumption)⟩
  |slice e=>
   simp only[lG,Option.some.injEq]at l;rw[<-l]at g;simp only[mG,Option.map_eq_some_iff]at g;obtain⟨o,u,rfl⟩:=g;have v:=TT.allK_at T e q (by rw[u];rfl);have O:o.size=(T.at e).size:=(hT e v).2.2.2.1 o u;have S:=KY hT v;rcases DataW.trod_slice hd h with ⟨rfl,_⟩|⟨a,B,U,aj,ak,n,V,rfl,_,_,hl,hm,W,al,_,_⟩
   .exact⟨[],⟨a7,0,[],rfl,ae _,rfl,.inl rfl⟩,Nat.zero_le _,fun x X=>by cases X⟩
   .obtain rfl:n=m:=by omega
    have Y: ∀i,i<B-> ∃y,(w.cells? 0 (a.add (i*P.cellsOf e)) (P.cellsOf e)).bind (DataW.trod enc P w 0 spare held n e)=a6 y:=fun i Z=>by
     simp_all
    obtain⟨D,E,z,G,h3,h4⟩:=ain (w:=w) (e:=o) (O.trans S.symm) (fun cs y hy=>YP hT q n e cs y o v u hy) Y B 0 (by omega);refine⟨D,⟨a6 a,U,E,by rw[z],by omega,G, ?_⟩,by rw[z];omega,h4⟩;by_cases hz:E=[]
    .exact .inl hz
    .have I:=h3 0 (List.length_pos_iff.2 hz);rw[show a.add (0*P.cellsOf e+0)=a by simp[Addr.add]]at I;obtain⟨J,K⟩:=aCB I;obtain⟨ab,ao,an⟩:=a;simp only at J K;subst K;refine .inr ⟨ab,ao,rfl,J,fun j hj=> ?_⟩;simp_all [kU]
  |struct fs=>
   simp only[lG,Option.some.injEq]at l;rw[<-l]at g;simp only[mG]at g;obtain⟨D,n,V,_,W,av,hf⟩:=DataW.trod_struct hd h;obtain rfl:n=m:=by omega
   obtain⟨x,z,G⟩:=Wq (P:=P) (T:=T) (w:=w) (enc:=enc) (spare:=spare) (held:=held) (cs:=cs) hT (fun t cs y ty a b c=>YP hT q n t cs y ty a b c) _ 0 ty g (fun p hp=>by
    obtain⟨f,ad,rfl⟩:=List.mem_map.1 hp;obtain⟨i,Z⟩:=List.getElem?_of_mem ad
    grind)
   grind
  |func a b c=>
   grind [lG,mG]
  |array a b=>simp[lG]at l
  |_=>
   grind [lG,mG]
theorem EQ (hT:TOk P T) (y:T.allK=true) {t:TypeId} {v:Value} {d:DataW H} {B:List MemPlace} {r:Reach} {b0:Nat} {ty:Ty} (m:(T.at t).ty=a6 ty) (q:Value.okWide P w r b0 t v) (h:DataW.Trod enc P w 0 spare held t v d B):
  ∃x:ty.den,VD (mW w fun _=>False) ty x v/\wfD ty x:=by
 have hk:=TT.allK_at T t y (by rw[m];rfl);obtain⟨D,E⟩:=h;obtain⟨x,s,G⟩:=YP hT y D t _ _ ty hk m E;have u:fZ w (mW w fun _=>False).free ty x v.cells.toList:=fZ.mono (fun b I=>⟨⟨I,(by rintro ⟨i,o,h,_⟩;simp[mW,eG]at h),by simp[mW],fun h=>h⟩,rfl⟩) ty x _ s;refine⟨x, ?_,G⟩;obtain⟨M,J,K,-⟩:=hT t hk;obtain⟨z,hd,j⟩:=aCc J;have g:mG T (T.at t).k=a6 ty:=by
  rcases K with s|s
  .rw[s]at m;cases m
  .rw[<-s,m]
 cases ha:ty.isAgg with
 |true=>
  cases z with
  |struct A=>
   obtain⟨cs,rfl,_⟩:=Go.WideShapes.okWide_struct hd q;exact(VD.agg ha).2 ⟨cs,rfl,u⟩
  |array a b=>simp[lG]at j
  |slice e=>
   simp only[lG,Option.some.injEq]at j;rw[<-j]at g;simp only[mG,Option.map_eq_some_iff]at g;obtain⟨N,_,rfl⟩:=g;cases ha
  |_=>
   simp only[lG,Option.some.injEq]at j;rw[<-j]at g;simp[mG]at g
   all_goals (subst g;cases ha)
 |false=>
  rw[VD.leaf ha];have L:v.cells= #[v]:=by
   cases z with
   |struct A=>
    simp only[lG,Option.some.injEq]at j;rw[<-j]at g;simp only[mG]at g;exfalso;cases hfs:(A.toList.map fun f=>(f.offset,f.type))with
    |nil=>rw[hfs]at g;simp only[kw,Option.some.injEq]at g;subst g;cases ha
    |cons p l=>
     rw[hfs]at g;simp only[kw]at g;split at g
     .split at g
      .split at g
       .split at g
        .simp only[Option.some.injEq]at g;subst g;cases ha
        .cases g
       .cases g
      .cases g
     .cases g
   |array a b=>simp[lG]at j
   |bool=>obtain⟨b,rfl⟩:=Go.WideShapes.okWide_bool hd q;rfl
   |int k=>obtain⟨b,rfl⟩:=Go.WideShapes.okWide_int hd q;rfl
   |string=>obtain⟨b,rfl⟩:=Go.WideShapes.okWide_string hd q;rfl
   |slice e=>obtain⟨a,b,c,rfl⟩:=Go.WideShapes.okWide_slice hd q;rfl
   |_=>
    simp only[lG,Option.some.injEq]at j;rw[<-j]at g;simp[mG]at g
  rw[L]at u;exact u
end
abbrev cZ:Ty:=.int .i64
abbrev bU:Type:=List UInt8
abbrev gQ:Type:=Int×bU×(Int×Int×Unit)
abbrev ig:Type:=Int×Int×Int×Int×Unit
abbrev J4:Ty:=.pair cZ (.pair cZ .unit)
abbrev iI:Type:=Int×Int×Int×Int×Bool×Unit
abbrev Gp:Ty:=.pair cZ (.pair cZ (.pair cZ (.pair .bool .unit)))
abbrev tyD:Ty:=.pair cZ (.pair .str J4)
abbrev og:Ty:=.pair cZ (.pair cZ J4)
abbrev oG:Type:=Int×Int×Int×Bool×Unit
abbrev taF:Type:=(List gQ)×Int×(List ig)×Int×Int×Unit
abbrev taG:Type:=(List gQ)×bU×(List ig)×Int×Int×Int×Unit
abbrev lD:Type:=Int×Int×Unit
abbrev oJ:Type:=Bool×Unit
abbrev iD:Type:=List (Int)
abbrev tyF:Ty:=.pair .bool .unit
abbrev tyG:Ty:=.pair cZ (.pair cZ (.pair cZ (.pair .str (.pair .bool (.pair .str J4)))))
abbrev taK:Type:=(bU×Int×Int×(List oG)×Int×Int×Int×Bool×Bool×Unit)×((Int×Int×Int×Int×bU×(Bool×bU×lD))×Unit)
abbrev Gn:Type:=Bool×Bool×bU×(Unit)
abbrev Y1:Ty:=.pair .bool (.pair .bool (.pair .str .unit))
abbrev lI:Type:=Int×Int
abbrev J5:Ty:=.pair cZ Gp
abbrev taN:Type:=(List lD)×Bool×Int×Unit
abbrev J3:Type:=List (bU×oJ)
abbrev taP:Type:=(Int×Int×Int×Int×bU×(Bool×bU×lD))×Unit
abbrev Iy:Ty:=.pair .str tyF
abbrev pV:Ty:=.list tyD
abbrev KN:Type:=bU×(iD×oJ)
abbrev D5:Type:=taF×(Unit)
abbrev tyL:Ty:=.pair (.list cZ) tyF
abbrev zN:Type:=Int×Unit
abbrev taT:Type:=bU×Int×Int×(List oG)×Int×Int×Int×Bool×Bool×Unit
abbrev MV:Type:=taG×(Unit)
abbrev taV:Type:=oG×(Int×J3×oJ)×Unit
abbrev YG:Type:=bU×Unit
abbrev MW:Ty:=.list J5
abbrev tyN:Ty:=.pair (.list Iy) tyF
abbrev taX:Type:=Int×bU×(bU×(Unit))
abbrev taY:Type:=Bool×bU×lD
abbrev taZ:Type:=KN×Unit
abbrev J6:List (Ty×Bool):=[(.list tyD,false),(.int .i64,false),(.list og,true),(.int .i64,false),(.int .i64,false)]
abbrev YR:List (Ty×Bool):=[(.list tyD,false),(.str,false),(.list og,true),(.int .i64,false),(.int .i64,false),(.int .i64,false)]
abbrev tzC:List (Ty×Bool):=[(.str,false),(.int .i64,false),(.int .i64,false),(.list Gp,false),(.int .i64,false),(.int .i64,false),(.int .i64,false),(.bool,false),(.bool,false)]
abbrev tzD:List (Ty×Bool):=[(.list J4,true),(.bool,false),(.int .i64,false)]
abbrev TL:List (Ty×Bool):=[(.int .i64,false)]
abbrev KO:List (Ty×Bool):=[(.bool,false)]
abbrev tzG:List (Ty×Bool):=[(.str,false)]
abbrev tzH:List (Ty×Bool):=[(.pair .str tyL,false)]
abbrev tzI:List (Ty×Bool):=[(.pair cZ (.pair cZ (.pair cZ tyF)),false),(.pair cZ tyN,false)]
abbrev tzJ:List (Ty×Bool):=[(.int .i64,false),(.int .i64,false)]
abbrev tzK:List (Ty×Bool):=[(.pair cZ tyG,false)]
end
end Go.Proofs.YtdfhjhkcjecmlaaGreatDoor
