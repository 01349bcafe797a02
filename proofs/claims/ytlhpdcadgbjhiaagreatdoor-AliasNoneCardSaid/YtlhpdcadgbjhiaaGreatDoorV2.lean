/- Parts of the proof, joined and shortened by a program: the plain machine, the functions as it prints them, and the mathematics over them. -/
import Derived.Stop.Looks
import Derived.RangeFuncNested
import Derived.RangeFuncRecord
import Derived.Sort.LoopGhostIn
import Derived.Laws.Externs
import Derived.Lib.Bytealg
import Derived.Test.YtlhpdcadgbjhiaaGreatDoorV1
set_option linter.unusedVariables false
set_option linter.unusedSimpArgs false
set_option maxRecDepth 100000
set_option maxHeartbeats 4000000
namespace Go.Proofs.YtlhpdcadgbjhiaaGreatDoor
section
open Option renaming some → a6, none → a7
open Bool renaming and_eq_true → af
open List renaming eq_nil_of_length_eq_zero → aW
open Nat renaming le_refl → ae, eq_of_beq_eq_true → ah
open Go.RowKit
section
variable {P:Program} {T:TT} {W0:World} {b0 n:Nat} {rd:Option Nat} {c:Cx} {R:Type} {r:R} {st:St} {a:Act} {ats:List (Array Value)}
theorem JV (hr:gI W0 b0 rd c st a ats) {s:Nat} {t:Ty} {E:St} (h:vC s t st=a6 E): ∃c',gI W0 b0 rd c' E a ats/\c.Mono c'/\c'.w=c.w:=by
 have i: ∀j:s<a.tmps.toList.length,bu c (st.fr.getD s .undef) a.tmps.toList[s]:=fun j=>by
  have:=hr.fr.getD s;rwa [Array.getD,dif_pos (by simpa using j)]at this
 obtain⟨O,G,S,x⟩:=st;simp only[vC]at h;split at h
 .rename_i z
  simp only at i;rw[z]at i;split at h
  .cases h
  .rename_i d
   rw[cond_eq_ite]at h;split at h
   .rename_i f
    cases h;simp only[af]at f;have A:x<=1000000*G.length+800000+s:=by simp_all
    have B:0<t.size:=by simp_all
    obtain⟨c',hd,U,p⟩:=oK hr.ok (st:=⟨O,G,S,x⟩) hr.hp hr.nxt d A (ae x) (y:=t) B (xs:=[]) (v:=.slice a7 0 0) (w:=c.w) (Below.refl _ _) lu [] ⟨by simp,.inl ⟨rfl,rfl⟩⟩ (by simp[dX]) rfl (fun _=>rfl);have g:=hr.did hd;refine⟨c',⟨g.hp,g.nxt,g.ok,bg.setL _ _ _ g.fr fun j=> ?_,g.stk,g.df,g.rd⟩,hd.le.mono,U⟩
    grind [bu]
   .cases h
 .rename_i id V vw z
  simp only at i;rw[z]at i;split at h
  .rename_i u w xs d
   rw[cond_eq_ite]at h;split at h
   .rename_i D
    have D:w=V:=by simpa using D
    subst D;split at h
    .cases h;exact⟨c,hr,Cx.Mono.refl c,rfl⟩
    .rename_i lo l
     rw[cond_eq_ite]at h;split at h
     .rename_i f
      cases h;simp only[beq_iff_eq]at f;subst f;have I:=hr.hp;simp only at I;subst I;have W:=hr.ok.obj id _ d;obtain⟨X,e,Y,J,o,Z⟩:=W;by_cases j:s<a.tmps.toList.length
      .have p:=i j;simp only[bu]at p;have K:=(p.2.2 _ _ _ d).2 rfl;have⟨ab,ad⟩:0<=l/\l<=bi xs:=by
        obtain⟨a1,n1,c1,M,_,p2,p3,_⟩:=K;obtain⟨a2,c2,e2,_⟩:=oP J;rw[e2]at M;cases M;exact⟨p2,p3⟩
       obtain⟨aj,N⟩:=Dz J ab ad K;have hk:(bY.arr u w xs).like (c.mu id) (.arr u (w+1) (xs.take l.toNat)) ⟨(c.mu id).blk,a.tmps.toList[s]⟩:=⟨by omega,fun e=>by omega⟩;have q:=Cx.Le.put (w:=c.w) hr.ok d hk (ae _) (fun _ _ _=>rfl) (fun b f=>.inl (N b f)) (fun b L _ o=>⟨L,o⟩);have ag:=Cx.Ok.put (w:=c.w) hr.ok d hk hr.ok.bel (ae _) (fun _ _ _=>rfl) (fun b f=>.inl (N b f)) (fun b L _ o=>⟨L,o⟩) (by
        refine⟨X,e,Y.take (l.toNat*u.size), ?_,dX.take _ _ _ (dX.mono (dM.mono q.free u) _ _ o),Z⟩;simp_all [bi,Cx.put,upd_same])
       refine⟨c.put id (bY.arr u (w+1) (List.take l.toNat xs)) ⟨(c.mu id).blk,a.tmps.toList[s]⟩ c.w,⟨rfl,hr.nxt,ag,bg.setL _ _ _ (bg.le q _ _ hr.fr) fun _=> ?_,zD.le q _ _ hr.stk, ?_, ?_⟩,q.mono,rfl⟩
       .simp only[bu];refine⟨p.1,.inl ⟨_,Cx.put_get d⟩,fun t' u' ak ai=> ?_⟩;rw[Cx.put_get d]at ai;simp_all [ik,Cx.put,upd_same]
       .obtain⟨ds,A,B,h3⟩:=hr.df;exact⟨ds,A,B,h3⟩
       .exact hr.rd
      .exfalso;have hl:=bg.length _ _ hr.fr;simp_all
     .cases h
   .cases h
  .cases h
 .cases h
theorem FY (hr:gI W0 b0 rd c st a ats) {s:Nat} {t:Ty} {D:St} (h:Aj s t st=a6 D): ∃c',gI W0 b0 rd c' D a ats/\c.Mono c'/\c'.w=c.w:=by
 have E: ∀d:s<a.tmps.toList.length,bu c (st.fr.getD s .undef) a.tmps.toList[s]:=fun d=>by
  have:=hr.fr.getD s;rwa [Array.getD,dif_pos (by simpa using d)]at this
 have ad: ∀(q: ∀d:s<a.tmps.toList.length,∃A,a.tmps.toList[s]=.slice A 0 0),∃c',gI W0 b0 rd c' {st with fr:=st.fr.set s (.val (.list t) [])} a ats/\c.Mono c'/\c'.w=c.w:=fun q=>
  ⟨c,⟨hr.hp,hr.nxt,hr.ok,bg.setL _ _ _ hr.fr fun d=>by
   obtain⟨A,U⟩:=q d;rw[U];simp only[bu];exact(VD.leaf rfl).2 ⟨A,0,[],rfl,ae _,rfl,.inl rfl⟩,hr.stk,hr.df,hr.rd⟩,Cx.Mono.refl c,rfl⟩
 unfold Aj at h;split at h
 .simp_all [bu]
 .simp_all [bu]
 .rename_i id ag G
  rw[G]at E;split at h
  .rename_i u w xs v
   replace h:=bK h;obtain⟨y,h⟩:=h;simp only[af,beq_iff_eq]at y;obtain⟨rfl,I⟩:=y;cases h;obtain⟨B,V,J,W⟩:=st;have K:=hr.hp;simp only at K v I G;subst K;have X:bg c (B.set s .undef) a.tmps.toList:=bg.setL _ _ _ hr.fr fun _=>by simp[bu]
   have hk:=Cx.keeps_filter (c:=c) (p:=fun i=> !Nat.beq i id) (qZ I);have Y:=hr.ok.filter (p:=fun i=> !Nat.beq i id) hk.right;have f:gI W0 b0 rd {c with hp:=c.hp.filter fun e=> !Nat.beq e.1 id} ⟨B.set s .undef,V,c.hp.filter fun e=> !Nat.beq e.1 id,W⟩ a ats:=
    ⟨rfl,hr.nxt,Y,bg.keeps _ _ hk.left.left X,zD.keeps _ _ hk.left.right hr.stk,hr.df,hr.rd⟩
   refine⟨{c with hp:=c.hp.filter fun e=> !Nat.beq e.1 id},⟨rfl,f.nxt,f.ok, ?_,f.stk,f.df,f.rd⟩,⟨fun _ h=>h,fun b L h=>⟨L,h⟩,ae _,rfl,Oh c fun i=> !Nat.beq i id⟩,rfl⟩;have gX:=bg.setL (z:=.val (.list u) xs) s _ _ f.fr fun d=>by
    have q:=E d;simp only[bu]at q ⊢;have M:=(q.2.2 _ _ _ v).2 rfl;simp only[ik]at M;obtain⟨ai,e,Z,N,hL,aj⟩:=hr.ok.obj id _ v;rw[M];have ab:=dX.mono (dM.mono hk.free u) _ _ hL;rcases N.2 with ⟨l,O⟩|⟨g,ak,al,l,O,e3,e4,e5,e6,e7⟩
    .have hx:xs=[]:=aW O;subst hx;rw[l];exact(VD.leaf rfl).2 ⟨a7,0,[],rfl,ae _,rfl,.inl rfl⟩
    .obtain⟨a2,an,S,f2,f3⟩:=CP N;rw[l]at S;cases S;rw[l];refine(VD.leaf rfl).2 ⟨_,_,Z,rfl,e4,ab,f3.imp (fun h=>h) fun⟨g',q1,q2,q4,q3⟩=> ?_⟩;cases q1;refine⟨g,0,rfl,⟨q2, ?_, ?_,fun y=>(hr.ok.bar _ y).2.1 ⟨id,_,v,by simp[bY.blk,l,Value.ownBlock]⟩⟩,q3⟩
     .rintro ⟨j,o,x,h2⟩;simp only at x;rw[je (fun i=> !Nat.beq i id)]at x;split at x
      .rename_i hj
       have:=hr.ok.inj j id o _ g x v h2 (by simp[bY.blk,l,Value.ownBlock]);simp_all
      .cases x
     .intro hm;obtain⟨_,hd⟩:=hr.ok.mks g hm;simp_all
   simp_all
  .cases h
 .cases h
 .cases h;exact⟨c,hr,Cx.Mono.refl c,rfl⟩
theorem Ur (hr:gI W0 b0 rd c st a ats) {id off:Nat} {t:Ty} {q:St} (h:Oi id off t st=a6 q): ∃c',gI W0 b0 rd c' q a ats/\c.Mono c'/\c'.w=c.w:=by
 have same:a6 st=a6 q-> ∃c',gI W0 b0 rd c' q a ats/\c.Mono c'/\c'.w=c.w:=fun h=>by cases h;exact⟨c,hr,Cx.Mono.refl c,rfl⟩
 obtain⟨N,O,S,u⟩:=st;simp only[Oi]at h;split at h
 .rename_i g cs U
  split at h
  .rename_i J
   split at h
   .rename_i K
    cases h;have j:cZ c.hp id=a6 (.box g cs):=by rw[hr.hp];exact U
    obtain⟨x,us,z,s,A⟩:=hr.ok.obj id _ j;have M: ∀l:off<us.toList.length,us.toList[off]=.slice a7 0 0:=fun l=>by
     have:=bg.getD s off;rw[J,Array.getD,dif_pos (by simpa using l)]at this
     assumption
    have p:(bY.box g cs).like (c.mu id) (.box g (cs.set off (.val (.list K) []))) (c.mu id):=rfl;have i:=Cx.Le.put (w:=c.w) hr.ok j p (ae _) (fun _ _ _=>rfl) (fun b d=>.inl d) (fun b L _ o=>⟨L,o⟩);have B:=Cx.Ok.put (w:=c.w) hr.ok j p hr.ok.bel (ae _) (fun _ _ _=>rfl) (fun b d=>.inl d) (fun b L _ o=>⟨L,o⟩) (by
     refine⟨by simp only[Cx.put,upd_same];exact x,us,by simp only[Cx.put,upd_same];exact z, ?_,A⟩;exact bg.le i _ _ (bg.setL off _ _ s fun l=>by
      rw[M l];simp only[bu];exact(VD.leaf rfl).2 ⟨a7,0,[],rfl,ae _,rfl,.inl rfl⟩))
    refine⟨c.put id (.box g (cs.set off (.val (.list K) []))) (c.mu id) c.w,⟨?_,hr.nxt,B,bg.le i _ _ hr.fr,zD.le i _ _ hr.stk, ?_, ?_⟩,i.mono,rfl⟩
    .simp only[Cx.put];rw[hr.hp]
    .obtain⟨D,E,G,I⟩:=hr.df;exact⟨D,E,G,I⟩
    .exact hr.rd
   generalize id+500000+2000*off=nm at h;split at h
   .cases h
   .rename_i V
    rw[cond_eq_ite]at h;split at h
    .rename_i d
     cases h;simp only[af]at d;have W:u<=nm:=by simpa [Nat.ble_eq] using d.1
     have X:0<t.size:=by have:=d.2;simp[Nat.blt]at this;omega
     have Z:nm≠id:=fun e=>by simp_all
     obtain⟨c',hd,Y,hv⟩:=oK hr.ok (st:=⟨N,O,S,u⟩) hr.hp hr.nxt V W (ae u) (y:=t) X (xs:=[]) (v:=.slice a7 0 0) (w:=c.w) (Below.refl _ _) lu [] ⟨by simp,.inl ⟨rfl,rfl⟩⟩ (by simp[dX]) rfl (fun _=>rfl);have f:=hr.did hd;have j:cZ c'.hp id=a6 (.box g cs):=by
      rw[hd.hp];simp only[dG]
      grind
     obtain⟨x,us,z,s,A⟩:=f.ok.obj id _ j;have M: ∀l:off<us.toList.length,us.toList[off]=.slice a7 0 0:=fun l=>by
      have:=bg.getD s off;rw[J,Array.getD,dif_pos (by simpa using l)]at this
      assumption
     have p:(bY.box g cs).like (c'.mu id) (.box g (cs.set off (.slc nm 0 a7))) (c'.mu id):=rfl;have i:=Cx.Le.put (w:=c'.w) f.ok j p (ae _) (fun _ _ _=>rfl) (fun b d=>.inl d) (fun b L _ o=>⟨L,o⟩);have B:=Cx.Ok.put (w:=c'.w) f.ok j p f.ok.bel (ae _) (fun _ _ _=>rfl) (fun b d=>.inl d) (fun b L _ o=>⟨L,o⟩) (by
      refine⟨by simp only[Cx.put,upd_same];exact x,us,by simp only[Cx.put,upd_same];exact z, ?_,A⟩
      grind [bg.le,bg.setL])
     refine⟨c'.put id (.box g (cs.set off (.slc nm 0 a7))) (c'.mu id) c'.w,⟨?_,f.nxt,B,bg.le i _ _ f.fr,zD.le i _ _ f.stk, ?_, ?_⟩,hd.le.mono.trans i.mono,Y⟩
     .simp only[Cx.put];rw[hd.hp]
     .obtain⟨D,E,G,I⟩:=f.df;exact⟨D,E,G,I⟩
     .exact f.rd
    .cases h
  .exact same h
 .exact same h
theorem QF (k:Nat) (o:bY) (i:Nat): ∀h:fD,cZ (aix k o h) i=if k=i then a6 o else cZ h i
 |[]=>by simp[aix,dG]
 |(j,p)::h=>by
  simp only[aix];rw[cond_eq_ite];split
  .rw[dG]
  .rename_i d
   have f:j≠k:=fun e=>d (by simp_all);rw[dG,QF k o i h,dG]
   grind
theorem uu (i:Nat): ∀h:fD,cZ (jT h) i=cZ h i
 |[]=>rfl
 |(k,o)::h=>by simp only[jT];rw[QF,uu i h,dG]
theorem gI.sorted (hr:gI W0 b0 rd c st a ats): ∃c',gI W0 b0 rd c' {st with hp:=jT st.hp} a ats/\c.Mono c'/\c'.w=c.w:=by
 have f: ∀i,cZ (jT c.hp) i=cZ c.hp i:=fun i=>uu i _;have q: ∀(o:bY) (l:Loc),o.like l o l:=fun o l=>by
  cases o<;>simp[bY.like]
 have d:c.Le {c with hp:=jT c.hp}:=by
  refine⟨fun b e=>⟨⟨e.1,fun⟨j,o,s,g⟩=>e.2.1 ⟨j,o,by simp_all,g⟩,e.2.2⟩,rfl⟩,fun id hk=> ?_,fun id u _ h=>⟨u,by rw[<-f];exact h,q _ _⟩,fun _ h=>h,fun b L h=>⟨L,h⟩,ae _,rfl⟩;rcases hk with ⟨o,h⟩|h
  .exact .inl ⟨o,by simp_all⟩
  .exact .inr h
 have v:({c with hp:=jT c.hp}:Cx).Ok W0:=by
  refine⟨hr.ok.bel,fun id o h=> ?_,fun i j o p b s g=>hr.ok.inj i j o p b (by simp_all) (by simp_all),hr.ok.mks,fun b e=>(d.out b (hr.ok.bar b e)).1,hr.ok.phi⟩;exact(hr.ok.obj id o (by rw[<-f];exact h)).le d rfl fun b _=>rfl
 exact⟨{c with hp:=jT c.hp},⟨by show jT c.hp=jT st.hp;rw[hr.hp],hr.nxt,v,bg.le d _ _ hr.fr,zD.le d _ _ hr.stk,hr.df,hr.rd⟩,d.mono,rfl⟩
theorem Yz (hr:gI W0 b0 rd c st a ats) {id off:Nat} {t:Ty} {d:St} (h:KH id off t st=a6 d): ∃c',gI W0 b0 rd c' d a ats/\c.Mono c'/\c'.w=c.w:=by
 simp only[KH]at h;split at h
 .rename_i q e
  cases h;obtain⟨s,f,g,i⟩:=Ur hr e;obtain⟨j,l,o,p⟩:=f.sorted;exact⟨j,l,g.trans o,p.trans i⟩
 .cases h
theorem aa5 (hr:gI W0 b0 rd c st a ats) {s id N:Nat} {u:TypeId} {xs:List bn} (hn:st.fr.getD s .undef=.ptr id 0) (K:cZ st.hp id=a6 (.box u xs)) (aF:id≠N)
  (ab:st.nxt.ble N=true) (ad:AU [id,N] (jS (st.fr.set s .undef)++pU st.stk++(jS xs++uC (st.hp.filter fun e=> !(Nat.beq e.1 id||Nat.beq e.1 N))))=true):
  ∃c',gI W0 b0 rd c' {st with fr:=st.fr.set s (.ptr N 0),hp:=jT ((N,.box u xs)::st.hp.filter fun e=> !(Nat.beq e.1 id||Nat.beq e.1 N))} a ats/\c.Mono c'/\c'.w=c.w:=by
 have au: ∀U:s<a.tmps.toList.length,bu c (.ptr id 0) a.tmps.toList[s]:=fun U=>by
  have:=hr.fr.getD s;rw[hn]at this;rwa [Array.getD,dif_pos (by simpa using U)]at this
 obtain⟨fr,stk,hp,nxt⟩:=st;have ag:=hr.hp;have ai:=hr.nxt;simp only at ag K ad hn ab ai;subst ag;subst ai;have ab:c.nxt<=N:=by simp_all
 have X: ∀i∈jS (fr.set s .undef)++pU stk++(jS xs++uC (c.hp.filter fun e=> !(Nat.beq e.1 id||Nat.beq e.1 N))),i≠id/\i≠N:=fun i A=>by
  have:=qZ ad i A;simp_all
 have V: ∀i,cZ (jT ((N,.box u xs)::c.hp.filter fun e=> !(Nat.beq e.1 id||Nat.beq e.1 N))) i=if N=i then a6 (.box u xs)else if i=id then a7 else cZ c.hp i:=fun i=>by
  rw[uu,dG];split
  .rfl
  .rename_i av
   rw[je (fun i=> !(Nat.beq i id||Nat.beq i N))];have d:Nat.beq i N=false:=Bool.eq_false_iff.2 fun h=>av (ah h).symm;simp_all [Bool.eq_false_iff]
 generalize hH:jT ((N,.box u xs)::c.hp.filter fun e=> !(Nat.beq e.1 id||Nat.beq e.1 N))=H at*;generalize E:({c with mu:=Go.Proofs.YtlhpdcadgbjhiaaGreatDoor.upd c.mu N (c.mu id),hp:=H}:Cx)=c2;have M:c2.hp=H:=by rw[<-E]
 have B:c2.w=c.w:=by rw[<-E]
 have aj:c2.nxt=c.nxt:=by rw[<-E]
 have W:c2.mks=c.mks:=by rw[<-E]
 have ak:c2.bar=c.bar:=by rw[<-E]
 have O:c2.mu N=c.mu id:=by rw[<-E];exact upd_same ..
 have J: ∀i,i≠N->c2.mu i=c.mu i:=fun i A=>by rw[<-E];simp[Go.Proofs.YtlhpdcadgbjhiaaGreatDoor.upd,A]
 have al: ∀b,(∃i o,cZ c2.hp i=a6 o/\o.blk (c2.mu i)=a6 b)-> ∃i o,cZ c.hp i=a6 o/\o.blk (c.mu i)=a6 b:=fun b ⟨i,o,d,g⟩=>by
  grind
 have an: ∀b,c.out b->c2.out b:=fun b D=>⟨by rw[B];exact D.1,fun h=>D.2.1 (al b h),by rw[W];exact D.2.2⟩;have aw: ∀b,c.free b->c2.free b/\c2.w.heap[b]? =c.w.heap[b]? :=fun b D=>⟨⟨by rw[B];exact D.1,fun h=>D.2.1 (al b h),by rw[W,ak];exact D.2.2⟩,by rw[B]⟩;have keeps: ∀l:List Nat,(∀i∈l,i≠id/\i≠N)->c.Keeps c2 l:=fun l hl=>by
  refine⟨aw,fun i A hk=> ?_,fun i A o' x=> ?_⟩
  .rcases hk with ⟨o,x⟩|hk
   .left
    grind
   .right;rw[aj];exact hk
  .rw[M,V,aq (fun e=>(hl i A).2 e.symm),aq (hl i A).1]at x;refine⟨o',x, ?_⟩;rw[J i (hl i A).2];exact o'.like_refl _
 have ax: ∀i o,i≠id->i≠N->cZ c.hp i=a6 o->(i,o)∈c.hp.filter fun e=> !(Nat.beq e.1 id||Nat.beq e.1 N):=fun i o A ay x=>List.mem_filter.2 ⟨ut _ _ _ x,by
  have d:Nat.beq i N=false:=Bool.eq_false_iff.2 fun h=>ay (ah h);have g:Nat.beq i id=false:=Bool.eq_false_iff.2 fun h=>A (ah h);simp_all⟩
 have az:c2.Ok W0:=by
  refine⟨by rw[B];exact hr.ok.bel,fun i o x=> ?_,fun i j o q b d g v y=> ?_,fun r aG=>by rw[B];exact hr.ok.mks r (by simp_all),fun b D=>an b (hr.ok.bar b (by simp_all)),hr.ok.phi⟩
  .rw[M,V]at x;split at x
   .rename_i e;subst e;cases x
    obtain⟨d,Y,g,v,y⟩:=hr.ok.obj id _ K;exact⟨by rw[O];exact d,Y,by rw[B,O];exact g,bg.keeps _ _ (keeps _ fun j Z=>X j (List.mem_append_right _ (List.mem_append_left _ Z))) v,y⟩
   .rename_i e
    split at x
    .cases x
    .rename_i G
     have I:=hr.ok.obj i o x;have hm:=ax i o G (fun q=>e q.symm) x;have hk:=fun j Z=>X j (List.mem_append_right _ (List.mem_append_right _ (xR _ _ hm j Z)));have ao:=J i (fun q=>e q.symm);cases o with
     |box e cs=>
      obtain⟨d,Y,g,v,y⟩:=I;refine⟨by rw[ao];exact d,Y,by simp_all,bg.keeps _ _ (keeps _ hk) v,y⟩
     |arr t ver xs=>
      obtain⟨I,e,zs,d,g,v⟩:=I;refine⟨I,e,zs,by simp_all, ?_,v⟩
      grind [dX.mono,dM.mono]
     |lp f fr ps iK bd ky n p=>
      obtain⟨I,d,L,g,v,y⟩:=I;refine⟨I,by rw[ao];exact d,L,by simp_all,bg.keeps _ _ (keeps _ hk) v,y⟩
     |dead=>trivial
     |mp kk vk es=>
      simp_all [Cx.ORel]
  .rw[M,V]at d g;split at d<;>split at g
   .omega
   .rename_i S G
    split at g
    .cases g
    .rename_i e3
     subst S;cases d;rw[O]at v;rw[J j (fun q=>G q.symm)]at y;exact absurd (hr.ok.inj id j _ q b K g v y).symm e3
   .rename_i S G
    split at d
    .cases d
    .rename_i e3
     subst G;cases g;rw[O]at y;rw[J i (fun q=>S q.symm)]at v;exact absurd (hr.ok.inj i id o _ b d K v y) e3
   .rename_i S G
    split at d
    .cases d
    .split at g
     .cases g
     .rw[J i (fun q=>S q.symm)]at v;rw[J j (fun q=>G q.symm)]at y;exact hr.ok.inj i j o q b d g v y
 have aA:bg c (fr.set s .undef) a.tmps.toList:=bg.setL _ _ _ hr.fr fun _=>by simp[bu]
 have kl:=keeps _ X;have aB:=bg.keeps _ _ kl.left.left aA;have gX:=bg.setL (z:=.ptr N 0) s _ _ aB fun U=>by
  have hv:=au U;simp only[bu]at hv ⊢;exact⟨hv.1,.inl ⟨_,by rw[M,V,am rfl]⟩,fun _ _ _=>by rw[O];exact hv.2.2 _ _ K⟩
 rw[List.set_set]at gX;exact⟨c2,⟨by rw[M],aj,az,gX,zD.keeps _ _ kl.left.right hr.stk,by rw[W];exact hr.df,by rw[B];exact hr.rd⟩,
  ⟨fun _ h=>by rw[W];exact h,fun b L h=>⟨L,by rw[B];exact h⟩,by simp_all,ak,fun b D=>⟨an b D,by rw[B]⟩⟩,B⟩
theorem YJ (hr:gI W0 b0 rd c st a ats) {s:Nat} {t:Ty} {ab:St} (h:KQ s t st=a6 ab): ∃c',gI W0 b0 rd c' ab a ats/\c.Mono c'/\c'.w=c.w:=by
 have ad: ∀V:s<a.tmps.toList.length,bu c (st.fr.getD s .undef) a.tmps.toList[s]:=fun V=>by
  have:=hr.fr.getD s;rwa [Array.getD,dif_pos (by simpa using V)]at this
 unfold KQ at h;generalize hN:1000000*st.stk.length+800000+s=N at h;split at h
 .rename_i id ag W
  rw[W]at ad;rw[cond_eq_ite]at h;split at h
  .cases h;exact hr.sorted
  .rename_i K
   have K:id≠N:=fun e=>K (by simp[e]);split at h
   .rename_i u w xs M
    obtain⟨d,h⟩:=bK h;simp only[af]at d;obtain⟨ai,aj⟩:=d;cases h;obtain⟨Z,az,hp,bf⟩:=st;have ak:=hr.hp;have al:=hr.nxt;simp only at ak M aj W ai al;subst ak;subst al;have ai:c.nxt<=N:=by simp_all
    have an: ∀i∈jS (Z.set s .undef)++pU az++uC (c.hp.filter fun e=> !(Nat.beq e.1 id||Nat.beq e.1 N)),i≠id/\i≠N:=fun i B=>by
     have:=qZ aj i B;simp_all
    have X: ∀i,cZ (jT ((N,.arr u w xs)::c.hp.filter fun e=> !(Nat.beq e.1 id||Nat.beq e.1 N))) i=if N=i then a6 (.arr u w xs)else if i=id then a7 else cZ c.hp i:=fun i=>by
     rw[uu,dG];split
     .rfl
     .rename_i aA
      rw[je (fun i=> !(Nat.beq i id||Nat.beq i N))];have g:Nat.beq i N=false:=Bool.eq_false_iff.2 fun h=>aA (ah h).symm;simp_all [Bool.eq_false_iff]
    generalize hH:jT ((N,.arr u w xs)::c.hp.filter fun e=> !(Nat.beq e.1 id||Nat.beq e.1 N))=H at*;generalize G:({c with mu:=Go.Proofs.YtlhpdcadgbjhiaaGreatDoor.upd c.mu N (c.mu id),hp:=H}:Cx)=v;have S:v.hp=H:=by rw[<-G]
    have E:v.w=c.w:=by rw[<-G]
    have ao:v.nxt=c.nxt:=by rw[<-G]
    have Y:v.mks=c.mks:=by rw[<-G]
    have au:v.bar=c.bar:=by rw[<-G]
    have av:v.mu N=c.mu id:=by rw[<-G];exact upd_same ..
    have O: ∀i,i≠N->v.mu i=c.mu i:=fun i B=>by rw[<-G];simp[Go.Proofs.YtlhpdcadgbjhiaaGreatDoor.upd,B]
    have aw: ∀b,(∃i o,cZ v.hp i=a6 o/\o.blk (v.mu i)=a6 b)-> ∃i o,cZ c.hp i=a6 o/\o.blk (c.mu i)=a6 b:=fun b ⟨i,o,g,y⟩=>by
     grind
    have ax: ∀b,c.out b->v.out b:=fun b d=>⟨by rw[E];exact d.1,fun h=>d.2.1 (aw b h),by rw[Y];exact d.2.2⟩;have aB: ∀b,c.free b->v.free b/\v.w.heap[b]? =c.w.heap[b]? :=fun b d=>⟨⟨by rw[E];exact d.1,fun h=>d.2.1 (aw b h),by rw[Y,au];exact d.2.2⟩,by rw[E]⟩;have keeps: ∀l:List Nat,(∀i∈l,i≠id/\i≠N)->c.Keeps v l:=fun l hl=>by
     refine⟨aB,fun i B hk=> ?_,fun i B o' x=> ?_⟩
     .rcases hk with ⟨o,x⟩|hk
      .left
       grind
      .right;rw[ao];exact hk
     .rw[S,X,aq (fun e=>(hl i B).2 e.symm),aq (hl i B).1]at x;refine⟨o',x, ?_⟩;rw[O i (hl i B).2];exact o'.like_refl _
    have aF: ∀i o,i≠id->i≠N->cZ c.hp i=a6 o->(i,o)∈c.hp.filter fun e=> !(Nat.beq e.1 id||Nat.beq e.1 N):=fun i o B aG x=>List.mem_filter.2 ⟨ut _ _ _ x,by
     have g:Nat.beq i N=false:=Bool.eq_false_iff.2 fun h=>aG (ah h);have y:Nat.beq i id=false:=Bool.eq_false_iff.2 fun h=>B (ah h);simp_all⟩
    have aH:v.Ok W0:=by
     refine⟨by rw[E];exact hr.ok.bel,fun i o x=> ?_,fun i j o q b g y A D=> ?_,fun r bt=>by rw[E];exact hr.ok.mks r (by simp_all),fun b d=>ax b (hr.ok.bar b (by simp_all)),hr.ok.phi⟩
     .rw[S,X]at x;split at x
      .rename_i e;subst e;cases x
       obtain⟨aI,e,zs,cb,hL,aJ⟩:=hr.ok.obj id _ M;refine⟨aI,e,zs, ?_, ?_,aJ⟩
       .simp_all
       grind [dX.mono,dM.mono]
      .rename_i e
       split at x
       .cases x
       .rename_i I
        have J:=hr.ok.obj i o x;have hm:=aF i o I (fun q=>e q.symm) x;have hk:=fun j hj=>an j (List.mem_append_right _ (xR _ _ hm j hj));have ay:=O i (fun q=>e q.symm);cases o with
        |box e cs=>
         obtain⟨g,vs,y,A,D⟩:=J;refine⟨by rw[ay];exact g,vs,by simp_all,bg.keeps _ _ (keeps _ hk) A,D⟩
        |arr t ag xs=>
         obtain⟨J,e,zs,g,y,A⟩:=J;refine⟨J,e,zs,by simp_all, ?_,A⟩
         grind [dX.mono,dM.mono]
        |lp f Z ps iK bd ky n p=>
         obtain⟨J,g,L,y,A,D⟩:=J;refine⟨J,by rw[ay];exact g,L,by simp_all,bg.keeps _ _ (keeps _ hk) A,D⟩
        |dead=>trivial
        |mp kk vk es=>
         simp_all [Cx.ORel]
     .rw[S,X]at g y;split at g<;>split at y
      .omega
      .rename_i U I
       split at y
       .cases y
       .rename_i e3
        subst U;cases g;rw[av]at A;rw[O j (fun q=>I q.symm)]at D;exact absurd (hr.ok.inj id j _ q b M y A D).symm e3
      .rename_i U I
       split at g
       .cases g
       .rename_i e3
        subst I;cases y;rw[av]at D;rw[O i (fun q=>U q.symm)]at A;exact absurd (hr.ok.inj i id o _ b g M A D) e3
      .rename_i U I
       split at g
       .cases g
       .split at y
        .cases y
        .rw[O i (fun q=>U q.symm)]at A;rw[O j (fun q=>I q.symm)]at D;exact hr.ok.inj i j o q b g y A D
    have aK:bg c (Z.set s .undef) a.tmps.toList:=bg.setL _ _ _ hr.fr fun _=>by simp[bu]
    have kl:=keeps _ an;have aO:=bg.keeps _ _ kl.left.left aK;have gX:=bg.setL (z:=.slc N ag a7) s _ _ aO fun V=>by
     have hv:=ad V;simp only[bu]at hv ⊢;refine⟨hv.1,.inl ⟨_,by rw[S,X,am rfl]⟩,fun t' u' cc cd=> ?_⟩
     grind
    rw[List.set_set]at gX;exact⟨v,⟨by rw[S],ao,aH,gX,zD.keeps _ _ kl.left.right hr.stk,by rw[Y];exact hr.df,by rw[E];exact hr.rd⟩,
     ⟨fun _ h=>by rw[Y];exact h,fun b L h=>⟨L,by rw[E];exact h⟩,by simp_all,au,fun b d=>⟨ax b d,by rw[E]⟩⟩,E⟩
   .cases h
 .rename_i id W
  rw[cond_eq_ite]at h;split at h
  .cases h;exact hr.sorted
  .rename_i K
   have K:id≠N:=fun e=>K (by simp[e]);split at h
   .rename_i u xs M
    obtain⟨d,h⟩:=bK h;simp only[af]at d;cases h;exact aa5 hr W M K d.1 d.2
   .cases h
 .cases x:vC s t st with
  |none=>simp_all
  |some ch=>
   rw[x]at h;cases h;obtain⟨c1,aP,aQ,aS⟩:=JV hr x;obtain⟨v,aU,aV,aX⟩:=aP.sorted;exact⟨v,aU,aQ.trans aV,aX.trans aS⟩
theorem PX {s:Nat} {t:Ty} {l:List (Nat×Ty)} {st d:St} (h:iT ((s,t)::l) st=a6 d):(∃t' st1,Aj s t' st=a6 st1/\iT l st1=a6 d)\/(∃t' st1,KH (s/100) (s %100) t' st=a6 st1/\iT l st1=a6 d)\/(∃t' st1,KQ s t' st=a6 st1/\iT l st1=a6 d)\/ ∃st1,vC s t st=a6 st1/\iT l st1=a6 d:=by
 have own:(match vC s t st with|some st=>iT l st|none=>a7)=a6 d-> ∃st1,vC s t st=a6 st1/\iT l st1=a6 d:=fun h=>by
  grind
 cases t with
 |pair x y=>
  cases x with
  |unit=>
   grind [iT]
  |list z=>
   cases z with
   |unit=>
    grind [iT]
   |bool=>
    grind [iT]
   |_=>right;right;right;exact own h
  |_=>right;right;right;exact own h
 |_=>right;right;right;exact own h
theorem oM: ∀(l:List (Nat×Ty)) {c:Cx} {st:St},gI W0 b0 rd c st a ats-> ∀{u:St},iT l st=a6 u-> ∃c',gI W0 b0 rd c' u a ats/\c.Mono c'/\c'.w=c.w
 |[],c,st,hr,u,h=>by cases h;exact⟨c,hr,Cx.Mono.refl c,rfl⟩
 |(s,t)::l,c,st,hr,u,h=>by
  rcases PX h with ⟨y,v,d,e⟩|⟨y,v,d,e⟩|⟨y,v,d,e⟩|⟨v,d,e⟩
  .obtain⟨x,f,g,i⟩:=FY hr d;obtain⟨j,o,p,q⟩:=oM l f e;exact⟨j,o,g.trans p,q.trans i⟩
  .obtain⟨x,f,g,i⟩:=Yz hr d;obtain⟨j,o,p,q⟩:=oM l f e;exact⟨j,o,g.trans p,q.trans i⟩
  .obtain⟨x,f,g,i⟩:=YJ hr d;obtain⟨j,o,p,q⟩:=oM l f e;exact⟨j,o,g.trans p,q.trans i⟩
  .obtain⟨x,f,g,i⟩:=JV hr d;obtain⟨j,o,p,q⟩:=oM l f e;exact⟨j,o,g.trans p,q.trans i⟩
theorem nC (hr:gI W0 b0 rd c st a ats) {y:List Nat} {g:List (Nat×Ty)} {d:St} (h:Hm y g st=a6 d): ∃c',gI W0 b0 rd c' d a ats/\c.Mono c'/\c'.w=c.w:=by
 have i:gI W0 b0 rd c {st with fr:=Dv y 0 st.fr} a ats:=⟨hr.hp,hr.nxt,hr.ok,xH 0 _ _ hr.fr,hr.stk,hr.df,hr.rd⟩;have go: ∀{e:Cx} {j:St},gI W0 b0 rd e j a ats->(match iT g j with
   |some st=>match gc (1000000*st.stk.length) .undef st with
    |some st=>a6 (Sm st)
    |none=>a7
   |none=>a7)=a6 d-> ∃c',gI W0 b0 rd c' d a ats/\e.Mono c'/\c'.w=e.w:=fun {e j} i h=>by
  split at h
  .rename_i A f
   obtain⟨B,l,o,p⟩:=oM g i f;split at h
   .rename_i K D
    cases h;obtain⟨z,q,_,s,x,_,_⟩:=l.gc (v:=.undef) (u:=undef) (by simp[bu]) D;obtain⟨E,G,I,J⟩:=q.anew;exact⟨E,G,(o.trans s).trans I,J.trans (x.trans p)⟩
   .cases h
  .cases h
 unfold Hm at h;split at h
 .rename_i A f
  split at f
  .grind
  .obtain⟨B,l,_,o,p,_,_⟩:=i.gc (v:=.undef) (u:=undef) (by simp[bu]) f;obtain⟨z,q,s,x⟩:=go l h;exact⟨z,q,o.trans s,x.trans p⟩
 .cases h
theorem wB: ∀(l:List (Nat×Ty)) {c:Cx} {st:St},gI W0 b0 rd c st a ats-> ∀{d:St},xE l st=a6 d-> ∃c',gI W0 b0 rd c' d a ats/\c.Mono c'/\c'.w=c.w
 |[],c,st,hr,d,h=>by cases h;exact⟨c,hr,Cx.Mono.refl c,rfl⟩
 |(s,t)::l,c,st,hr,d,h=>by
  simp only[xE]at h;split at h
  .rename_i u e
   obtain⟨v,f,g,i⟩:=FY hr e;obtain⟨j,o,p,q⟩:=wB l f h;exact⟨j,o,g.trans p,q.trans i⟩
  .cases h
theorem RQ (hr:gI W0 b0 rd c st a ats) {k:dW} {d:St} (h:alz k st=a6 d): ∃c',gI W0 b0 rd c' d a ats/\c.Mono c'/\c'.w=c.w:=by
 simp only[alz]at h;split at h
 .rename_i A e
  have f:gI W0 b0 rd c {st with fr:=Dv k.rets 0 st.fr} a ats:=⟨hr.hp,hr.nxt,hr.ok,xH 0 _ _ hr.fr,hr.stk,hr.df,hr.rd⟩;obtain⟨B,g,i,j⟩:=wB k.give f e;split at h
  .rename_i D l
   cases h;obtain⟨E,o,_,p,q,_,_⟩:=g.gc (v:=.undef) (u:=undef) (by simp[bu]) l;obtain⟨s,x,y,z⟩:=o.anew;exact⟨s,x,(i.trans p).trans y,z.trans (q.trans j)⟩
  .cases h
 .cases h
end
end
section
open Option renaming some → a6, none → a7
open Bool renaming and_eq_true → af, false_eq_true → ag
open List renaming mem_cons_of_mem → ak
open Nat renaming le_refl → ae, lt_or_ge → aJ
open Go.RowKit
def lC {R:Type} (P:Program) (call:eF R):Prop:=
 ∀(W0:World) (b0:Nat) (rd:Option Nat) (j:bn) (l:List bn) (p:Option Nat) (st:St) (K:bn->St->Option R) (r:R),call j l p st K=a6 r->
  ∀(c:Cx) (a:Act) (ats:List (Array Value)) (h:Value) (i:Array Value),gI W0 b0 rd c st a ats->bu c j h->bg c l i.toList->
   ∃z v,K z st=a6 r/\bu c z v/\ ∀f,Dh c f->(∃g o,(do let d<-Deferred.ofValue h i;invoke d.target d.args:Sem Next).run P f=.ok (.enter g o) f/\
    Calls P g o f (fun e q=>e=.returned v/\Dh c q))\/(do let d<-Deferred.ofValue h i;invoke d.target d.args:Sem Next).run P f=.ok (.value v) f
section
variable {P:Program} {T:TT} {W0:World} {b0 n:Nat} {rd:Option Nat} {c:Cx} {R:Type} {r:R} {st:St} {a:Act} {ats:List (Array Value)}
theorem gI.ext (h:gI W0 b0 rd c st a ats) {w:World} (e:Dh c w):gI W0 b0 rd (c.at_ w) st a ats:=by
 have d:=Cx.Le.ext e;exact⟨h.hp,h.nxt,h.ok.ext e,bg.le d _ _ h.fr,zD.le d _ _ h.stk,let⟨f,g,i,j⟩:=h.df;⟨f,g,i,j⟩,fun l hl=>let⟨L,o⟩:=h.rd l hl;d.lp l L o⟩
theorem Yx (hT:TOk P T) {cl:Bool} {call:eF R} (J:lC P call) {o:Oper} (B:iY o.op=true) {K:bn->St->Option R} (h:dH T cl call o st K=a6 r) (hr:gI W0 b0 rd c st a ats):
  ∃z v,K z st=a6 r/\bu c z v/\ ∀w',Dh c w'->o.quietAtIn (FW rd) n P a (Dh c) w' v:=by
 by_cases hq2:gq o.op=true
 .obtain⟨z,u,i,j,l⟩:=xQ hT hr.ok hq2 hr.hp hr.fr h;refine⟨z,u,i,j,fun w' p=> ?_⟩;unfold Oper.quietAtIn;rw[l w' p];exact⟨rfl,rfl⟩
 .obtain⟨q,L,D,E,G,I⟩:=o;cases L<;>simp only[iY,ag]at B<;>(try (exact absurd rfl hq2))
  case call cc=>
   obtain⟨s,d,e⟩:=cc;cases s with
   |builtin b=>cases b<;>simp only[ag]at B<;>exact absurd rfl hq2
   |invoke x m=>simp_all
   |value f=>
    simp only[dH]at h;obtain⟨z,v,i,j,l⟩:=J W0 b0 rd _ _ q st K r h c a ats (a.eval f) (d.map a.eval) hr (dh hr.fr f) (by
     have:=bg.map_eval (c:=c) hr.fr d.toList;simpa using this)
    refine⟨z,v,i,j,fun w' p=> ?_⟩;unfold Oper.quietAtIn;rcases l w' p with ⟨g,M,y,N⟩|y
    .have A:(execOp a.eval ⟨q,.call {callee:=.value f,args:=d,argTypes:=e},D,E,G,I⟩).run P w'=.ok (.enter g M) w':=y;rw[A];exact⟨rfl,mO rd,(callsIn_wide (n:=n-1)).2 N⟩
    .have A:(execOp a.eval ⟨q,.call {callee:=.value f,args:=d,argTypes:=e},D,E,G,I⟩).run P w'=.ok (.value v) w':=y;rw[A];exact⟨rfl,rfl⟩
theorem IA (hT:TOk P T) {cl:Bool} {call:eF R} (s:lC P call) (ops:Array Oper) {K:St->Option R}: ∀(l:List Oper) (st:St) (a:Act),(∀o∈l,iY o.op=true)->fU T cl call ops K l st=a6 r->gI W0 b0 rd c st a ats->
  wpQuietIn (FW rd) n P ops (Dh c) (fun i=> ∃e,K e=a6 r/\gI W0 b0 rd c e i ats) l a
 |[],st,a,u,h,hr=>by
  simp only[fU]at h;exact⟨st,h,hr⟩
 |o::l,st,a,u,h,hr=>by
  simp only[fU]at h;have D: ∀o∈l,iY o.op=true:=fun G I=>u G (ak _ I);have y: ∀(st:St) (a:Act),gI W0 b0 rd c st a ats->dH T cl call o st (fun v st=>fU T cl call ops K l (st.put o.dst v))=a6 r->
    o.quietIn (FW rd) n P a (Dh c) (wpQuietIn (FW rd) n P ops (Dh c) (fun i=> ∃e,K e=a6 r/\gI W0 b0 rd c e i ats) l):=fun st a hr h=>by
   obtain⟨z,v,p,J,L⟩:=Yx (n:=n) hT s (u o (by simp)) h hr;exact⟨v,L,IA hT s ops l _ _ D p (hr.put J)⟩
  have A: ∀(st:St),gI W0 b0 rd c st a ats->fU T cl call ops K l (st.put o.dst (.tup []))=a6 r->wpQuietIn (FW rd) n P ops (Dh c) (fun i=> ∃e,K e=a6 r/\gI W0 b0 rd c e i ats) l (a.put o.dst undef):=fun st hr h=>
   IA hT s ops l (st.put o.dst (.tup [])) (a.put o.dst undef) D h (hr.put (by simp only[bu];exact⟨#[],rfl,by simp[bg]⟩))
  simp only[wpQuietIn];refine⟨fun _ _ _ _=>trivial, ?_⟩;cases hg:o.guard with
  |none=>
   rw[hg]at h;rw[am (by simp[Region.wanted,hg])];exact y st a hr h
  |some M=>
   obtain⟨j,N⟩:=M;rw[hg]at h;simp only at h;split at h
   .cases h
   .rename_i d hd
    have f:=ET ops j d hd a.tmps;have g:=hr.fr.getD d;split at h
    .rename_i b B
     rw[B]at g;simp only[bu]at g;have O:=g.bool_inv;have V:d<a.tmps.size:=by
      rcases aJ d a.tmps.size with p|p
      .exact p
      simp_all [undef]
     have E:a.tmps[d]? =a6 (.bool b):=by
      simp_all
     rw[E]at f;simp only at f;have S:a.put (a6 d) (.bool b)=a:=by
      simp only[Act.put];obtain⟨W,X⟩:=Array.getElem?_eq_some_iff.1 E;have:a.tmps.setIfInBounds d (.bool b)=a.tmps:=by
       grind
      rw[this]
     have q:gI W0 b0 rd c (st.put (a6 d) (.val .bool b)) a ats:=by
      have:=hr.put (dst:=a6 d) (z:=.val .bool b) (v:=.bool b) (by simp_all [bu]);rwa [S]at this
     cases b<;>cases N<;>(try simp only[aa,ac]at h)
     .rw[am (by simp[Region.wanted,hg,f])];exact y _ a q h
     .rw[aq (by simp[Region.wanted,hg,f])];exact A _ q h
     .rw[aq (by simp[Region.wanted,hg,f])];exact A _ q h
     .rw[am (by simp[Region.wanted,hg,f])];exact y _ a q h
    .rename_i B
     rw[B]at g;simp only[bu]at g;obtain⟨Y,O,_⟩:=g;have U:yielded ops a.tmps j=a7:=by
      rw[f];cases he:a.tmps[d]? with
      |none=>rfl
      |some x=>
       simp_all
     rw[aq (by simp[Region.wanted,hg,U])];exact A st hr h
    .cases h
section
variable {ops:Array Oper} {md:Region.Mode} {C:World->Prop} {F:Fence}
theorem Pn {o:Oper} (hd:oG o.op=false) {a:Act} {K:Act->Prop} {g:Act->World->Prop} {j:Exit->Act->World->Prop} {w:World} (i:C w) (h: ∀a w',C w'->K a->g a w')
  (l:o.askedIn F P a C) (p:o.quietIn F n P a C K):o.wpIn F n P a w g j:=by
 obtain⟨v,q,z⟩:=p;have d:=q w i;unfold Oper.quietAtIn at d;unfold Oper.wpIn;refine⟨l w i, ?_⟩;rw[uF hd];generalize (execOp a.eval o).run P w=r at*;cases r with
 |ok x w'=>
  cases x<;>simp only[Oper.quietUponIn]at d<;>simp only[Oper.uponIn]
  case value u=>
   simp_all
  case skip=>
   simp_all
  case enter f args=>
   obtain⟨s,hd,y⟩:=d;rw[s];exact⟨hd,y.mono fun e A ⟨B,D⟩=>by simp_all⟩
 |halt x w'=>simp only[Oper.quietUponIn]at d
theorem Jh {i:Nat} (hd: ∀(i:Nat) (o:Oper),ops[i]? =a6 o->oG o.op=false) {a:Act} {K:Act->Prop} {f:Act->World->Prop} {j:Exit->Act->World->Prop} {w:World} (g:C w) (h: ∀a w',C w'->K a->f a w')
  (d:qOpIn F n P ops C i K a):wpOpIn F n P ops j i f a w:=by
 unfold qOpIn at d;unfold wpOpIn;split
 .simp_all
 .rename_i o l
  simp only[l]at d;obtain⟨p,d⟩:=d;split
  .rename_i e;simp only[e,if_true]at d;grind [Pn]
  .rename_i e;simp only[e]at d;exact⟨p w g,h _ _ g d⟩
theorem wu {Q:Act->Prop} {g:Exit->Act->World->Prop} (hd: ∀(i:Nat) (o:Oper),ops[i]? =a6 o->oG o.op=false) (f: ∀a w,C w->Q a->g .normal a w): ∀(d:Nat) (j:Array Bool) (a:Act) (w:World),C w->
  wpAnyQIn F n P md ops C Q d j a->wpAnyIn F n P md ops g d j a w
 |0,_,_,_,e,h=>⟨h.1,f _ _ e h.2⟩
 |d+1,_,_,_,e,h=>⟨fun l=>f _ _ e (h.1 l),fun i p=>Jh hd e (fun q s u=>wu hd f d _ q s u) (h.2 i p)⟩
theorem ES {id:Nat} {Q:Exit->Act->World->Prop} {a:Act} {w:World} (hd: ∀(i:Nat) (o:Oper),ops[i]? =a6 o->oG o.op=false) (f:P.follows .mixedOrders=true) (d:Region.lexB .any ops=true) (g:C {w with drawn:=w.drawn+1})
  (h:wpQuietIn F n P ops C (fun e=> ∀w',C w'->Q .normal e w') ops.toList a):(Code.region id ops true).wpIn F n P Q a w:=by
 simp only[Region.lexB,af]at d;refine wpIn_region_any f (wu (Q:=fun e=> ∀w',C w'->Q .normal e w') hd (fun _ w' j h=>h w' j) _ _ _ _ g ?_);have:=wpAnyQIn_lex (F:=F) (n:=n) (C:=C) (md:=.any) d.1 ops.toList 0 (Array.replicate ops.size false) a (by simp) (by simpa using d.2) h;simpa using this
end
theorem uO {F:Fence} {ops:Array Oper} {C:World->Prop} {Q g:Act->Prop} (h: ∀a,Q a->g a): ∀(l:List Oper) (a:Act),wpQuietIn F n P ops C Q l a->wpQuietIn F n P ops C g l a
 |[],a,d=>h a d
 |o::l,a,d=>by
  simp only[wpQuietIn]at d ⊢;refine⟨d.1, ?_⟩;have e:=d.2;split
  .rename_i f
   rw[am f]at e;exact Oper.quietIn_mono (uO h l) e
  .rename_i f
   rw[aq f]at e;exact uO h l _ e
theorem P5 {d:Op} (h:iY d=true):oG d=false:=by cases d<;>first|rfl|(simp[iY]at h)
theorem Jl (hT:TOk P T) (l:P.follows .mixedOrders=true) {cl:Bool} {call:eF R} (p:lC P call) {id:Nat} {ops:Array Oper} (f:GN ops=true) {K:St->Option R} {Q:Exit->Act->World->Prop}
  (h:fU T cl call ops K ops.toList st=a6 r) (hr:gI W0 b0 rd c st a ats) (q: ∀c' d e,K d=a6 r->gI W0 b0 rd c' d e ats->c.Mono c'->Q .normal e c'.w):
  (Code.region id ops true).wpIn (FW rd) n P Q a c.w:=by
 simp only[GN,af]at f;have g: ∀o∈ops.toList,iY o.op=true:=List.all_eq_true.1 f.1;refine ES (C:=Dh c) (fun i o y=>P5 (g o (by grind))) l f.2 ⟨rfl,rfl,rfl,ae _,fun _ _=>rfl⟩ ?_;refine uO (fun e s u j=> ?_) _ _ (IA (n:=n) hT p ops ops.toList st a g h hr);obtain⟨d,v,x⟩:=s;exact q (c.at_ u) d e v (x.ext j) (Cx.Le.ext j).mono
end
end
section
open Option renaming some → a6, none → a7
open Bool renaming and_eq_true → af, false_eq_true → ag
open List renaming map_cons → au
open Nat renaming le_refl → ae
open Go.RowKit
section
variable {P:Program} {T:TT} {W0:World} {b0 n:Nat} {rd:Option Nat} {c:Cx} {R:Type} {r:R} {st:St} {a:Act} {ats:List (Array Value)} {t:TypeId}
theorem anV (hT:TOk P T) (V:c.Ok W0) {cl:Bool} {call:eF R} {o:Oper} {st:St} {a:Act} {K:bn->St->Option R} (N:EF o.op=true) (J:c.hp=st.hp) (p:bg c st.fr a.tmps.toList)
  (h:dH T cl call o st K=a6 r): ∃z u,K z st=a6 r/\bu c z u/\ ∀w',(execOp a.eval o).run P w'=.ok (.value u) w':=by
 have I: ∀{s:Sem Value} {u:Value} {w':World},s.run P w'=.ok u w'->(do pure (Next.value (<-s)):Sem Next).run P w'=.ok (.value u) w':=fun W=>by
  simp[Sem.run_bind,W]
 obtain⟨ax,X,ty,ay,az,aA⟩:=o;simp only at N;cases X<;>simp only[EF,ag]at N
 case move x=>exact⟨_,_,h,dh p x,fun w'=>rfl⟩
 case assign x=>exact⟨_,_,h,dh p x,fun w'=>rfl⟩
 case pick x y z=>
  simp only[dH]at h;have Y:=dh p x;split at h
  .rename_i b B
   rw[B]at Y;simp only[bu]at Y;have ad:=Y.bool_inv;cases b
   .exact⟨_,_,h,dh p z,fun w'=>by simp[execOp,ad,asBool]⟩
   .exact⟨_,_,h,dh p y,fun w'=>by simp[execOp,ad,asBool]⟩
  .cases h
 case nilCheck x=>
  simp only[dH]at h;have d:=dh p x;split at h
  .rename_i id ak L
   rw[L]at d;split at h
   .rename_i bt cs ah
    have O:=d;simp only[bu]at d;rw[<-J]at ah;have E:=d.2.2 _ _ ah;exact⟨_,_,h,O,fun w'=>by simp[execOp,E]⟩
   .cases h
  .rename_i y e L
   rw[L]at d;have O:=d;simp only[bu]at d;obtain⟨b,o,zs,E,_⟩:=d;exact⟨_,_,h,O,fun w'=>by simp[execOp,E]⟩
  .rename_i id an i ak L
   rw[L]at d;split at h
   .rename_i e u xs ai
    replace h:=bK h;obtain⟨G,h⟩:=h;have G:u=an:=by simpa using G
    subst G;have O:=d;simp only[bu]at d;rw[<-J]at ai;obtain⟨g,n,cp,_,E⟩:=(d.2.2 _ _ _ ai).2 rfl;exact⟨_,_,h,O,fun w'=>by simp[execOp,E]⟩
   .cases h
  .cases h
 case binOp X t x y yt=>
  simp only[dH]at h;rw[<-J]at h;obtain⟨z,u,j,q,A⟩:=aj7 (P:=P) (ox:=x) (oy:=y) (K:=fun v=>K v st) hT V h (dh p x) (dh p y);exact⟨z,u,j,q,fun w'=>I (A w')⟩
 case unOp X t x=>
  simp only[dH]at h;obtain⟨z,u,j,q,A⟩:=atx (P:=P) (K:=fun v=>K v st) h (dh p x);exact⟨z,u,j,q,fun w'=>I (A w')⟩
 case slice t x lo hi mx=>
  simp only[dH]at h;rw[<-J]at h;obtain⟨z,u,j,q,A⟩:=ac2 (P:=P) (K:=fun v=>K v st) hT V h (dh p x) (jZ.map p lo) (jZ.map p hi) (jZ.map p mx);exact⟨z,u,j,q,fun w'=>I (A w')⟩
 case fieldAddr t x f=>
  simp only[dH]at h;rw[<-J]at h;obtain⟨z,u,j,q,A⟩:=JX (P:=P) (K:=fun v=>K v st) hT h (dh p x);exact⟨z,u,j,q,fun w'=>I (A w')⟩
 case field t x f=>
  simp only[dH]at h;obtain⟨z,u,j,q,A⟩:=ac0 (P:=P) (K:=fun v=>K v st) hT h (dh p x);exact⟨z,u,j,q,fun w'=>I (A w')⟩
 case indexAddr t x i=>
  simp only[dH]at h;rw[<-J]at h;obtain⟨z,u,j,q,A⟩:=JY (P:=P) (K:=fun v=>K v st) hT V h (dh p x) (dh p i);exact⟨z,u,j,q,fun w'=>I (A w')⟩
 case index t x i=>
  simp only[dH]at h;split at h
  .rename_i s n W Z
   replace h:=eu h;obtain⟨j,h⟩:=h;have d:=dh p x;rw[W]at d;obtain⟨q,A⟩:=ac1 (P:=P) hT d (dh p i) Z j;exact⟨_,_,h,q,fun w'=>I (A w')⟩
  .cases h
 case extract x n=>
  simp only[dH]at h;have d:=dh p x;split at h
  .rename_i l hl
   rw[hl]at d;split at h
   .rename_i v E
    simp only[bu]at d;obtain⟨vs,L,aj⟩:=d;obtain⟨Z,E⟩:=List.getElem?_eq_some_iff.1 E;have ao:=bg.length _ _ aj;simp at ao;have j:=bg.get _ _ aj n Z (by simp;omega);rw[E]at j;simp only[Array.getElem_toList]at j;refine⟨_,_,h,j,fun w'=>I ?_⟩;rw[L];have:vs[n]? =a6 vs[n]:=Array.getElem?_eq_getElem (by omega);simp[Instr.extract,this]
   .cases h
  .cases h
 case call cc=>
  obtain⟨aB,S,av⟩:=cc;simp only at N;have D:=bg.map_eval (c:=c) p S.toList;split at N
  all_goals try (cases N;done)
  .
   simp only[dH,jo]at h;split at h<;>try (cases h;done)
   .rename_i x B d
    split at h<;>try (cases h;done)
    rename_i t ht
    rw[<-J]at h;obtain⟨M,aw⟩: ∃M,S= #[M]:=by
     obtain⟨l⟩:=S
     match l,d with
     |[M],_=>exact⟨M,rfl⟩
    subst aw;obtain⟨t0⟩:=av;simp only at ht;subst ht;simp only[au,List.map_nil,List.cons.injEq,and_true]at d;subst d;obtain⟨z,u,j,q,A⟩:=q_len (P:=P) (K:=fun v=>K v st) hT V h (dh p M) (ty:=ty);exact⟨z,u,j,q,fun w'=>by simp[execOp,resolve,invoke,builtin,Sem.run_bind,A w']⟩
   all_goals (rename_i B _;cases B)
  .
   simp only[dH,jo]at h;split at h<;>try (cases h;done)
   all_goals try (rename_i B _;cases B;done)
   rename_i k n l B d
   split at h<;>try (cases h;done)
   rename_i ns ab
   rw[d]at D;obtain⟨U⟩:=S;cases U with
   |nil=>simp[bg]at D
   |cons M U=>
    simp only[au,bg]at D;have G:=D.1;simp only[bu]at G;have j:=G.int_inv;have q:=qI _ _ _ ab D.2;exact⟨_,_,h,by simp only[bu];exact VD.int_mk,fun w'=>by simp[execOp,resolve,invoke,builtin,Sem.run_bind,Builtin.min_,j,q,OD]⟩
  .
   simp only[dH,jo]at h;split at h<;>try (cases h;done)
   all_goals try (rename_i B _;cases B;done)
   rename_i k n l B d
   split at h<;>try (cases h;done)
   rename_i ns ab
   rw[d]at D;obtain⟨U⟩:=S;cases U with
   |nil=>simp[bg]at D
   |cons M U=>
    simp only[au,bg]at D;have G:=D.1;simp only[bu]at G;have j:=G.int_inv;have q:=qI _ _ _ ab D.2;exact⟨_,_,h,by simp only[bu];exact VD.int_mk,fun w'=>by simp[execOp,resolve,invoke,builtin,Sem.run_bind,Builtin.max_,j,q,OC]⟩
def gW {e:Type} (x:Sem e):Prop:= ∀P w v d,x.run P w=.ok v d->Below w.heap.size w d
theorem gW.pure {d:Type} (v:d):gW (pure v:Sem d):=fun P w v e h=>by simp_all [Below.refl]
theorem gW.looks {d:Type} {x:Sem d} (h:x.Looks):gW x:=fun P w v e hr=>by rw[h.ok hr];exact Below.refl _ _
theorem gW.bind {g j:Type} {x:Sem g} {f:g->Sem j} (hx:gW x) (hf: ∀a,gW (f a)):gW (x>>=f):=fun P w v l h=>by
 rw[Sem.run_bind]at h;cases hr:x.run P w with
 |halt e d=>simp_all
 |ok u d=>
  rw[hr,Result.andThen_ok]at h;have i:=hx P w u d hr;exact i.trans ((hf u P d v l h).mono i.size)
theorem gW.never {d:Type} {x:Sem d} (h: ∀P w v w',x.run P w≠ .ok v w'):gW x:=fun P w v w' hr=>absurd hr (h P w v w')
theorem gW.new (o:Obj):gW (newObj o):=fun P w v d h=>by
 have e:(newObj o).run P w=.ok w.heap.size (w.alloc o):=rfl;rw[e]at h;cases h;exact(Below.refl _ _).alloc (ae _) o
theorem sD (t:TypeId):gW (underlying t):=.looks (underlying_looks t)
theorem aak (t:TypeId):gW (typeInfo t):=.looks (typeInfo_looks t)
theorem Ns (t:TypeId):gW (sizeOf t):=.looks (sizeOf_looks t)
theorem nG {d:Type} (s:String):gW (stuck s:Sem d):=.looks (stuck_looks s)
theorem Dp {d:Type} (u:Unsupported):gW (unsupported u:Sem d):=.looks (unsupported_looks u)
theorem ab9 (t:TypeId):gW (isAgg t):=by
 unfold isAgg;refine(sD t).bind fun d=> ?_;split<;>exact .pure _
theorem Xt (t:TypeId):gW (zeroValue t):=by
 unfold zeroValue;refine(aak t).bind fun d=> ?_;split
 .exact .pure _
 .exact Dp _
theorem aaj (v:Value):gW (Instr.sureAddr v):=by
 unfold Instr.sureAddr;split
 .exact .pure _
 .exact nG _
theorem aeW (t:TypeId) (a:Addr):gW (loadVar t a):=by
 unfold loadVar;refine(ab9 t).bind fun d=> ?_;split
 .exact(Ns t).bind fun k=>(gW.looks (loadCells_looks a k)).bind fun _=>.pure _
 .exact .looks (load_looks _ _)
theorem aeU (v:Value):gW (asIntOf v):=by
 unfold asIntOf;split
 .exact .pure _
 .exact Dp _
 .exact nG _
theorem ain (v:Value):gW (asBool v):=by
 unfold asBool;split
 .exact .pure _
 .exact nG _
theorem N7 {d g:Type} {x:Sem d} {f:d->Sem g} (hf: ∀a P w v w',(f a).run P w≠ .ok v w'): ∀P w v w',(x>>=f).run P w≠ .ok v w':=fun P w v w' h=>by
 rw[Sem.run_bind]at h;cases hr:x.run P w with
 |halt e i=>simp_all
 |ok u i=>simp_all
theorem PP {d:Type} (v:Value): ∀P w u w',(goPanic v:Sem d).run P w≠ .ok u w':=fun P w u w' h=>by cases h
theorem Em {d:Type} (e:RuntimeError): ∀P w u w',(runtimePanic e:Sem d).run P w≠ .ok u w':=by
 grind [runtimePanic,N7,PP]
theorem PE {d:Type} (k:IntKind) (x y:Int) (code:BoundsCode):gW (boundsPanic k x y code:Sem d):=by
 unfold boundsPanic;dsimp only;split<;>exact .never (N7 fun _=>Em _)
theorem Xq (e:TypeId) (cs:Array Value):gW (newRow e cs):=by
 unfold newRow;exact(gW.new _).bind fun _=>.pure _
theorem apV (t:TypeId) (cs:Array Value) (off:Nat):gW (part t cs off):=by
 unfold part;refine(ab9 t).bind fun b=> ?_;split
 .exact(Ns t).bind fun _=>.pure _
 .split
  .exact .pure _
  .exact nG _
theorem aip (t:TypeId) (v:Value):gW (Instr.loadAt t v):=by
 unfold Instr.loadAt;exact(aaj v).bind fun a=>aeW t a
theorem aeV (t:Value) (i:Nat):gW (Instr.extract t i):=by
 unfold Instr.extract;split
 .split
  .exact .pure _
  .exact nG _
 .exact nG _
theorem aml (t:TypeId) (x i:Value):gW (Instr.index t x i):=by
 unfold Instr.index;refine(aeU i).bind fun e=> ?_;refine(sD t).bind fun d=> ?_
 repeat' first
  |exact PE _ _ _ _
  |exact nG _
  |exact .pure _
  |exact(Ns _).bind fun _=>apV _ _ _
  |split
  |dsimp only
theorem asQ (t:TypeId) (v:Value):gW (Instr.box t v):=by
 unfold Instr.box newVar;exact(Xq _ _).bind fun _=>.pure _
theorem amk (t:TypeId):gW (Instr.alloc t true (.tuple #[])):=by
 unfold Instr.alloc;refine(Xt t).bind fun z=> ?_;dsimp only;unfold newVar;exact(Xq _ _).bind fun _=>.pure _
theorem TG (r:Nat):(getObj r).Looks:=fun _=>trivial
theorem Xp (r:Nat):gW (getObj r):=.looks (TG r)
theorem amm (r:Nat):gW (Go.shape r):=.looks (fun _=>trivial)
theorem aiq (r:Nat):gW (viewAt r):=by
 unfold viewAt
 repeat' first
  |exact .pure _
  |exact amm _
  |exact Xp _
  |(refine gW.bind ?_ fun _=> ?_)
  |split
  |dsimp only
theorem aio (t:TypeId):gW (elemOf t):=by
 unfold elemOf;refine(sD t).bind fun d=> ?_;split
 .exact .pure _
 .exact nG _
theorem asT (d:Array TypeId) (ty:TypeId) (args:Array Value):gW (Builtin.len_ d ty args):=by
 unfold Builtin.len_
 repeat' first
  |exact .pure _
  |exact nG _
  |exact sD _
  |exact Xp _
  |(refine gW.bind ?_ fun _=> ?_)
  |split
  |dsimp only
theorem Xr (d:Array TypeId) (ty:TypeId) (args:Array Value):gW (Builtin.unsafeSliceData_ d ty args):=by
 obtain⟨l⟩:=args
 match l with
 |[]=>exact nG _
 |_::_::_=>exact nG _
 |[v]=>
  cases v with
  |slice a n c=>
   cases a with
   |none=>exact gW.pure _
   |some a=>
    have e:Builtin.unsafeSliceData_ d ty #[.slice (a6 a) n c]=(do
      if c≠0 then pure (.pointer (a6 a))
      else if(<-viewAt a.block).isSome then pure (.pointer (a6 a))
      else pure (.pointer (a6 ⟨<-newObj (.view a (<-elemOf ty)),0,a7⟩))):=rfl
    rw[e]
    repeat' first
     |exact .pure _
     |exact aiq _
     |exact aio _
     |exact gW.new _
     |(refine gW.bind ?_ fun _=> ?_)
     |split
     |dsimp only
  |_=>exact nG _
theorem aat {o:Oper} (hk:KD o.op=true) (d:Operand->Value) (P:Program) (w:World) (v:Next) (w':World) (h:(execOp d o).run P w=.ok v w'):(∃u,v=.value u)/\Below w.heap.size w w':=by
 have f: ∀{s:Sem Value},gW s->(do pure (Next.value (<-s)):Sem Next).run P w=.ok v w'->(∃u,v=.value u)/\Below w.heap.size w w':=fun {s} E h=>by
  rw[Sem.run_bind]at h;cases hr:s.run P w with
  |halt e G=>simp_all
  |ok u G=>
   rw[hr,Result.andThen_ok,Sem.run_pure]at h;cases h;exact⟨⟨u,rfl⟩,E P w u w' hr⟩
 obtain⟨l,I,g,p,q,A⟩:=o;simp only at hk;cases I<;>simp only[KD,ag]at hk
 case move x=>cases h;exact⟨⟨_,rfl⟩,Below.refl _ _⟩
 case assign x=>cases h;exact⟨⟨_,rfl⟩,Below.refl _ _⟩
 case pick x y z=>
  have e:execOp d ⟨l,.pick x y z,g,p,q,A⟩=(do pure (Next.value (<-(do pure (if<-asBool (d x)then d y else d z):Sem Value))):Sem Next):=by
   simp[execOp,bind_assoc]
  rw[e]at h;exact f ((ain _).bind fun _=>.pure _) h
 case load t x=>exact f (aip t (d x)) h
 case index t x i=>exact f (aml t (d x) (d i)) h
 case extract x i=>exact f (aeV (d x) i) h
 case box t x=>exact f (asQ t (d x)) h
 case alloc t=>exact f (amk t) h
 case call cc=>
  obtain⟨B,j,D⟩:=cc;cases B with
  |builtin b=>
   cases b<;>simp only[ag]at hk
   case len=>
    grind [execOp,builtin,resolve,invoke,asT]
   case unsafeSliceData=>
    have e:execOp d ⟨l,.call {callee:=.builtin .unsafeSliceData,args:=j,argTypes:=D},g,p,q,A⟩=(do pure (Next.value (<-Builtin.unsafeSliceData_ D g (j.map d))):Sem Next):=by
     rfl
    grind [Xr]
  |_=>simp at hk
theorem l9 {ops:Array Oper} (h:kU ops=true) (i:Nat) (o:Oper) (d:ops[i]? =a6 o):oG o.op=false/\ ∀cs b,o.op≠ .select cs b:=by
 have:=List.all_eq_true.1 h o (by grind)
 grind [oG]
def nD (P:Program) (ops:Array Oper) (C:World->Prop) (o:Oper) (v:Value) (a:Act):Prop:=
 (Region.wanted o (yielded ops a.tmps)=true/\ ∀w,C w->(execOp a.eval o).run P w=.ok (.value v) w)\/(Region.wanted o (yielded ops a.tmps)=false/\v=undef)
def RZ (P:Program) (C:World->Prop) (o:Oper):Prop:=(∀w,C w)\/ ∀e w v d,C w->(execOp e o).run P w=.ok v d->(∃u,v=.value u)/\C d
variable {ops:Array Oper} {C:World->Prop} {Q:Exit->Act->World->Prop}
theorem nD.of_same {o:Oper} {v:Value} {a d:Act} (h:nD P ops C o v a) (i:execOp d.eval o=execOp a.eval o)
  (f:Region.wanted o (yielded ops d.tmps)=Region.wanted o (yielded ops a.tmps)):nD P ops C o v d:=by
 rcases h with ⟨e,g⟩|⟨e,g⟩
 .exact .inl ⟨by rw[f];exact e,fun w j=>by simp_all⟩
 .exact .inr ⟨by rw[f];exact e,g⟩
theorem nD.wpOpIn {i:Nat} {o:Oper} {v:Value} {a:Act} (hd:kU ops=true) (hi:ops[i]? =a6 o) (e:nD P ops C o v a) {K:Act->World->Prop} {w:World} (f:C w) (h:K (a.put o.dst v) w):wpOpIn (FW rd) n P ops Q i K a w:=by
 unfold Go.wpOpIn;simp only[hi];rcases e with ⟨d,g⟩|⟨d,rfl⟩
 .rw[am d];refine⟨oz o w _, ?_⟩;rw[uF (l9 hd i o hi).1,g w f];exact h
 .rw[aq (by rw[d];simp)]
  grind [oz]
theorem Zn {j:Nat} {e g:Oper} {v:Value} (hd:kU ops=true) (hi: ∃i:Nat,ops[i]? =a6 e) (p:ops[j]? =a6 g) (A:e.apart ops g=true) (B:RZ P C g) (I: ∀c a w,¬Q (.panic c) a w) {K:Act->World->Prop} {a:Act} {w:World} (J:C w)
  (l:nD P ops C e v a) (h:wpOpIn (FW rd) n P ops Q j K (a.put e.dst v) w):wpOpIn (FW rd) n P ops Q j (fun q w'=>C w'/\nD P ops C e v q/\K (q.put e.dst v) w') a w:=by
 obtain⟨s,L,y⟩:=Oper.apart_spec A;obtain⟨i,hi⟩:=hi;have D:=(l9 hd i e hi).2;obtain⟨z,E⟩:=l9 hd j g p;have M: ∀(a:Act),nD P ops C e v a-> ∀u,nD P ops C e v (a.put g.dst u):=fun a l u=>l.of_same (execOp_put e D a g.dst u y) (wanted_put e a g.dst u y);unfold wpOpIn at*;simp only[p]at*;rw[wanted_put g a e.dst v s]at h;split
 .rename_i o
  rw[am o]at h;unfold Oper.wpIn at*;refine⟨oz g w _, ?_⟩;have h:=h.2;rw[uF z,execOp_put g E a e.dst v s]at h;rw[uF z];have hk:(∀w,C w)\/ ∀x w',(execOp a.eval g).run P w=.ok x w'->(∃u,x=.value u)/\C w':=by
   rcases B with hk|hk
   all_goals grind
  generalize (execOp a.eval g).run P w=r at*;cases r with
  |ok x w'=>
   have G:(∀w,C w)\/((∃u,x=.value u)/\C w'):=by
    simp_all
   cases x<;>simp only[Oper.uponIn]at h ⊢
   case value u=>
    grind [Act.put_comm]
   case skip=>
    grind [Act.put_comm]
   case defer d=>
    rcases G with hk|hk
    .have N: ∀d,nD P ops C e v {a with defers:=d::a.defers}:=fun d=>l.of_same rfl rfl
     grind [Act.put_comm,Act.put_defers]
    simp_all
   case enter f args=>
    grind [Act.put_comm]
   case row row args=>
    grind [Act.put_comm]
   grind [Act.put_comm]
  |halt x w'=>
   cases x<;>simp only[Oper.uponIn]at h ⊢;simp_all
 .rename_i o
  rw[aq o]at h
  grind [oz,Act.put_comm]
theorem Ir {l:List Nat} {i:Nat}:QP l i=true↔i∈l:=by
 simp_all [QP]
theorem BJ {i:Nat} {p:Oper} {v:Value} (hd:kU ops=true) (hi:ops[i]? =a6 p) (B: ∀c a w,¬Q (.panic c) a w) (D:List Nat) (E: ∀j∈D,j≠i->BI ops j D=true):
  ∀(q:Nat) (d:Array Bool) (a:Act) (w:World),C w->(∀j∈D,d.getD j true=false)->
   (∀j o,ops[j]? =a6 o->j∉D->d.getD j true=false->p.apart ops o=true/\RZ P C o)->i∈D->
   i∈Region.ready .any ops d->nD P ops C p v a->
   wpAnyIn (FW rd) n P .any ops Q q (d.setIfInBounds i true) (a.put p.dst v) w->wpAnyIn (FW rd) n P .any ops Q (q+1) d a w:=by
 have G: ∀(d:Array Bool) (j:Nat),(∀j∈D,d.getD j true=false)->j∈Region.ready .any ops d->j≠i->j∉D:=fun d j hl l f s=>by
  have g:=E j s f;unfold BI at g;obtain⟨_,o,u,I⟩:=mem_ready.1 l;rw[u]at g;obtain⟨e,Z,J⟩:=Array.any_eq_true'.1 g;simp only[af]at J
  grind [Ir]
 intro q
 induction q with
 |zero=>
  intro d a w g hl _ y hr x H;refine⟨fun h=>(by simp_all),fun j l=> ?_⟩;by_cases f:j=i
  .subst f;exact x.wpOpIn hd hi g H
  .have:=ready_mono l f;rw[H.1]at this;cases this
 |succ q K=>
  intro d a w g hl z y hr x H;refine⟨fun h=>(by simp_all),fun j l=> ?_⟩;by_cases f:j=i
  .subst f;exact x.wpOpIn hd hi g H
  .have L:=H.2 j (ready_mono l f);have s:=G d j hl l f;obtain⟨M,o,u,I⟩:=mem_ready.1 l;obtain⟨N,O⟩:=z j o u s M;have S:=Zn hd ⟨i,hi⟩ u N O B g x L;have U: ∀k∈D,(d.setIfInBounds j true).getD k true=false:=fun k hk=>by
    rw[getD_set_ne true (fun e=>s (by rw[e];exact hk))];exact hl k hk
   have V: ∀k ok,ops[k]? =a6 ok->k∉D->(d.setIfInBounds j true).getD k true=false->p.apart ops ok=true/\RZ P C ok:=fun k ok hk W ab=>by
    refine z k ok hk W ?_;by_cases hjk:j=k
    all_goals simp_all
   refine wpOpIn_mono (fun X Y A=>K (d.setIfInBounds j true) X Y A.1 U V y (ready_mono hr (Ne.symm f)) A.2.1 ?_) S;simp_all [Array.setIfInBounds_comm]
theorem FN {cl:Bool} {call:eF R} {K:St->Option R} (o:Oper) (l:List Oper) (st:St):fU T cl call ops K (o::l) st=fU T cl call ops (fU T cl call ops K l) [o] st:=by
 simp only[fU]
theorem Yw {cl:Bool} {call:eF R} {K:St->Option R} {o:Oper} (h:fU T cl call ops K [o] st=a6 r) (hr:gI W0 b0 rd c st a ats):
  (Region.wanted o (yielded ops a.tmps)=true/\ ∃st1,gI W0 b0 rd c st1 a ats/\dH T cl call o st1 (fun v st=>K (st.put o.dst v))=a6 r)\/
  (Region.wanted o (yielded ops a.tmps)=false/\ ∃st1,gI W0 b0 rd c st1 (a.put o.dst undef) ats/\K st1=a6 r):=by
 simp only[fU]at h;have y: ∀(st:St),gI W0 b0 rd c st a ats->gI W0 b0 rd c (st.put o.dst (.tup [])) (a.put o.dst undef) ats:=fun st hr=>hr.put (by simp only[bu];exact⟨#[],rfl,by simp[bg]⟩);cases hg:o.guard with
 |none=>
  grind [Region.wanted]
 |some l=>
  obtain⟨j,p⟩:=l;rw[hg]at h;simp only at h;split at h
  .cases h
  .rename_i d hd
   have f:=ET ops j d hd a.tmps;have e:=hr.fr.getD d;have q:=bg.length _ _ hr.fr;rw[Array.length_toList]at q;split at h
   .rename_i b g
    rw[g]at e;simp only[bu]at e;have s:=e.bool_inv;have A:d<a.tmps.size:=by
     grind
    have i:a.tmps[d]? =a6 (.bool b):=by
     simp_all
    rw[i]at f;simp only at f;have u:a.put (a6 d) (.bool b)=a:=by
     simp only[Act.put];obtain⟨B,D⟩:=Array.getElem?_eq_some_iff.1 i;have:a.tmps.setIfInBounds d (.bool b)=a.tmps:=by
      grind
     rw[this]
    have E:gI W0 b0 rd c (st.put (a6 d) (.val .bool b)) a ats:=by
     have:=hr.put (dst:=a6 d) (z:=.val .bool b) (v:=.bool b) (by simp_all [bu]);rwa [u]at this
    cases b<;>cases p<;>(try simp only[aa,ac]at h)
    .grind [Region.wanted]
    .grind [Region.wanted]
    .grind [Region.wanted]
    grind [Region.wanted]
   .rename_i g
    rw[g]at e;simp only[bu]at e;obtain⟨G,s,_⟩:=e;have I:yielded ops a.tmps j=a7:=by
     rw[f];cases he:a.tmps[d]? with
     |none=>rfl
     |some x=>
      simp_all
    grind [Region.wanted]
   .cases h
theorem Zf {e:Array Bool} {i:Nat} {pure:Bool} {f:Oper} (hi:ops[i]? =a6 f) (h:O4 ops e i pure=true): ∃D:List Nat,i∈D/\(∀j∈D,e.getD j true=false)/\(∀j∈D,j≠i->BI ops j D=true)/\
  ∀j d,ops[j]? =a6 d->j∉D->e.getD j true=false->f.apart ops d=true/\(pure=true\/KD d.op=true):=by
 unfold O4 at h;rw[hi]at h;simp only[af]at h;obtain⟨l,o,p⟩:=h;refine⟨_,Ir.1 l,fun j g=> ?_,fun j g s=> ?_,fun j d q u hl=> ?_⟩
 .simp_all
 .have:=List.all_eq_true.1 o j g;simp_all
 .have:=List.all_eq_true.1 p j (List.mem_range.2 (Array.getElem?_eq_some_iff.1 q).1);simp_all [Ir]
theorem QX {f:Op->Bool} {i:Nat} (h:aaQ ops f i=true): ∃o,ops[i]? =a6 o/\f o.op=true:=by
 grind [aaQ]
theorem aa4 {d:Op} (h:EF d=true):gq d=true:=by
 cases d<;>simp_all [EF,gq,iY]
theorem Bi (hT:TOk P T) {cl:Bool} {call:eF R} (G:kP P W0 n call) (hd:kU ops=true) {K:St->Option R} {Q:Act->World->Prop}:
  ∀(o:Nat) (g:Array Bool) (l:List Nat) (c:Cx) (st:St) (a:Act),ry ops o g=a6 l->fU T cl call ops K (l.filterMap fun i=>ops[i]?) st=a6 r->gI W0 b0 rd c st a ats->
   (∀c' M S,K M=a6 r->gI W0 b0 rd c' M S ats->c.Mono c'->Q S c'.w)->wpAnyIn (FW rd) n P .any ops (fun e a w=>e=.normal/\Q a w) o g a c.w
 |0,g,l,c,st,a,d,h,hr,A=>by
  simp only[ry]at d;rw[cond_eq_ite]at d;split at d
  .rename_i he
   cases d;simp only[List.filterMap_nil,fU]at h;exact⟨by simpa using he,rfl,A c st a h hr (Cx.Mono.refl c)⟩
  .cases d
 |o+1,g,l,c,st,a,d,h,hr,A=>by
  have U: ∀c (a:Act) (w:World),¬(Exit.panic c=.normal/\Q a w):=fun c a w h=>by cases h.1
  have take: ∀(i:Nat) (s:Bool) (q:List Nat),i∈Region.ready .any ops g->(if s then aaQ ops EF i=true else aaQ ops gq i=true)->O4 ops g i s=true->ry ops o (g.setIfInBounds i true)=a6 q->
    fU T cl call ops K ((i::q).filterMap fun i=>ops[i]?) st=a6 r->wpAnyIn (FW rd) n P .any ops (fun e a w=>e=.normal/\Q a w) (o+1) g a c.w:=fun i s q V av ah I h=>by
   obtain⟨p,N,hq,ai⟩: ∃p,ops[i]? =a6 p/\gq p.op=true/\(s=true->EF p.op=true):=by
    grind [QX,aa4]
   obtain⟨D,W,X,Y,d4⟩:=Zf N ah;simp only[List.filterMap_cons,N]at h;rw[FN]at h;have Z: ∀j J,ops[j]? =a6 J->j∉D->g.getD j true=false->p.apart ops J=true/\RZ P (fun w=>s=true\/Dh c w) J:=fun j J aj ak hl=>by
    obtain⟨e1,L⟩:=d4 j J aj ak hl;refine⟨e1, ?_⟩;rcases L with L|L
    .exact .inl fun w=>.inl L
    .refine .inr fun ρ w v w' E hx=> ?_;obtain⟨hu,hb⟩:=aat L ρ P w v w' hx;exact⟨hu,E.imp (fun h=>h) fun E=>E.trans (hb.mono E.size)⟩
   have ab:s=true\/Dh c c.w:=.inr (Below.refl _ _);rcases Yw h hr with ⟨x,B,f,y⟩|⟨x,B,f,y⟩
   .have hy: ∃z u,fU T cl call ops K (q.filterMap fun i=>ops[i]?) (B.put p.dst z)=a6 r/\bu c z u/\nD P ops (fun w=>s=true\/Dh c w) p u a:=by
     cases s with
     |true=>
      obtain⟨z,u,k1,k2,k3⟩:=anV hT f.ok (ai rfl) f.hp f.fr y;exact⟨z,u,k1,k2,.inl ⟨x,fun w _=>k3 w⟩⟩
     |false=>
      obtain⟨z,u,k1,k2,k3⟩:=xQ hT f.ok hq f.hp f.fr y;exact⟨z,u,k1,k2,.inl ⟨x,fun w E=>k3 w (E.resolve_left (by simp))⟩⟩
    obtain⟨z,u,k1,k2,k3⟩:=hy;exact BJ hd N U D Y o g a c.w ab X Z W V k3 (Bi hT G hd o _ q c (B.put p.dst z) (a.put p.dst u) I k1 (f.put k2) A)
   .exact BJ hd N U D Y o g a c.w ab X Z W V (.inr ⟨x,rfl⟩) (Bi hT G hd o _ q c B (a.put p.dst undef) I y f A)
  simp only[ry]at d;split at d
  .rename_i O
   cases d;simp only[List.filterMap_nil,fU]at h;exact⟨fun _=>⟨rfl,A c st a h hr (Cx.Mono.refl c)⟩,by rw[O];simp⟩
  .rename_i k rs O
   split at d
   .grind
   .split at d
    .grind
    .split at d
     .split at d
      .rename_i q I
       cases d;obtain⟨_,ok,ad,_⟩:=mem_ready.1 (show k∈Region.ready .any ops g by rw[O];simp);simp only[List.filterMap_cons,ad]at h;rw[FN]at h;refine wpAnyIn_all O (by simp) fun j hj=> ?_;obtain rfl:j=k:=by simpa using hj
       unfold wpOpIn;simp only[ad];rcases Yw h hr with ⟨x,B,f,y⟩|⟨x,B,f,y⟩
       .rw[am x];exact Oe hT G y f fun c' z u M k1 k2 k3 k4=>Bi hT G hd o _ q c' (M.put ok.dst z) (a.put ok.dst u) I k1 (k2.put k3) fun al an ao q1 q2 q3=>A al an ao q1 q2 (k4.trans q3)
       .rw[aq (by rw[x];simp)];exact⟨oz ok c.w _,Bi hT G hd o _ q c B (a.put ok.dst undef) I y f A⟩
      .cases d
     .cases d
theorem PY (hT:TOk P T) (i:P.follows .mixedOrders=true) {cl:Bool} {call:eF R} (j:kP P W0 n call) {id:Nat} {l:List Oper} (hp:aa2 ops=a6 l) {K:St->Option R} {Q:Exit->Act->World->Prop}
  (h:fU T cl call ops K l st=a6 r) (hr:gI W0 b0 rd c st a ats) (o: ∀c' d f,K d=a6 r->gI W0 b0 rd c' d f ats->c.Mono c'->Q .normal f c'.w):
  (Code.region id ops true).wpIn (FW rd) n P Q a c.w:=by
 unfold aa2 at hp;rw[cond_eq_ite]at hp;split at hp
 .rename_i hd
  split at hp
  .rename_i p q
   cases hp;have g:Dh c {c.w with drawn:=c.w.drawn+1}:=⟨rfl,rfl,rfl,ae _,fun _ _=>rfl⟩;have s:=Bi (Q:=fun a w=>Q .normal a w) hT j hd ops.size _ p (c.at_ {c.w with drawn:=c.w.drawn+1}) st a q h (hr.ext g) fun c' d f k1 k2 k3=>o c' d f k1 k2 ((Cx.Le.ext g).mono.trans k3);exact Code.wpIn_mono (fun e a w u=>by simp_all) (wpIn_region_any i s)
  .cases hp
 .cases hp
end
end
section
open Option renaming some → a6, none → a7
open List renaming mem_cons_of_mem → ak
open Nat renaming lt_of_lt_of_le → aS
open Go.RowKit
def rZ {R:Type} (P:Program) (W0:World) (j:lq R):Prop:=
 ∀(f:FuncId) (g:List bn) (st:St) (K:bn->St->Option R) (r:R),j (.call f g) st K=a6 r->
  ∀(b0:Nat) (rd:Option Nat) (c:Cx) (a:Act) (ats:List (Array Value)) (d:Array Value),gI W0 b0 rd c st a ats->bg c g d.toList->
   ∀h:Ending->World->Prop,(∀e z u i,K z i=a6 r->gI W0 b0 rd e i a ats->bu e z u->c.Mono e->h (.returned u) e.w)->
    (callFunc f d).run P c.w=.ok (.enter f d) c.w/\Calls P f d c.w h
section
variable {P:Program} {T:TT} {W0:World} {b0 n:Nat} {rd:Option Nat} {c:Cx} {R:Type} {r:R} {st:St} {a:Act} {ats:List (Array Value)}
def Ex.xt:Ex->Exit
 |.normal=>.normal
 |.exit i=>.exit i
 |.goto l=>.goto l
 |.ret=>.ret
section
variable {F:Fence} {b:Frame} {k:List Item} {cs:List Frame} {w:World} {Q:Exit->Act->World->Prop}
theorem oh {x:Code}:step P (lone (b.atR a (.code (.scope x)::k)) cs w)=.next (lone (b.atR a (.code x:: .inScope x::k)) cs w):=
 step_lone_go (by rfl)
theorem Qc {x:Code}:step P (lone (b.atR a (.inScope x::k)) cs w)=.next (lone (b.atR a k) cs w):=
 step_lone_go (by rfl)
theorem abm {x:Code} (h:x.wpIn F n P (fun e a w=>(∀l,e≠ .goto l)/\Q e a w) a w):(Code.scope x).wpIn F n P Q a w:=by
 intro b k cs s o hr;have d:(lone (b.atR a (.code (.scope x)::k)) cs w).fenced P F:=fenced_calm o hr rfl;obtain⟨e,g,i,⟨B,j⟩,f⟩:=h b (.inScope x::k) cs s o hr;cases e with
 |normal=>exact⟨.normal,g,i,j,.head d oh (StepsIn.trans f (.one (fenced_calm o hr rfl) Qc))⟩
 |exit p=>
  have q:exitTo p (.inScope x::k)=exitTo p k:=by simp[exitTo]
  exact⟨.exit p,g,i,j,fun u hk=>.head d oh (f.1 u (by rw[q];exact hk)),
   fun v hk=>let⟨y,z,A⟩:=f.2 v (by rw[q];exact hk);⟨y,z,.head d oh A⟩⟩
 |goto l=>simp_all
 |ret=>exact⟨_,g,i,j,.of_steps (.one d oh) f⟩
 |panic D=>exact⟨_,g,i,j,.of_steps (.one d oh) f⟩
 |outgrown=>exact⟨_,g,i,j,.of_steps (.one d oh) f⟩
end
theorem ajA (d:c.Ok W0):c.Le {c with w:=c.w.alloc (.deferred (a6 [])),mks:=c.w.heap.size::c.mks}/\({c with w:=c.w.alloc (.deferred (a6 [])),mks:=c.w.heap.size::c.mks}:Cx).Ok W0:=by
 have f:=lI c.w (.deferred (a6 []));have j:c.Le {c with w:=c.w.alloc (.deferred (a6 [])),mks:=c.w.heap.size::c.mks}:=
  ⟨fun b g=>⟨⟨aS g.1 f.size,g.2.1,by
    intro p;rcases List.mem_cons.1 p with e|e
    .have:=g.1;omega
    .exact g.2.2 e⟩,f.block b g.1⟩,fun _ h=>h,fun id o _ i=>⟨o,i,o.like_refl _⟩,fun r hr=>ak _ hr,fun b L l=>⟨L,(f.block b (Array.getElem?_eq_some_iff.1 l).1).trans l⟩,f.size,rfl⟩
 refine⟨j,⟨d.bel.trans (f.mono d.size),fun id o i=>(d.obj id o i).le j rfl fun b q=>f.block b ((d.obj id o i).lt q).2,d.inj,fun r hr=> ?_,fun b f=>(j.out b (d.bar b f)).1,d.phi⟩⟩;rcases List.mem_cons.1 hr with e|e
 .subst e;exact⟨d.size,World.alloc_heap_new _ _⟩
 .exact⟨(d.mks r e).1,(f.block r (d.mark_lt e)).trans (d.mks r e).2⟩
theorem aqG (g:c.Ok W0) {st:St} (h:c.hp=st.hp) (h2:c.nxt=st.nxt) {id n':Nat} (j:cZ st.hp id=a7) (p:st.nxt<=id) (x:st.nxt<=n') {f:FuncId} {fr:List bn} {L:Loop} (q:bg c fr L.tmps.toList) (s:L.state=.ready) (hp:L.pending=a7) {d:Option Nat} (u: ∀k,d=a6 k->oO f k=a6 (L.assign,L.body)):
  ∃c',x9 W0 c st c' {st with hp:=(id,.lp f fr L.params.toList L.assign L.body d 0 a7)::st.hp,nxt:=n'}/\c'.w=c.w.alloc (.loop L)/\bu c' (.yld id) (.func (.yield c.w.heap.size) #[] #[])/\c'.mks=c.mks:=by
 have hk:=xO h h2 j p;have e:=lI c.w (.loop L);have hl: ∀b,bY.blk (.lp f fr L.params.toList L.assign L.body d 0 a7) ⟨c.w.heap.size,undef⟩=a6 b->c.w.heap.size<=b:=fun b e=>by
  simp_all [bY.blk]
 have i:=Cx.Le.push (o:=.lp f fr L.params.toList L.assign L.body d 0 a7) (l:=⟨c.w.heap.size,undef⟩) (nxt:=n') (w:=c.w.alloc (.loop L)) hk (by omega) e.size e.block hl;have v:(c.push id (.lp f fr L.params.toList L.assign L.body d 0 a7) ⟨c.w.heap.size,undef⟩ n' (c.w.alloc (.loop L))).ORel W0.heap.size id (.lp f fr L.params.toList L.assign L.body d 0 a7):=by
  refine⟨u,by simp[Cx.push,upd_same];exact g.size,L, ?_,bg.le i _ _ q,rfl,rfl,rfl,s,hp⟩;simp only[Cx.push,upd_same];exact World.alloc_heap_new c.w _
 refine⟨_,⟨?_,rfl,rfl,rfl,g.push hk (by omega) e hl v,i⟩,rfl, ?_,rfl⟩
 .simp[Cx.push,h]
 .simp only[bu];refine⟨rfl,.inl ⟨_,by simp[Cx.push,dG];rfl⟩,fun _ _ _ _ _ _ _ _ _=>by simp[Cx.push,upd_same]⟩
theorem EM (g:c.Ok W0) {id:Nat} {f:FuncId} {fr:List bn} {h:List Nat} {iK i:Code} {l:Option Nat} {k:Nat} {p:Option Ex} (u:cZ c.hp id=a6 (.lp f fr h iK i l k p)) {L:Loop} (x:c.w.heap[(c.mu id).blk]? =a6 (.loop L)) (d:Loop)
  {o':bY} (v:o'=.dead\/(∃q s,o'=.lp f fr h iK i l q s/\agH q s d/\d.tmps=L.tmps/\d.params=L.params/\d.assign=L.assign/\d.body=L.body)):
  ∃c',c'.hp=gX c.hp id o'/\c'.nxt=c.nxt/\c.Le c'/\c'.Ok W0/\c'.w=c.w.putObj (c.mu id).blk (.loop d)/\c'.mks=c.mks:=by
 have E:(c.mu id).blk<c.w.heap.size:=(Array.getElem?_eq_some_iff.1 x).1;obtain⟨G,I,J,y,K,M,N,O,e4⟩:=g.obj id _ u;rw[x]at y;have S:J=L:=by cases y;rfl
 subst S;have hk:(bY.lp f fr h iK i l k p).like (c.mu id) o' (c.mu id):=by
  rcases v with rfl|⟨q,s,rfl,_⟩<;>simp[bY.like]
 have z:c.w.heap.size<=(c.w.putObj (c.mu id).blk (.loop d)).heap.size:=by simp
 have o: ∀b,b<c.w.heap.size->(bY.lp f fr h iK i l k p).blk (c.mu id)≠a6 b->(c.w.putObj (c.mu id).blk (.loop d)).heap[b]? =c.w.heap[b]? :=fun b _ U=>
  World.putObj_heap_other fun e=>U (by rw[e];rfl)
 have hl: ∀b,o'.blk (c.mu id)=a6 b->(bY.lp f fr h iK i l k p).blk (c.mu id)=a6 b\/c.w.heap.size<=b:=fun b o=>by
  rcases v with rfl|⟨q,s,rfl,_⟩
  .cases o
  .exact .inl o
 have A: ∀(b:Nat) (B:Loop),(bY.lp f fr h iK i l k p).blk (c.mu id)=a6 b->c.w.heap[b]? =a6 (Obj.loop B)-> ∃V:Loop,(c.w.putObj (c.mu id).blk (.loop d)).heap[b]? =a6 (Obj.loop V):=fun b B o _=>by
  grind [bY.blk,World.putObj_heap_same]
 have W:Below W0.heap.size W0 (c.w.putObj (c.mu id).blk (.loop d)):=
  ⟨g.bel.os,g.bel.tape,g.bel.output,by omega,fun j X=>(World.putObj_heap_other (by omega)).trans (g.bel.block j X)⟩
 have D:=Cx.Le.put g u hk z o hl A;refine⟨c.put id o' (c.mu id) (c.w.putObj (c.mu id).blk (.loop d)),rfl,rfl,D,Cx.Ok.put g u hk W z o hl A ?_,rfl,rfl⟩;rcases v with rfl|⟨q,s,rfl,Y,Z,h3,h4,h5⟩
 .trivial
 .refine⟨G,by simp only[Cx.put,upd_same];exact I,d, ?_,bg.le D _ _ (by rw[Z];exact K),by rw[h3];exact M,by rw[h4];exact N,by rw[h5];exact O,Y⟩;simp only[Cx.put,upd_same];exact World.putObj_heap_same E
end
end
section
open Option renaming some → a6, none → a7
open Go.RowKit
section
variable {T:TT} {cl:Bool} {R:Type} {r:R} {sg:FuncId->Option Sum}
theorem xx {dst:Option Nat} {o:bY} {st:St} {K:Nat->St->Option R} (h:alloc cl dst o st K=a6 r): ∃i d,K i d=a6 r:=by
 unfold alloc at h
 grind
theorem apK {d:BinOp} {t:TypeId} {x y:bn} {K:bn->Option R} (h:WR T d t x y K=a6 r): ∃z,K z=a6 r:=by
 unfold WR at h;simp only[kT,cond_eq_ite]at h
 grind
theorem al5 {hp:fD} {d:BinOp} {t:TypeId} {x y:bn} {K:bn->Option R} (h:MQ T hp d t x y K=a6 r): ∃z,K z=a6 r:=by
 unfold MQ at h;simp only[cond_eq_ite]at h
 grind [apK]
theorem asL {d:UnOp} {x:bn} {K:bn->Option R} (h:ahS d x K=a6 r): ∃z,K z=a6 r:=by
 unfold ahS at h
 grind
theorem al6 {hp:fD} {t:TypeId} {a:bn} {K:bn->Option R} (h:H7 T hp t a K=a6 r): ∃z,K z=a6 r:=by
 unfold H7 at h
 grind
theorem apL {d:fD} {st:St} {a v:bn} {K:St->Option R} (h:WS d st a v K=a6 r): ∃z,K z=a6 r:=by
 unfold WS at h;simp only[cond_eq_ite]at h
 repeat' split at h
 all_goals first|cases h;done|exact⟨_,h⟩
theorem ahV {st:St} {t:TypeId} {a v:bn} {K:St->Option R} (h:FM T st t a v K=a6 r): ∃z,K z=a6 r:=by
 unfold FM at h;simp only[cond_eq_ite]at h
 repeat' split at h
 all_goals first|cases h;done|exact⟨_,h⟩
theorem Z7 {s d:TypeId} {x:bn} {hp:fD} {K:bn->Option R} (h:xw T s d x hp K=a6 r): ∃z,K z=a6 r:=by
 unfold xw at h;simp only[kT,cond_eq_ite]at h
 grind
theorem ahU {hp:fD} {t:TypeId} {x:bn} {lo hi d:Option bn} {K:bn->Option R} (h:FI T hp t x lo hi d K=a6 r): ∃z,K z=a6 r:=by
 unfold FI at h;simp only[kT,cond_eq_ite]at h
 grind
theorem Ti {hp:fD} {t:TypeId} {x:bn} {f:Nat} {K:bn->Option R} (h:qR T hp t x f K=a6 r): ∃z,K z=a6 r:=by
 unfold qR at h;simp only[cond_eq_ite]at h
 repeat' split at h
 all_goals first|cases h;done|exact⟨_,h⟩
theorem ahT {t:TypeId} {x:bn} {f:Nat} {K:bn->Option R} (h:FD T t x f K=a6 r): ∃z,K z=a6 r:=by
 unfold FD at h
 repeat' split at h
 all_goals first|cases h;done|exact⟨_,h⟩
theorem Tj {hp:fD} {t:TypeId} {x i:bn} {K:bn->Option R} (h:qU T hp t x i K=a6 r): ∃z,K z=a6 r:=by
 unfold qU at h;simp only[kT,cond_eq_ite]at h
 repeat' split at h
 all_goals first|cases h;done|exact⟨_,h⟩
theorem apM {hp:fD} {t:TypeId} {x:bn} {K:bn->Option R} (h:WT T hp t x K=a6 r): ∃z,K z=a6 r:=by
 unfold WT at h;simp only[kT,cond_eq_ite]at h
 grind
theorem aeQ {dst:Option Nat} {t:TypeId} {s x:bn} {st:St} {K:bn->St->Option R} (h:FB T cl dst t s x st K=a6 r): ∃z d,K z d=a6 r:=by
 unfold FB at h;simp only[kT,cond_eq_ite]at h
 repeat' split at h
 all_goals first|cases h;done|exact⟨_,_,h⟩|grind [xx]
theorem Z4 {dst:Option Nat} {t t':TypeId} {s x:bn} {st:St} {K:bn->St->Option R} (h:xu T cl dst t t' s x st K=a6 r): ∃z d,K z d=a6 r:=by
 unfold xu at h;simp only[kT,cond_eq_ite]at h
 repeat' split at h
 all_goals first|cases h;done|exact⟨_,_,h⟩|grind [xx]
theorem Z5 {o:Oper} {b:Builtin} {d:List TypeId} {args:List bn} {st:St} {K:bn->St->Option R} (h:jo T cl o b d args st K=a6 r): ∃z e,K z e=a6 r:=by
 unfold jo at h;simp only[kT,cond_eq_ite]at h
 grind [apM,aeQ,Z4]
def uS (sg:FuncId->Option Sum) (call:eF R):Prop:= ∀g s d e st (K:bn->St->Option R) r,sg g=a6 s->call (.fn g []) d e st K=a6 r-> ∃z f,K z f=a6 r
theorem ahW {s:Sum} {args:List bn} {dst:Option Nat} {st:St} {K:bn->St->Option R} (h:s.call cl args dst st K=a6 r): ∃z d,K z d=a6 r:=by
 unfold Sum.call at h;simp only[cond_eq_ite]at h;split at h
 .split at h
  .rename_i x e
   cases hf:s.f x with
   |none=>simp_all [aZ]
   |some y=>
    grind [aZ,xx]
  .cases h
 .cases h
theorem abD {call:eF R} (hx:uS sg call) {o:Oper} {st:St} {K:bn->St->Option R} (hp:sU sg o.op=true) (h:dH T cl call o st K=a6 r): ∃z d,K z d=a6 r:=by
 obtain⟨j,e,l,p,q,u⟩:=o;cases e with
 |call c=>
  simp only[dH]at h;simp only[sU]at hp;split at h
  .exact Z5 h
  .rename_i f i
   rw[i]at hp;cases f with
   |func g=>
    simp only at hp;cases hs:sg g with
    |none=>simp_all
    |some s=>exact hx g s _ _ _ _ _ hs h
   |_=>simp at hp
  .cases h
 |store t x y=>
  grind [dH,ahV,apL]
 |_=>
  simp only[dH,kT,cond_eq_ite]at h
  repeat' split at h
  all_goals first
   |cases h;done
   |exact⟨_,_,h⟩
   |(obtain⟨_,_,h⟩:=xx h;exact⟨_,_,h⟩)
   |(obtain⟨_,_,h⟩:=xx h;obtain⟨_,_,h⟩:=xx h;exact⟨_,_,h⟩)
   |(obtain⟨_,h⟩:=al6 h;exact⟨_,_,h⟩)
   |(obtain⟨_,h⟩:=al5 h;exact⟨_,_,h⟩)
   |(obtain⟨_,h⟩:=asL h;exact⟨_,_,h⟩)
   |(obtain⟨_,h⟩:=Z7 h;exact⟨_,_,h⟩)
   |(obtain⟨_,h⟩:=ahU h;exact⟨_,_,h⟩)
   |(obtain⟨_,h⟩:=Ti h;exact⟨_,_,h⟩)
   |(obtain⟨_,h⟩:=ahT h;exact⟨_,_,h⟩)
   |grind [Tj]
theorem SG {E:Env} {d:lq R}:uS E.sg (uj E d):=fun g s e f st K r i h=>by
 grind [uj,ahW]
theorem ar1:uS (R:=R) sg (Dk sg cl):=fun g s e f st K r d h=>by
 simp only[Dk,d]at h;exact ahW (bK h).2
theorem afy {o:Op} (h:gq o=true):sU sg o=true:=by
 cases o with
 |call c=>
  grind [gq,sU]
 |_=>rfl
theorem Ec {call:eF R} (hx:uS sg call) {ops:Array Oper} {d:List bn}: ∀(l:List Nat) {st:St} {K:St->Option R},vP T cl call ops d l st K=a6 r-> ∃e,K e=a6 r
 |[],st,K,h=>⟨st,h⟩
 |i::l,st,K,h=>by
  simp only[vP]at h;split at h
  .rw[cond_eq_ite]at h;split at h
   .rename_i f
    obtain⟨_,_,h⟩:=abD hx (afy f) h;exact Ec hx l (bK h).2
   .exact Ec hx l (bK h).2
  .cases h
theorem Tm {call:eF R} (hx:uS sg call) {ops:Array Oper} (hp: ∀o∈ops.toList,sU sg o.op=true) {j:Nat} {log:List Nat} {st:St} {K:St->Option R} (h:qW T cl call ops j log st K=a6 r): ∃d,K d=a6 r:=by
 unfold qW at h;split at h
 .rename_i e f
  obtain⟨_,_,h⟩:=abD hx (hp e (by grind)) (bK h).2
  grind [Ec]
 .cases h
theorem PQ {d e:Type} {o:Option d} {k:d->Option e} {y:e} (h:aZ o k=a6 y): ∃x,o=a6 x/\k x=a6 y:=by
 cases o with
 |none=>simp[aZ]at h
 |some x=>exact⟨x,rfl,h⟩
theorem wo {k:Option R} {r:R}: ∀(l:List (Option Unit)),LC l k=a6 r->k=a6 r/\ ∀x∈l,x=a6 ()
 |[],h=>⟨h,fun _ d=>by cases d⟩
 |o::l,h=>by
  simp only[LC]at h;obtain⟨⟨⟩,f,e⟩:=PQ h;obtain⟨g,i⟩:=wo l e
  grind
theorem MR {ops:Array Oper} (hp: ∀o∈ops.toList,sU sg o.op=true) {p:eF St} {q:eF Unit} (e:uS sg p) (f:uS sg q): ∀(n:Nat) {R:Type} {r:R} {call:eF R},uS sg call-> ∀(l:Array Bool) (log:List Nat) (st:St) (K:St->Option R),
  kQ T cl sg p q ops n call l log st K=a6 r-> ∃u,K u=a6 r
 |0,R,r,call,d,l,log,st,K,h=>by simp[kQ]at h
 |n+1,R,r,call,d,l,log,st,K,h=>by
  have s: ∀{i:Nat} {g:Oper},ops[i]? =a6 g->sU sg g.op=true:=fun {i g} j=>hp g (by grind);simp only[kQ]at h;split at h
  .exact⟨st,h⟩
  .split at h
   .split at h
    .rename_i j
     obtain⟨_,_,h⟩:=abD d (s j) (bK h).2;exact MR hp e f n d _ _ _ _ h
    .cases h
   .split at h
    .split at h
     .rename_i j
      obtain⟨_,_,h⟩:=abD (ar1 (sg:=sg)) (s j) (bK h).2;exact MR hp e f n d _ _ _ _ h
     .cases h
    .split at h
     .obtain⟨_,h⟩:=Tm d hp h;exact MR hp e f n d _ _ _ _ h
     .rw[cond_eq_ite]at h;split at h
      .grind
      .obtain⟨_,h⟩:=Tm d hp h;obtain⟨_,h⟩:=MR hp e f n d _ _ _ _ h;replace h:=(bK h).2
       grind [wo]
end
end
section
open Option renaming some → a6, none → a7
open Bool renaming and_eq_true → af, false_eq_true → ag, and_true → ay, not_false → aB, true_and → aK
open List renaming mem_cons_of_mem → ak, map_cons → au, mem_cons_self → aA, length_map → aI
open Nat renaming le_refl → ae, eq_of_beq_eq_true → ah
open Go.RowKit
section
variable {P:Program} {T:TT} {W0:World} {b0 n:Nat} {rd:Option Nat} {c:Cx} {st:St} {a:Act} {sg:FuncId->Option Sum} {cl:Bool} {ats:List (Array Value)} {ops:Array Oper}
def pz:(t:Ty)->t.den->List Value
 |.unit,_=>[]
 |.bool,x=>[.bool x]
 |.int k,x=>[.int k x]
 |.str,x=>[.string ⟨x.toArray⟩]
 |.list _,_=>[]
 |.pair a b,x=>pz a x.1++pz b x.2
theorem rD {w:World} {fr:Nat->Prop}: ∀(t:Ty) (x:t.den),t.rigid=true-> ∀cs,dM w fr t x cs↔cs=pz t x
 |.unit,x,_,cs=>by rfl
 |.bool,x,_,cs=>by rfl
 |.int k,x,_,cs=>by rfl
 |.str,x,_,cs=>by rfl
 |.list t,x,h,cs=>by simp[Ty.rigid]at h
 |.pair a b,x,h,cs=>by
  simp only[Ty.rigid,af]at h;simp only[dM,pz,rD a x.1 h.1,rD b x.2 h.2];simp
def Fq (t:Ty) (x:t.den):Value:=if t.isAgg then .agg (pz t x).toArray else(pz t x).headD undef
theorem VD.rigid {t:Ty} {x:t.den} (h:t.rigid=true) (v:Value):VD c t x v↔v=Fq t x:=by
 cases ha:t.isAgg with
 |true=>
  rw[VD.agg ha];simp only[Fq,ha,if_true,rD t x h];constructor
  .rintro ⟨cs,rfl,d⟩;rw[<-d]
  simp_all
 |false=>
  rw[VD.leaf ha,rD t x h];have: ∃u,pz t x=[u]:=by cases t<;>first|exact⟨_,rfl⟩|(simp[Ty.rigid]at h;done)|grind [Ty.isAgg]
  grind [Fq]
def rv1:bn->Value
 |.val t x=>Fq t x
 |_=>undef
def rv:bn->Value
 |.tup l=>.tuple (l.map rv1).toArray
 |v=>rv1 v
theorem ac7 {v:bn} (h:v.rigid=true) (u:Value):bu c v u↔u=rv1 v:=by
 cases v<;>simp only[bn.rigid,ag]at h;simp_all [bu,rv1,VD.rigid]
theorem ac8: ∀(l:List bn),l.all bn.rigid=true-> ∀us,bg c l us↔us=l.map rv1
 |[],_,[]=>by simp[bg]
 |[],_,u::us=>by simp[bg]
 |v::l,_,[]=>by simp[bg]
 |v::l,h,u::us=>by
  simp only[List.all_cons,af]at h;simp only[bg,ac7 h.1,ac8 l h.2,au,List.cons.injEq]
theorem EL {v:bn} (h:v.rigidR=true) (u:Value):bu c v u↔u=rv v:=by
 cases v with
 |tup l=>
  simp only[bn.rigidR]at h;simp only[bu,rv,ac8 l h];constructor
  .rintro ⟨e,rfl,d⟩;rw[<-d]
  simp_all
 |val t x=>exact ac7 (v:=.val t x) h u
 |_=>simp[bn.rigidR,bn.rigid]at h
theorem EQ (id:Nat): ∀(rs:List (Ty×Bool)) y,(rs.all fun r=> !r.2&&r.1.rigid)=true->(mr id rs y).all bn.rigid=true
 |[],_,_=>rfl
 |(t,true)::rs,y,h=>by simp at h
 |(t,false)::rs,y,h=>by
  simp only[List.all_cons,aB,aK,af]at h;simp only[mr,List.all_cons,bn.rigid,h.1,aK];exact EQ id rs y.2 h.2
theorem OA: ∀(l:List bn),l.all bn.rigid=true->(IQ l).rigidR=true
 |[],_=>rfl
 |[v],h=>by
  simp only[List.all_cons,List.all_nil,ay]at h;cases v<;>simp only[bn.rigid,ag]at h;exact h
 |v::d::l,h=>h
theorem bg.mk {c:Cx}: ∀(l:List bn) (xs:List Value),l.length=xs.length->(∀(i:Nat) (h:i<l.length) (e:i<xs.length),bu c l[i] xs[i])->bg c l xs
 |[],[],_,_=>by simp[bg]
 |[],_::_,h,_=>by simp at h
 |_::_,[],h,_=>by simp at h
 |v::l,x::xs,h,d=>by
  simp only[bg];exact⟨d 0 (by simp) (by simp),bg.mk l xs (by simpa using h) fun i f g=>by
   have:=d (i+1) (by simp;omega) (by simp;omega);simpa using this⟩
def rU (ops:Array Oper) (k:Nat):Option Nat:=(ops[k]?).bind (·.dst)
def ed (ops:Array Oper) (a:Act):List (Nat×Value)->Act
 |[]=>a
 |(k,v)::l=>(ed ops a l).put (rU ops k) v
theorem wU (a:Act): ∀(q l:List (Nat×Value)),ed ops a (q++l)=ed ops (ed ops a l) q
 |[],l=>rfl
 |(k,v)::q,l=>by simp only[List.cons_append,ed];rw[wU a q l]
theorem wV (a:Act): ∀l,(ed ops a l).defers=a.defers
 |[]=>rfl
 |(k,v)::l=>by rw[ed,put_defers,wV a l]
theorem rC (a:Act): ∀l,(ed ops a l).tmps.size=a.tmps.size
 |[]=>rfl
 |(k,v)::l=>by
  rw[ed];cases rU ops k with
  |none=>exact rC a l
  |some d=>simp only[Act.put,Array.size_setIfInBounds];exact rC a l
def agF (ops:Array Oper) (x y:Oper):Prop:= ∀d,y.dst=a6 d->d∉x.looksAt ops/\x.dst≠a6 d
theorem Ie {x y:Oper} (h:BV ops x y=true):agF ops x y:=fun d hd=>by
 simp_all [BV]
theorem uB (a:Act) {d:Option Nat} {v:Value}: ∀(l:List (Nat×Value)),(∀m∈l.map (·.1),∀e,rU ops m=a6 e->d≠a6 e)->ed ops (a.put d v) l=(ed ops a l).put d v
 |[],_=>rfl
 |(k,u)::l,h=>by
  rw[ed,ed,uB a l fun m f=>h m (ak _ f)];simp_all [Act.put_comm]
theorem Aa (a:Act) {o:Oper} (d: ∀cs b,o.op≠ .select cs b): ∀(l:List (Nat×Value)),(∀m∈l.map (·.1),∀e,rU ops m=a6 e->e∉o.looksAt ops)->execOp (ed ops a l).eval o=execOp a.eval o
 |[],_=>rfl
 |(k,u)::l,h=>by
  rw[ed,execOp_put (ops:=ops) o d _ _ _ (h k aA)];exact Aa a d l fun m f=>h m (ak _ f)
def gG (ops:Array Oper) (lA:Array Bool) (log:List Nat):List Nat->Prop
 |[]=>True
 |k::l=>gG ops lA log l/\lA.getD k true=false/\k∈log/\k∉l/\ ∃ok,ops[k]? =a6 ok/\iY ok.op=true/\ok.guard=a7/\(∀d,ok.dst=a6 d->d∉ok.looksAt ops)/\
   (∀e∈ok.after,Region.binds .any e=true->lA.getD e.on false=true\/e.on∈l)/\
   (∀m∈l,∃f,ops[m]? =a6 f/\agF ops f ok/\(qF ops k m=false->f.apart ops ok=true))
def DY (rd:Option Nat) (n:Nat) (P:Program) (c:Cx) (a:Act) (o:Oper) (v:Value):Prop:= ∀d,Dh c d->o.quietAtIn (FW rd) n P a (Dh (c.at_ d)) d v
theorem DY.congr {a d:Act} {o:Oper} {v:Value} (h:execOp d.eval o=execOp a.eval o) (e:DY rd n P c a o v):DY rd n P c d o v:=fun f g=>by
 have:=e f g;simp_all [Oper.quietAtIn]
theorem DY.of_run {a:Act} {o:Oper} {v:Value} (h: ∀w',Dh c w'->(execOp a.eval o).run P w'=.ok (.value v) w'):DY rd n P c a o v:=fun w' d=>by
 unfold Oper.quietAtIn;rw[h w' d];exact⟨rfl,rfl⟩
theorem DY.ext {a:Act} {o:Oper} {v:Value} {w:World} (d:Dh c w) (h:DY rd n P c a o v):DY rd n P (c.at_ w) a o v:=fun e f=>h e (Below.trans d (f.mono d.size))
theorem DY.wpOp {a:Act} {i:Nat} {o:Oper} {v:Value} (hd:kU ops=true) (hi:ops[i]? =a6 o) (p:o.guard=a7) (h:DY rd n P c a o v) {Q:Exit->Act->World->Prop} {K:Act->World->Prop} (l: ∀w',Dh c w'->K (a.put o.dst v) w'):wpOpIn (FW rd) n P ops Q i K a c.w:=by
 unfold Go.wpOpIn;simp only[hi];rw[am (by simp[Region.wanted,p])];refine⟨oz o c.w _, ?_⟩;rw[uF (l9 hd i o hi).1];have d:=h c.w (Below.refl _ _);unfold Oper.quietAtIn at d;generalize (execOp a.eval o).run P c.w=x at d ⊢
 match x,d with
 |.ok (.value u) w',d=>
  obtain⟨g,j⟩:=d;subst g j;exact l _ (Below.refl _ _)
 |.ok .skip w',d=>
  obtain⟨g,j⟩:=d;subst g j;exact l _ (Below.refl _ _)
 |.ok (.enter f A) w',d=>
  obtain⟨g,j,q⟩:=d;subst g;refine⟨j,CallsIn.mono q fun e B s=> ?_⟩;obtain⟨y,z⟩:=s;subst y;exact l _ z
def jC (rd:Option Nat) (n:Nat) (P:Program) (ops:Array Oper) (c:Cx) (a:Act):List (Nat×Value)->Prop
 |[]=>True
 |(k,v)::l=>jC rd n P ops c a l/\ ∃ok,ops[k]? =a6 ok/\DY rd n P c (ed ops a l) ok v
theorem jC.ext {w:World} (d:Dh c w) {a:Act}: ∀{l:List (Nat×Value)},jC rd n P ops c a l->jC rd n P ops (c.at_ w) a l
 |[],_=>trivial
 |(k,v)::l,h=>⟨jC.ext d h.1,let⟨ok,e,f⟩:=h.2;⟨ok,e,f.ext d⟩⟩
def qH (sg:FuncId->Option Sum) (cl:Bool) (o:Oper) (fr:List bn) (z:bn):Prop:=
 iY o.op=true/\(∃e i,o.op=.call e/\e.callee=.value i)/\z.rigidR=true/\(∀d,o.dst=a6 d->z=fr.getD d .undef)/\
  ∃f g,iQ o fr=f::g/\ ∀(j:Option Nat) (h:St) (K:bn->St->Option Unit),Dk sg cl f g j h K=K z h
theorem LH (hT:TOk P T) (g:lC (R:=Unit) P (Dk sg cl)) {o:Oper} {z:bn} {e:List bn} (i:qH sg cl o e z) (j:iQ o e=iQ o st.fr) {a:Act} (hr:gI W0 b0 rd c st a ats):bu c z (rv z)/\DY rd n P c a o (rv z):=by
 obtain⟨l,⟨x,y,A,B⟩,f,_,D,E,p,G⟩:=i;rw[j]at p;refine⟨(EL f _).2 rfl,fun q s=> ?_⟩
 classical
 have h:dH T cl (Dk sg cl) o st (fun d _=>if d=z then a6 ()else a7)=a6 ():=by
  simp_all [iQ,dH]
 obtain⟨d,v,g1,g2,g3⟩:=Yx (n:=n) hT g l h (hr.ext s);have u:d=z:=by
  simp_all
 rw[u]at g2;rw[<-(EL f v).1 g2];exact g3 q (Below.refl _ _)
def Hu (sg:FuncId->Option Sum) (cl:Bool) (ops:Array Oper) (fr:List bn) (l:List Nat):Prop:= ∀k∈l,∀ok,ops[k]? =a6 ok->gq ok.op=false-> ∃z,qH sg cl ok fr z
theorem Ij {l:Array Bool} {m:Nat} (d:l.getD m false=true) (h2:l.getD m true=false):False:=by
 grind
theorem Zl {lA:Array Bool} {j m:Nat} (f:j∈Region.ready .any ops lA) (i:lA.getD m true=false):qF ops j m=false:=by
 obtain⟨_,g,h,l⟩:=mem_ready.1 f;unfold qF;rw[h];cases d:g.after.any fun e=>Region.binds .any e&&Nat.beq e.on m with
 |false=>exact d
 |true=>
  obtain⟨e,o,d⟩:=Array.any_eq_true'.1 d;simp only[af]at d
  grind [ah]
theorem gG.un {lA:Array Bool} {log:List Nat}: ∀{l:List Nat},gG ops lA log l-> ∀k∈l,lA.getD k true=false
 |k::l,h,m,d=>by
  rcases List.mem_cons.1 d with e|d
  .rw[e];exact h.2.1
  .exact gG.un h.1 m d
theorem gG.log {lA:Array Bool} {log:List Nat}: ∀{l:List Nat},gG ops lA log l-> ∀k∈l,k∈log
 |k::l,h,m,d=>by
  rcases List.mem_cons.1 d with e|d
  .rw[e];exact h.2.2.1
  .exact gG.log h.1 m d
theorem gG.mono {lA:Array Bool} {log d:List Nat} (hl: ∀k∈log,k∈d): ∀{l:List Nat},gG ops lA log l->gG ops lA d l
 |[],_=>trivial
 |k::l,h=>⟨gG.mono hl h.1,h.2.1,hl _ h.2.2.1,h.2.2.2⟩
theorem gG.set {lA:Array Bool} {log:List Nat} {j:Nat}: ∀{l:List Nat},gG ops lA log l->j∉l->gG ops (lA.setIfInBounds j true) log l
 |[],_,_=>trivial
 |k::l,h,d=>by
  obtain⟨f,g,i,o,ok,p,q,s,u,v,x⟩:=h;refine⟨gG.set f fun h=>d (ak _ h), ?_,i,o,ok,p,q,s,u,fun e y z=> ?_,x⟩
  .rw[getD_set_ne true (fun e=>d (by rw[e];exact aA))];exact g
  .exact(v e y z).imp getD_set_true fun h=>h
theorem uG {lA:Array Bool} {j:Nat} (d:j<lA.size):(lA.setIfInBounds j true).getD j false=true:=by simp[d]
theorem gG.take {lA:Array Bool} {log:List Nat} {k:Nat} (hk:k<lA.size): ∀{l:List Nat},gG ops lA log l->k∈l->gG ops (lA.setIfInBounds k true) log (l.erase k)
 |m::l,h,d=>by
  obtain⟨f,g,i,j,ok,o,p,q,s,z,u⟩:=h;by_cases e:m=k
  .simp_all [gG.set]
  .rw[List.erase_cons_tail (by simpa using e)];have v:k∈l:=(List.mem_cons.1 d).resolve_left fun h=>e h.symm;refine⟨gG.take hk f v, ?_,i,fun h=>j (List.mem_of_mem_erase h),ok,o,p,q,s,fun A B D=> ?_,fun x y=>u x (List.mem_of_mem_erase y)⟩
   .rw[getD_set_ne true (fun h=>e h.symm)];exact g
   grind [getD_set_true,uG]
theorem qO {k:Nat} {o:Oper} (h:ops[k]? =a6 o):rU ops k=o.dst:=by simp[rU,h]
theorem jC.put {a:Act} {c:Cx} (hd:kU ops=true) {d:Option Nat} {v:Value}: ∀{l:List (Nat×Value)},jC rd n P ops c a l->
  (∀m∈l.map (·.1),∃f,ops[m]? =a6 f/\(∀e,f.dst=a6 e->d≠a6 e)/\(∀e,d=a6 e->e∉f.looksAt ops))->jC rd n P ops c (a.put d v) l
 |[],_,_=>trivial
 |(k,u)::l,h,i=>by
  obtain⟨o,ok,g,p⟩:=h;refine⟨jC.put hd o fun m j=>i m (ak _ j),ok,g,p.congr ?_⟩;obtain⟨f,g1,g2,g3⟩:=i k aA;rw[g]at g1;cases g1;rw[uB a l fun m j e q=> ?_,execOp_put (ops:=ops) ok (l9 hd k ok g).2 _ _ _ g3]
  grind [qO]
theorem Q7 {a:Act} {c:Cx} (hd:kU ops=true) {lA:Array Bool} {log:List Nat} {k:Nat} {ok:Oper} (g:ops[k]? =a6 ok) (hk:k∈Region.ready .any ops lA):
  ∀{l:List (Nat×Value)},gG ops lA log (l.map (·.1))->jC rd n P ops c a l->k∈l.map (·.1)->
   ∃v d,DY rd n P c a ok v/\d.map (·.1)=(l.map (·.1)).erase k/\jC rd n P ops c (a.put ok.dst v) d/\ed ops (a.put ok.dst v) d=ed ops a l
 |(m,u)::l,s,hr,y=>by
  obtain⟨z,I,J,K,A,f,L,M,N,O,S⟩:=s;obtain⟨i,U,j,o⟩:=hr;rw[f]at j;cases j;by_cases e:m=k
  .subst e;rw[g]at f;cases f;have V: ∀x∈l.map (·.1),∃p,ops[x]? =a6 p/\p.apart ops ok=true:=fun x B=>by
    grind [Zl,gG.un]
   refine⟨u,l,o.congr ?_,by simp,jC.put hd i fun x B=> ?_, ?_⟩
   .grind [Aa,l9,Oper.apart_spec,qO]
   .grind [Oper.apart_spec]
   grind [ed,qO,uB,Oper.apart_spec]
  .have D:k∈l.map (·.1):=(List.mem_cons.1 y).resolve_left fun h=>e h.symm;obtain⟨v,d,E,W,G,q⟩:=Q7 hd g hk z i D;refine⟨v,(m,u)::d,E, ?_,⟨G,A,f,by rw[q];exact o⟩,by rw[ed,ed,q]⟩;simp_all
theorem xq {d:Type} {f:d->d->Bool} (hf: ∀x y,f x y=true->x=y): ∀(a b:List d),um f a b=true->a=b
 |[],[],_=>rfl
 |[],_::_,h=>by simp[um]at h
 |_::_,[],h=>by simp[um]at h
 |x::l,y::m,h=>by
  simp only[um,af]at h;rw[hf x y h.1,xq hf l m h.2]
theorem H6: ∀(t:Ty) (x y:t.den),Tf t x y=true->x=y
 |.unit,(),(),_=>rfl
 |.bool,x,y,h=>by simpa [Tf] using h
 |.int _,x,y,h=>by simpa [Tf,bC] using h
 |.str,x,y,h=>by simpa [Tf,iG] using h
 |.list t,x,y,h=>xq (H6 t) x y h
 |.pair a b,x,y,h=>by
  simp only[Tf,af]at h;exact Prod.ext (H6 a _ _ h.1) (H6 b _ _ h.2)
theorem ahM {t u:Ty} {x:t.den} {y:u.den} (h:(match iR t y with|some y=>Tf t x y|none=>false)=true): ∃e:u=t,x=cast (congrArg Ty.den e) y:=by
 grind [kK,H6]
theorem aeK {a b:Option (Int×Int)} (h:ZZ a b=true):a=b:=by
 cases a<;>cases b<;>simp_all [ZZ,bC,Prod.ext_iff]
theorem jy {a b:Nat} (h:Nat.beq a b=true):a=b:=ah h
mutual
theorem ahQ: ∀(a b:bn),Po a b=true->a=b
 |.undef,b,h=>by grind [Po]
 |.val t x,b,h=>by
  cases b<;>simp only[Po,ag]at h;obtain⟨e,h⟩:=ahM h;simp_all
 |.nils,b,h=>by grind [Po]
 |.nilp,b,h=>by grind [Po]
 |.nilfn,b,h=>by grind [Po]
 |.emp,b,h=>by grind [Po]
 |.tup l,b,h=>by
  cases b<;>simp only[Po,ag]at h;rw[oD l _ h]
 |.agg l,b,h=>by
  cases b<;>simp only[Po,ag]at h;rw[oD l _ h]
 |.cellp t x,b,h=>by
  cases b<;>simp only[Po,ag]at h;obtain⟨e,h⟩:=ahM h;simp_all
 |.lst t x n,b,h=>by
  cases b<;>simp only[Po,ag,af]at h;obtain⟨j,d⟩:=h;split at d
  .rename_i z g
   obtain⟨e,p⟩:=kK g;have q:=H6 (.list t) x z d
   grind
  .cases d
 |.ptr i o,b,h=>by
  cases b<;>simp only[Po,ag,af]at h;simp_all
 |.slc i v w,b,h=>by
  cases b<;>simp only[Po,ag,af]at h
  grind [jy,aeK]
 |.ep i v m o,b,h=>by
  cases b<;>simp only[Po,ag,af]at h;rw[jy h.1,jy h.2.1,jy h.2.2.1,jy h.2.2.2]
 |.fn f l,b,h=>by
  cases b<;>simp only[Po,ag,af]at h;rw[jy h.1,oD l _ h.2]
 |.mfn f l,b,h=>by
  cases b<;>simp only[Po,ag,af]at h;rw[jy h.1,oD l _ h.2]
 |.mpv i,b,h=>by
  cases b<;>simp only[Po,ag]at h;rw[jy h]
 |.yld i,b,h=>by
  cases b<;>simp only[Po,ag]at h;rw[jy h]
 |.slf i,b,h=>by
  cases b<;>simp only[Po,ag]at h;rw[jy h]
 |.sd i v,b,h=>by
  cases b<;>simp only[Po,ag,af]at h;simp_all
theorem oD: ∀(a b:List bn),Eb a b=true->a=b
 |[],[],_=>rfl
 |[],_::_,h=>by simp[Eb]at h
 |_::_,[],h=>by simp[Eb]at h
 |a::l,b::m,h=>by
  simp only[Eb,af]at h;rw[ahQ a b h.1,oD l m h.2]
end
theorem mP: ∀(B:List Nat) (fr:List bn),(mF ops B fr).length=fr.length
 |[],_=>rfl
 |i::B,fr=>by
  simp only[mF];split
  .rw[List.length_set];exact mP B fr
  .exact mP B fr
theorem Wy {k d:Nat} {B:List Nat} {fr:List bn} (h:rU ops k=a6 d):mF ops (k::B) fr=(mF ops B fr).set d .undef:=by
 have e:(ops[k]?).bind (·.dst)=a6 d:=h;simp only[mF,e]
theorem Wx {k:Nat} {B:List Nat} {fr:List bn} (h:rU ops k=a7):mF ops (k::B) fr=mF ops B fr:=by
 have d:(ops[k]?).bind (·.dst)=a7:=h;simp only[mF,d]
theorem Ql: ∀(B:List Nat) (fr:List bn) (i:Nat) (h:i<fr.length) (e:i<(mF ops B fr).length),(mF ops B fr)[i]=.undef\/((mF ops B fr)[i]=fr[i]/\ ∀k∈B,rU ops k≠a6 i)
 |[],fr,i,h,e=>.inr ⟨rfl,fun k hk=>by cases hk⟩
 |k::B,fr,i,h,e=>by
  have hl:=mP (ops:=ops) B fr;have f:=Ql B fr i h (by rw[hl];exact h);cases hd:rU ops k with
  |some d=>
   simp only[Wy hd]
   grind
  |none=>
   simp_all [Wx]
theorem arf (X:Act) (d:Option Nat) (v:Value) (i:Nat) (e:d≠a6 i) (h:i<(X.put d v).tmps.size) (f:i<X.tmps.size):(X.put d v).tmps[i]=X.tmps[i]:=by
 cases d with
 |none=>rfl
 |some d=>
  simp_all [Act.put]
theorem Q9 (a:Act) (i:Nat): ∀(l:List (Nat×Value)),(∀k∈l.map (·.1),rU ops k≠a6 i)-> ∀(h:i<(ed ops a l).tmps.size) (d:i<a.tmps.size),(ed ops a l).tmps[i]=a.tmps[i]
 |[],_,h,d=>rfl
 |(k,v)::l,hk,h,d=>by
  have e:i<(ed ops a l).tmps.size:=by rw[rC];exact d
  rw[<-Q9 a i l (fun m f=>hk m (ak _ f)) e d];exact arf _ _ _ _ (hk k aA) h e
theorem ad8 {c:Cx} {fr:List bn} {l:List (Nat×Value)} {B:List Nat} (h:bg c fr (ed ops a l).tmps.toList) (j: ∀k∈l.map (·.1),k∈B):bg c (mF ops B fr) a.tmps.toList:=by
 have g:=bg.length _ _ h;rw[Array.length_toList (xs:=(ed ops a l).tmps),rC]at g;refine bg.mk _ _ (by simp_all [mP]) fun i d f=> ?_;rw[mP]at d;have f:i<a.tmps.size:=by simpa using f
 rcases Ql (ops:=ops) B fr i d (by assumption)with e|⟨e,hk⟩
 .rw[e];simp[bu]
 .rw[e];have:=bg.get _ _ h i d (by simp_all [rC])
  grind [Q9]
theorem JZ {o:Oper} (h:iY o.op=true): ∀cs b,o.op≠ .select cs b:=fun cs b e=>by simp_all [iY]
theorem afz {d:Op} (h:gq d=true):iY d=true:=by
 cases d<;>first|exact h|skip
 rename_i e
 obtain⟨f,g,i⟩:=e;cases f with
 |builtin b=>cases b<;>first|exact h|(simp[gq]at h)
 |value v=>rfl
 |invoke x m=>simp[gq]at h
def agC (T:TT) (cl:Bool) {R:Type} (call:eF R) (ops:Array Oper) (d:List bn) (st:St) (k:Nat):Prop:=∃ok,ops[k]? =a6 ok/\((gq ok.op=true/\ ∃(r:R) (K:St->Option R),(dH T cl call ok st fun z s=>cond (sameAt ok.dst z st) (K s) a7)=a6 r)\/ (gq ok.op=false/\iQ ok d=iQ ok st.fr/\wY ok.dst d=wY ok.dst st.fr))
theorem zo {R:Type} {r:R} (hT:TOk P T) {call:eF R} {f:List bn} {K:St->Option R} (hr:gI W0 b0 rd c st a ats): ∀(B:List Nat),
  vP T cl call ops f B st K=a6 r->K st=a6 r/\ ∀k∈B,agC T cl call ops f st k
 |[],h=>⟨h,fun k hk=>by cases hk⟩
 |k::B,h=>by
  simp only[vP]at h;split at h
  .rename_i ok i
   cases hq:gq ok.op with
   |true=>
    rw[hq]at h;simp only[aa]at h;have j:=h;obtain⟨z,u,g1,g2,g3⟩:=xQ hT hr.ok hq hr.hp hr.fr h;replace g1:=bK g1;obtain⟨g4,g5⟩:=zo hT hr B g1.2;refine⟨g4,fun m d=> ?_⟩;rcases List.mem_cons.1 d with e|d
    .exact⟨ok,by rw[e];exact i,.inl ⟨hq,r,fun _=>vP T cl call ops f B st K,j⟩⟩
    .exact g5 m d
   |false=>
    rw[hq]at h;simp only[ac]at h;replace h:=bK h;obtain⟨g,h⟩:=h;simp only[af]at g;obtain⟨g4,g5⟩:=zo hT hr B h;refine⟨g4,fun m d=> ?_⟩;rcases List.mem_cons.1 d with e|d
    .exact⟨ok,by rw[e];exact i,.inr ⟨hq,oD _ _ g.1,oD _ _ g.2⟩⟩
    .exact g5 m d
  .cases h
theorem qH.same {o:Oper} {fr e:List bn} {z:bn} (h:qH sg cl o fr z) (q:iQ o fr=iQ o e) (h2:wY o.dst fr=wY o.dst e):qH sg cl o e z:=by
 obtain⟨f,g,i,s,j,l,u,p⟩:=h;refine⟨f,g,i,fun d hd=> ?_,j,l,by simp_all,p⟩;simp_all [wY]
theorem YH {d:Nat} {z:bn} (h:z=st.fr.getD d .undef):st.put (a6 d) z=st:=by
 obtain⟨fr,e,f,g⟩:=st;simp only[St.put];have:fr.set d z=fr:=by
  subst h;apply List.ext_getElem
  all_goals grind
 rw[this]
theorem anW (X:Act) (d:Option Nat) (v u:Value):(X.put d v).put d u=X.put d u:=by
 cases d with
 |none=>rfl
 |some d=>simp[Act.put]
theorem Qh (hT:TOk P T) (hd:kU ops=true) (G:lC (R:=Unit) P (Dk sg cl)) {R:Type} {call:eF R} {V:List bn} {lA:Array Bool} {log:List Nat}: ∀(l q:List (Nat×Value)),gG ops lA log (l.map (·.1))->gI W0 b0 rd c st (ed ops (ed ops a l) q) ats->
  (∀k∈l.map (·.1),agC T cl call ops V st k)->Hu sg cl ops st.fr (l.map (·.1))->(∀m∈q.map (·.1),∃i,ops[m]? =a6 i/\ ∀k∈l.map (·.1),∃ok,ops[k]? =a6 ok/\agF ops ok i)->
  ∃f,f.map (·.1)=l.map (·.1)/\gI W0 b0 rd c st (ed ops (ed ops a f) q) ats/\jC rd n P ops c a f
 |[],q,_,hr,_,_,_=>⟨[],rfl,hr,trivial⟩
 |(k,v)::l,q,W,hr,I,hF,J=>by
  obtain⟨X,s2,s3,s4,ok,o,L,s7,Y,s9,aj⟩:=W;have Z: ∀m∈(q++[(k,v)]).map (·.1),∃i,ops[m]? =a6 i/\ ∀x∈l.map (·.1),∃M,ops[x]? =a6 M/\agF ops M i:=fun m g=>by
   grind
  obtain⟨f,e1,j,ab⟩:=Qh hT hd G l (q++[(k,v)]) X (by rw[wU];exact hr) (fun m g=>I m (ak _ g)) (fun m g=>hF m (ak _ g)) Z;rw[wU]at j;have hX:ed ops (ed ops a f) [(k,v)]=(ed ops a f).put (rU ops k) v:=rfl;rw[hX]at j;have y:=qO o;have ad:execOp (ed ops ((ed ops a f).put (rU ops k) v) q).eval ok=execOp (ed ops a f).eval ok:=by
   rw[Aa _ (JZ L) q fun m g e he=> ?_,execOp_put (ops:=ops) ok (JZ L) _ _ _ (by rw[y];exact Y)];obtain⟨i,h1,A⟩:=J m g;obtain⟨N,p,B⟩:=A k aA;rw[o]at p;cases p;exact(B e (by grind [qO])).1
  have O: ∀u,ed ops ((ed ops a f).put (rU ops k) u) q=(ed ops (ed ops a f) q).put (rU ops k) u:=fun u=>uB _ q fun m g e he h=>by
   obtain⟨i,h1,A⟩:=J m g;obtain⟨N,p,B⟩:=A k aA;rw[o]at p;cases p;exact(B e (by grind [qO])).2 (by simp_all)
  have S: ∀(z:bn) (u:Value),bu c z u->st.put ok.dst z=st->DY rd n P c (ed ops ((ed ops a f).put (rU ops k) v) q) ok u->
    ∃D,D.map (·.1)=((k,v)::l).map (·.1)/\gI W0 b0 rd c st (ed ops (ed ops a D) q) ats/\jC rd n P ops c a D:=fun z u g2 ai g3=>by
   refine⟨(k,u)::f,by simp[e1], ?_,ab,ok,o,g3.congr ad.symm⟩;have:=j.put (dst:=ok.dst) g2;rw[ai,O v,y,anW,<-y,<-O u]at this;exact this
  obtain⟨N,U,a2⟩:=I k aA;rw[o]at U;cases U;rcases a2 with ⟨E,r,K,a3⟩|⟨E,_,_⟩
  .obtain⟨z,u,g1,g2,g3⟩:=xQ hT j.ok E j.hp j.fr a3;rw[cond_eq_ite]at g1;split at g1
   .rename_i s
    refine S z u g2 ?_ (.of_run g3);cases hdst:ok.dst with
    |none=>rfl
    |some d=>
     rw[hdst]at s;exact YH (ahQ _ _ s)
   .cases g1
  .obtain⟨z,s⟩:=hF k aA ok o E;obtain⟨g2,g3⟩:=LH (n:=n) hT G s rfl j;refine S z _ g2 ?_ g3;cases hdst:ok.dst with
   |none=>rfl
   |some d=>exact YH (s.2.2.2.1 d hdst)
theorem BZ (hT:TOk P T) (hd:kU ops=true) (L:lC (R:=Unit) P (Dk sg cl)) {R:Type} {r:R} {call:eF R} (M:kP P W0 n call) {lA:Array Bool} {log:List Nat} {l:List (Nat×Value)} {j:Nat} {K:St->Option R}
  (hF:Hu sg cl ops st.fr (l.map (·.1))) (hj:j∈Region.ready .any ops lA) (x:gG ops lA log (l.map (·.1))) (ab:j∉l.map (·.1)) (hr:gI W0 b0 rd c st (ed ops a l) ats)
  (h:qW T cl call ops j log st K=a6 r) {next:Act->World->Prop} {Q:Exit->Act->World->Prop}
  (N: ∀c' o p d,K o=a6 r->d.map (·.1)=l.map (·.1)->gI W0 b0 rd c' o (ed ops p d) ats->jC rd n P ops c' p d->Hu sg cl ops o.fr (l.map (·.1))->c.Mono c'->next p c'.w):wpOpIn (FW rd) n P ops Q j next a c.w:=by
 unfold qW at h;split at h
 .rename_i f O
  replace h:=bK h;obtain⟨q,h⟩:=h;simp only[af]at q;have S:f.guard=a7:=by simpa using q.1
  unfold wpOpIn;simp only[O];rw[am (by simp[Region.wanted,S])];have y: ∀k∈l.map (·.1),k∈log.filter fun i=> !qF ops j i:=fun k hk=>List.mem_filter.2 ⟨gG.log x k hk,by grind [Zl,gG.un]⟩;have ad: ∀k∈l.map (·.1),∃ok,ops[k]? =a6 ok/\ok.apart ops f=true:=fun k hk=>by
   have U:=q.2;unfold ajM at U
   grind
  have V:gI W0 b0 rd c {st with fr:=mF ops (log.filter fun i=> !qF ops j i) st.fr,stk:=st.fr::st.stk} a ((ed ops a l).tmps::ats):=
   ⟨hr.hp,hr.nxt,hr.ok,ad8 hr.fr y,⟨hr.fr,hr.stk⟩,by have:=hr.df;rwa [wV]at this,hr.rd⟩
  refine Oe hT M h V fun c' z u W k1 k2 k3 k4=> ?_;split at k1
  .rename_i fr s X
   have g:=k2.stk;rw[X]at g;simp only[zD]at g;have Y:gI W0 b0 rd c' {W with fr:=fr,stk:=s} (ed ops a l) ats:=
    ⟨k2.hp,k2.nxt,k2.ok,g.1,g.2,by rw[wV];exact k2.df,k2.rd⟩
   have v:=Y.put (dst:=f.dst) k3;have Z:(ed ops a l).put f.dst u=ed ops (a.put f.dst u) l:=(uB a l fun m A e he hh=>by
    grind [Oper.apart_spec,qO]).symm
   rw[Z]at v;obtain⟨g1,g2⟩:=zo hT v _ k1;have B: ∀k∈l.map (·.1),agC T cl call ops st.fr _ k:=fun k hk=>g2 k (List.mem_reverse.2 (y k hk));have D:Hu sg cl ops _ (l.map (·.1)):=fun k hk ok E G=>by
    obtain⟨z,hz⟩:=hF k hk ok E G;obtain⟨ai,I,b2⟩:=B k hk;rw[E]at I;cases I;rcases b2 with ⟨J,_⟩|⟨_,b4,b5⟩
    .rw[G]at J;cases J
    .exact⟨z,hz.same b4 b5⟩
   obtain⟨d,e1,e2,e3⟩:=Qh (n:=n) hT hd L l [] x v B D (fun m A=>by cases A);exact N c' _ _ d g1 e1 e2 e3 D k4
  .cases k1
 .cases h
def Zp (h:fD):Prop:= ∀id f e g iK d k n p,cZ h id=a6 (.lp f e g iK d (a6 k) n p)->oO f k=a6 (iK,d)
theorem gI.tidy {c:Cx} {st:St} {a:Act} (cl:Bool) (hr:gI W0 b0 rd c st a ats): ∃c',gI W0 b0 rd c' (tidy cl st) a ats/\c.Mono c'/\c'.w=c.w:=by
 cases cl with
 |true=>exact⟨c,hr,Cx.Mono.refl c,rfl⟩
 |false=>
  have f: ∀i,cZ (jT c.hp) i=cZ c.hp i:=fun i=>uu i _;have q: ∀(o:bY) (l:Loc),o.like l o l:=fun o l=>by
   cases o<;>simp[bY.like]
  have d:c.Le {c with hp:=jT c.hp}:=by
   refine⟨fun b e=>⟨⟨e.1,fun⟨j,o,s,g⟩=>e.2.1 ⟨j,o,by simp_all,g⟩,e.2.2⟩,rfl⟩,fun id hk=> ?_,fun id u _ h=>⟨u,by rw[<-f];exact h,q _ _⟩,fun _ h=>h,fun b L h=>⟨L,h⟩,ae _,rfl⟩;rcases hk with ⟨o,h⟩|h
   .exact .inl ⟨o,by simp_all⟩
   .exact .inr h
  have v:({c with hp:=jT c.hp}:Cx).Ok W0:=by
   refine⟨hr.ok.bel,fun id o h=> ?_,fun i j o p b s g=>hr.ok.inj i j o p b (by simp_all) (by simp_all),hr.ok.mks,fun b e=>(d.out b (hr.ok.bar b e)).1,hr.ok.phi⟩;exact(hr.ok.obj id o (by rw[<-f];exact h)).le d rfl fun b _=>rfl
  exact⟨{c with hp:=jT c.hp},⟨by show jT c.hp=jT st.hp;rw[hr.hp],hr.nxt,v,bg.le d _ _ hr.fr,zD.le d _ _ hr.stk,hr.df,hr.rd⟩,d.mono,rfl⟩
theorem gI.wf {c:Cx} {st:St} {a:Act} (hr:gI W0 b0 rd c st a ats):Zp st.hp:=fun id f d e iK g k n p h=>by
 rw[<-hr.hp]at h;exact(hr.ok.obj id _ h).1 k rfl
def WfO:bY->Prop
 |.lp f _ _ iK bd (a6 k) _ _=>oO f k=a6 (iK,bd)
 |_=>True
theorem Jg: ∀(h:fD),qj h=true->Zp h-> ∀e∈h,WfO e.2
 |[],_,_,e,d=>by simp at d
 |(k,o)::h,g,s,e,d=>by
  simp only[qj,af,Bool.not_eq_true']at g;rcases List.mem_cons.1 d with rfl|d
  .cases o with
   |lp f i j iK l ky n p=>
    cases ky with
    |none=>trivial
    |some q=>exact s k f i j iK l q n p (by simp[dG])
   |_=>trivial
  .refine Jg h g.2 (fun id f i j iK l q n p v=>s id f i j iK l q n p ?_) e d;rw[dG];by_cases hk:k=id
   .subst hk;have:=ut _ _ _ v;have u:=g.1;rw[List.any_eq_false]at u;exact absurd (by simp:Nat.beq k k=true) (u _ this)
   simp_all
theorem al2 {a b:Ex} (h:apH a b=true):a=b:=by
 cases a<;>cases b<;>simp only[apH,ag]at h<;>first|rfl|rw[jy h]
theorem ahO {a b:Option Ex} (h:ahN a b=true):a=b:=by
 cases a<;>cases b<;>simp only[ahN,ag]at h
 .rfl
 .rw[al2 h]
theorem alu {o:fD} {i:Nat} {a b x:bY} (s:Zp o) (hb:WfO b) (d:eqO a b=true) (h:O9 o i a=a6 x):x=b:=by
 cases a with
 |box t l=>
  cases b<;>simp only[eqO,ag,af]at d;cases h;rw[jy d.1,oD _ _ d.2]
 |arr t v y=>
  cases b<;>simp only[eqO,ag,af]at d;cases h
  grind [kK,H6,jy]
 |dead=>
  cases b<;>simp only[eqO,ag]at d;cases h;rfl
 |mp k v l=>
  cases b<;>simp only[eqO,ag,af,decide_eq_true_eq]at d;obtain⟨rfl,rfl,rfl⟩:=d;cases h;rfl
 |lp f fr ps iK bd ky n p=>
  cases b<;>simp only[eqO,ag,af]at d
  rename_i g G I J K L m q
  obtain⟨u,M,N,e,O,S⟩:=d;split at e
  .rename_i k U
   have z:=jy u;have A:=jy e;subst z A;simp only[O9]at h;split at h
   .rename_i B
    replace h:=bK h;obtain⟨j,h⟩:=h;simp only[af]at j
    rename_i g2 _ _ V W k2 _ _
    have D:=jy j.1;have E:=jy j.2;subst D E;have X:=s _ _ _ _ _ _ _ _ _ B
    grind [WfO,oD,xq,jy,ahO]
   .cases h
  .cases e
theorem O7 {f:fD} (g:Zp f): ∀(a b x:fD),(∀e∈b,WfO e.2)->eqH a b=true->O6 f a=a6 x->x=b
 |[],b,x,_,d,h=>by
  cases b with
  |nil=>cases h;rfl
  |cons _ _=>simp[eqH]at d
 |(i,o)::a,b,x,l,d,h=>by
  cases b with
  |nil=>simp[eqH]at d
  |cons e b=>
   obtain⟨j,s⟩:=e;simp only[eqH,af]at d;simp only[O6]at h;split at h
   .rename_i y p
    split at h
    .rename_i z q
     cases h;rw[alu g (l _ aA) d.2.1 p,O7 g a b z (fun e d=>l e (ak _ d)) d.2.2 q,jy d.1]
    .cases h
   .cases h
theorem afH {d:fD} {a b m:St} (h:settle d a=a6 m) (e:Zp d) (h2:ahP a b=true) (f:qj b.hp=true) (hb:Zp b.hp):m=b:=by
 unfold settle at h;split at h
 .rename_i hp g
  cases h;unfold ahP at h2;simp only[af]at h2;obtain⟨j,l,i,o⟩:=h2;have p:=O7 e _ _ _ (Jg _ f hb) i g;obtain⟨q,s,u,v⟩:=a;obtain⟨x,y,z,A⟩:=b
  grind [oD,xq,jy]
 .cases h
theorem abk {e:fD} {i:Nat} {a x:bY} (g:Zp e) (q:WfO a) (h:O9 e i a=a6 x):x=a:=by
 cases a with
 |lp f fr ps iK bd ky n p=>
  cases ky with
  |none=>simp[O9]at h
  |some k=>
   simp only[O9]at h;split at h
   .rename_i j
    replace h:=bK h;obtain⟨d,h⟩:=h;simp only[af]at d;have l:=jy d.1;have o:=jy d.2;subst l o;have s:=g _ _ _ _ _ _ _ _ _ j;simp_all [WfO]
   .cases h
 |_=>simp_all [O9]
theorem O8 {d:fD} (f:Zp d): ∀(a x:fD),(∀e∈a,WfO e.2)->O6 d a=a6 x->x=a
 |[],x,_,h=>by cases h;rfl
 |(i,o)::a,x,g,h=>by
  simp only[O6]at h;split at h
  .rename_i y j
   split at h
   .rename_i z l
    cases h;rw[abk f (g _ aA) j,O8 f a z (fun e p=>g e (ak _ p)) l]
   .cases h
  .cases h
theorem YW {d:fD} {a m:St} (h:settle d a=a6 m) (e:Zp d) (f:qj a.hp=true) (g:Zp a.hp):m=a:=by
 unfold settle at h;split at h
 .rename_i hp i
  cases h;rw[O8 e _ _ (Jg _ f g) i]
 .cases h
theorem Yc {e:fD} {L:List (Option St)} {m:St} (h:NY e L=a6 m) (f:Zp e): ∀x∈L,∃b,x=a6 b/\(Zp b.hp->m=b):=by
 unfold NY at h;split at h
 .rename_i a l
  replace h:=bK h;obtain⟨g,h⟩:=h;split at h
  .rename_i hp i
   cases h;intro x j;have d:=List.all_eq_true.1 g x j;cases x with
   |none=>simp at d
   |some b=>
    simp only[af]at d;refine⟨b,rfl,fun o=> ?_⟩;obtain⟨d,p⟩:=d;unfold ahP at d;simp only[af]at d;obtain⟨s,u,q,v⟩:=d;have y:=O7 f _ _ _ (Jg _ p o) q i;obtain⟨z,A,B,D⟩:=a;obtain⟨E,G,I,J⟩:=b
    grind [oD,xq,jy]
  .cases h
 .cases h
def WI (ops:Array Oper) (lA:Array Bool):Nat:=((List.range ops.size).filter fun i=> !lA.getD i true).length
theorem filter_lt {f:Type} {p q:f->Bool}: ∀(l:List f),(∀x∈l,q x=true->p x=true)->(∃x∈l,p x=true/\q x=false)->(l.filter q).length<(l.filter p).length
 |[],_,h=>by simp_all
 |y::l,h,d=>by
  have o:(l.filter q).length<=(l.filter p).length:=by
   clear d
   induction l with
   |nil=>simp
   |cons z l g=>
    grind
  obtain⟨x,d,i,j⟩:=d;simp only[List.filter_cons];rcases List.mem_cons.1 d with e|d
  .grind
  .have g:=filter_lt l (fun x d=>h x (ak _ d)) ⟨x,d,i,j⟩
   grind
theorem Fh {lA:Array Bool} {j:Nat} (l:lA.size=ops.size) (d:j∈Region.ready .any ops lA):WI ops (lA.setIfInBounds j true)<WI ops lA:=by
 obtain⟨f,o,g,_⟩:=mem_ready.1 d;have i:j<ops.size:=(Array.getElem?_eq_some_iff.1 g).1;refine filter_lt _ (fun x p h=> ?_) ⟨j,List.mem_range.2 i,by rw[f];rfl, ?_⟩
 .by_cases e:j=x
  all_goals simp_all
 simp
theorem aec {lA:Array Bool} (h:WI ops lA=0):Region.ready .any ops lA=[]:=by
 simp_all [WI,Region.ready]
theorem gG.oldest {lA:Array Bool} {log:List Nat}: ∀{l:List Nat},gG ops lA log l->l≠[]-> ∃k∈l,k∈Region.ready .any ops lA
 |[],_,h=>absurd rfl h
 |[k],h,_=>by
  obtain⟨_,e,_,_,ok,f,_,_,_,g,_⟩:=h;simp_all [mem_ready]
 |k::m::l,h,_=>by
  obtain⟨x,d,hr⟩:=gG.oldest h.1 (by simp);exact⟨x,ak _ d,hr⟩
structure Lag (n:Nat) (sg:FuncId->Option Sum) (cl:Bool) (P:Program) (W0:World) (b0:Nat) (rd:Option Nat) (ats:List (Array Value)) (ops:Array Oper) (c:Cx) (st:St) (lE:Array Bool) (log:List Nat) (a:Act) (lA:Array Bool) (l:List (Nat×Value)):Prop where
 rel:gI W0 b0 rd c st (ed ops a l) ats
 pst:gG ops lA log (l.map (·.1))
 run:jC rd n P ops c a l
 sA:lA.size=ops.size
 sE:lE.size=ops.size
 sub: ∀j,lA.getD j false=true->lE.getD j false=true
 cov: ∀j,lE.getD j false=true->lA.getD j false=true\/j∈l.map (·.1)
 hE: ∀k∈l.map (·.1),lE.getD k false=true
 fit:Hu sg cl ops st.fr (l.map (·.1))
theorem TF {l:Array Bool} {j:Nat} (h:j<l.size):l.getD j true=l.getD j false:=by simp[h]
theorem Lag.ready {d:Array Bool} {log:List Nat} {lA:Array Bool} {l:List (Nat×Value)} (h:Lag n sg cl P W0 b0 rd ats ops c st d log a lA l) {j:Nat} (g:j∈Region.ready .any ops lA) (v:j∉l.map (·.1)):j∈Region.ready .any ops d:=by
 obtain⟨x,i,f,o⟩:=mem_ready.1 g;have p:j<ops.size:=(Array.getElem?_eq_some_iff.1 f).1;refine mem_ready.2 ⟨?_,i,f,fun e q s=>h.sub _ (o e q s)⟩;cases hg:d.getD j true with
 |false=>rfl
 |true=>
  rw[TF (by rw[h.sE];exact p)]at hg;rcases h.cov j hg with u|u
  all_goals grind
theorem KE (hd:kU ops=true) {f:Array Bool} {log:List Nat} {Q:Act->World->Prop}
  (I:Region.ready .any ops f=[]-> ∀w,Dh c w-> ∀a,gI W0 b0 rd (c.at_ w) st a ats->Q a w)
  (J: ∀(w:World),Dh c w-> ∀(d:Nat) (a:Act) (lA:Array Bool) (l:List (Nat×Value)) (j:Nat),Lag n sg cl P W0 b0 rd ats ops (c.at_ w) st f log a lA l->WI ops lA<=d+1->j∈Region.ready .any ops lA->j∉l.map (·.1)->j∈Region.ready .any ops f->
   wpOpIn (FW rd) n P ops (fun e a w=>e=.normal/\Q a w) j (wpAnyIn (FW rd) n P .any ops (fun e a w=>e=.normal/\Q a w) d (lA.setIfInBounds j true)) a w):
  ∀(m d:Nat) (w:World),Dh c w-> ∀(a:Act) (lA:Array Bool) (l:List (Nat×Value)),l.length=m->Lag n sg cl P W0 b0 rd ats ops (c.at_ w) st f log a lA l->WI ops lA<=d->
   wpAnyIn (FW rd) n P .any ops (fun e a w=>e=.normal/\Q a w) d lA a w:=by
 have B: ∀(w:World),Dh c w-> ∀(a:Act) (lA:Array Bool) (l:List (Nat×Value)),Lag n sg cl P W0 b0 rd ats ops (c.at_ w) st f log a lA l->Region.ready .any ops lA=[]->Q a w:=fun w g a lA l h hr=>by
  have hl:l=[]:=by
   cases l with
   |nil=>rfl
   |cons x l=>
    obtain⟨k,_,hk⟩:=gG.oldest h.pst (by simp);simp_all
  subst hl;refine I ?_ w g a h.rel;cases hrE:Region.ready .any ops f with
  |nil=>rfl
  |cons j V=>
   obtain⟨o,p,D,K⟩:=mem_ready.1 (show j∈Region.ready .any ops f by rw[hrE];simp);have s:j<ops.size:=(Array.getElem?_eq_some_iff.1 D).1;have:j∈Region.ready .any ops lA:=mem_ready.2 ⟨by
    cases hg:lA.getD j true with
    |false=>rfl
    |true=>
     rw[TF (by rw[h.sA];exact s)]at hg;exact(Ij (h.sub j hg) o).elim,p,D,fun e L M=>(h.cov _ (K e L M)).resolve_right (by simp)⟩
   simp_all
 intro m
 induction m using Nat.strongRecOn with
 |ind m u=>
  intro d w g a lA l q h N;cases d with
  |zero=>
   have hr:=aec (ops:=ops) (lA:=lA) (by omega);exact⟨hr,rfl,B w g a lA l h hr⟩
  |succ d=>
   refine⟨fun hr=>⟨rfl,B w g a lA l h hr⟩,fun j i=> ?_⟩;by_cases hjl:j∈l.map (·.1)
   .obtain⟨W,p,y,X⟩:=mem_ready.1 i;obtain⟨v,z,g1,g2,g3,g4⟩:=Q7 hd y i h.pst h.run hjl;have s:j<ops.size:=(Array.getElem?_eq_some_iff.1 y).1;have O:p.guard=a7:=by
     have: ∀(l:List Nat),gG ops lA log l->j∈l->p.guard=a7:=fun l=>by
      induction l with
      |nil=>intro _ h;cases h
      |cons k l u=>
       intro E q;rcases List.mem_cons.1 q with e|q
       .subst e;obtain⟨_,_,_,_,ok,Y,_,Z,_⟩:=E;simp_all
       .exact u E.1 q
     exact this _ h.pst hjl
    have S:z.length<m:=by
     grind [aI]
    refine g1.wpOp (c:=c.at_ w) hd y O fun G A=> ?_;have U:Dh c G:=Below.trans g (A.mono g.size);refine u z.length S d G U _ _ z rfl ⟨by rw[g4];exact h.rel.ext A,by rw[g2];exact gG.take (by rw[h.sA];exact s) h.pst hjl,jC.ext A g3,by simpa using h.sA,h.sE,fun k hk=> ?_,fun k hk=> ?_,fun k hk=>h.hE k (by grind),fun k hk=>h.fit k (by grind)⟩ (by have:=Fh h.sA i;omega)
    .by_cases e:j=k
     .subst e;exact h.hE j hjl
     .rw[getD_set_ne false e]at hk;exact h.sub k hk
    .rcases h.cov k hk with o|o
     .exact .inl (getD_set_true o)
     grind [uG]
   .exact J w g d a lA l j h N i hjl (h.ready i hjl)
theorem aeO {fr:List bn} {d:Nat} {z:bn} {x:Operand} (h:x≠ .tmp d):fG (fr.set d z) x=fG fr x:=by
 cases x with
 |tmp t=>
  grind [fG]
 |_=>rfl
theorem yz {o:Oper} {dst:Option Nat} {z:bn} (h: ∀d,dst=a6 d->d∉o.looksAt ops):iQ o (st.put dst z).fr=iQ o st.fr:=by
 cases dst with
 |none=>rfl
 |some d=>
  have f: ∀x∈o.op.operands,x≠ .tmp d:=fun x f e=>h d rfl (by
   subst e;exact List.mem_append_left _ (List.mem_filterMap.2 ⟨.tmp d,by simpa using f,rfl⟩))
  grind [iQ,St.put,aeO,Op.operands,Call.operands,List.map_congr_left]
theorem aba {o:Oper} {dst:Option Nat} {z:bn} (h: ∀d,dst=a6 d->o.dst≠a6 d):wY o.dst (st.put dst z).fr=wY o.dst st.fr:=by
 cases dst with
 |none=>rfl
 |some d=>
  cases ho:o.dst with
  |none=>rfl
  |some e=>
   have f:d≠e:=fun x=>h d rfl (by rw[ho,x]);simp_all [wY,St.put]
theorem QS: ∀(rs:List (Ty×Bool)) y,(rs.all fun r=> !r.2&&r.1.rigid)=true->vz rs y=a7/\news rs=0/\(rs.all fun r=>r.1.rigid||(r.2&&r.1.elem.rigid))=true
 |[],_,_=>⟨rfl,rfl,rfl⟩
 |(t,true)::rs,y,h=>by simp at h
 |(t,false)::rs,y,h=>by
  simp only[List.all_cons,aB,aK,af]at h;obtain⟨d,e,f⟩:=QS rs y.2 h.2;simp_all [vz,news]
theorem Qi {hp hp':fD}: ∀(d:List Ty) (args:List bn),args.all bn.calm=true->xg hp d args=xg hp' d args
 |[],[],_=>rfl
 |[],_::_,_=>rfl
 |_::_,[],_=>rfl
 |t::d,v::args,h=>by
  simp only[List.all_cons,af]at h;have e:v.as hp t=v.as hp' t:=by cases v<;>simp only[bn.calm,ag]at h<;>first|rfl|simp_all
  have f:=Qi (hp:=hp) (hp':=hp') d args h.2;simp only[xg,e,f]
theorem aa7 {R:Type} {r:R} {i:Nat} {e:Oper} {X:bn->St->Option R} (hi:TQ sg ops st.fr i=true) (A:ops[i]? =a6 e) (B: ∀d,e.dst=a6 d->d∉e.looksAt ops)
  (h:dH T cl (Dk sg cl) e st X=a6 r): ∃z,X z st=a6 r/\iY e.op=true/\qH sg cl e (st.put e.dst z).fr z:=by
 unfold TQ at hi;rw[A]at hi;simp only at hi;split at hi
 .rename_i g o j
  split at hi
  .rename_i s D
   simp only[af]at hi;obtain⟨⟨p,q⟩,O⟩:=hi;obtain⟨S,E,U,V,W,Y⟩:=e;cases E with
   |call c=>
    obtain⟨G,Z,ts⟩:=c;cases G with
    |value v=>
     have I:=j;simp only[iQ,List.cons.injEq]at j;simp only[dH]at h;rw[j.1,j.2]at h;have J: ∀{R:Type} (dst:Option Nat) (l:St) (K:bn->St->Option R),Dk sg cl (.fn g []) o dst l K=match xg [] s.ps o with
       |some x=>aZ (s.f x) fun y=>K (IQ (mr 0 s.rs y)) l
       |none=>a7:=fun {R} dst l K=>by
      simp only[Dk,D,p,q,Bool.and_self,aa,Sum.call];have u:=p;unfold GR at u;rw[Qi (hp:=l.hp) (hp':=[]) _ _ q];cases xg [] s.ps o with
      |none=>simp
      |some x=>
       simp only;cases hf:s.f x with
       |none=>simp[aZ]
       |some y=>
        obtain⟨L,M,N⟩:=QS s.rs y u;simp[aZ,L,M,N]
     rw[J]at h;split at h
     .rename_i x hx
      cases hf:s.f x with
      |none=>rw[hf]at h;cases h
      |some y=>
       rw[hf]at h;refine⟨_,h,rfl,rfl,⟨_,v,rfl,rfl⟩,OA _ (EQ 0 s.rs y p),fun d hd=> ?_,.fn g [],o, ?_,fun dst l K=> ?_⟩
       .simp_all [Ky,St.put]
       .rw[yz (ops:=ops) B];exact I
       simp_all [aZ]
     .cases h
    |_=>simp[iQ]at j
   |_=>simp[iQ]at j
  .cases hi
 .cases hi
theorem tq (hT:TOk P T) (hd:kU ops=true) (E: ∀R:Type,lC (R:=R) P (Dk sg cl)) {ao:eF St} (U:kP P W0 n ao) {av:eF Unit} (V:kP P W0 n av) (W:uS sg ao) (X:uS sg av): ∀(I:Nat) {R:Type} {r:R} {call:eF R} (Y:kP P W0 n call) (hx:uS sg call) {K:St->Option R} {Q:Act->World->Prop}
  (J:Array Bool) (log:List Nat) (c:Cx) (st:St),kQ T cl sg ao av ops I call J log st K=a6 r->
  (∀c' g p,K g=a6 r->gI W0 b0 rd c' g p ats->c.Mono c'->Q p c'.w)-> ∀(s:Nat) (a:Act) (lA:Array Bool) (l:List (Nat×Value)),Lag n sg cl P W0 b0 rd ats ops c st J log a lA l->WI ops lA<=s->
   wpAnyIn (FW rd) n P .any ops (fun e a w=>e=.normal/\Q a w) s lA a c.w
 |0,R,r,call,Y,hx,K,Q,J,log,c,st,h,Z,s,a,lA,l,hl,L=>by simp[kQ]at h
 |I+1,R,r,call,Y,hx,K,Q,J,log,c,st,h,Z,s,a,lA,l,hl,L=>by
  have aw: ∀(w:World) (p:Act) (lA:Array Bool) (l v:List (Nat×Value)) (j:Nat) (c':Cx) (g:St) (a:Act),Lag n sg cl P W0 b0 rd ats ops (c.at_ w) st J log a lA l->j∈Region.ready .any ops lA->j∉l.map (·.1)->v.map (·.1)=l.map (·.1)->
    gI W0 b0 rd c' g (ed ops p v) ats->jC rd n P ops c' p v->Hu sg cl ops g.fr (l.map (·.1))->Lag n sg cl P W0 b0 rd ats ops c' g (J.setIfInBounds j true) log p (lA.setIfInBounds j true) v:=fun w p lA l v j c' g a hl x y A e2 e3 e4=>by
   obtain⟨_,oj,aU,_⟩:=mem_ready.1 x;have aG:j<ops.size:=(Array.getElem?_eq_some_iff.1 aU).1;refine⟨e2,by rw[A];exact gG.set hl.pst y,e3,by simpa using hl.sA,by simpa using hl.sE,fun k hk=> ?_,fun k hk=> ?_,fun k hk=>getD_set_true (hl.hE k (by simp_all)),by rw[A];exact e4⟩
   .by_cases e:j=k
    .subst e;exact uG (by rw[hl.sE];exact aG)
    .rw[getD_set_ne false e]at hk ⊢;exact hl.sub k hk
   .by_cases e:j=k
    .grind [uG]
    .rw[getD_set_ne false e]at hk ⊢;rw[A];exact hl.cov k hk
  have aH: ∀(i:Nat) (f:Oper) (z:bn) (u:Value),i∈Region.ready .any ops J->ops[i]? =a6 f->iY f.op=true->f.guard=a7->Iz ops log i=true->
    kQ T cl sg ao av ops I call (J.setIfInBounds i true) (i::log) (st.put f.dst z) K=a6 r->bu c z u->DY rd n P c (ed ops a l) f u->
    (gq f.op=false-> ∃z,qH sg cl f (st.put f.dst z).fr z/\True)->(gq f.op=false->qH sg cl f (st.put f.dst z).fr z)->
    wpAnyIn (FW rd) n P .any ops (fun e a w=>e=.normal/\Q a w) s lA a c.w:=fun i f z u ab B hq aV aj g1 g2 g3 _ g4=>by
   obtain⟨aJ,cv,aO,aW⟩:=mem_ready.1 ab;rw[B]at aO;cases aO;have aG:i<ops.size:=(Array.getElem?_eq_some_iff.1 B).1;have aX:i∉l.map (·.1):=fun hm=>Ij (hl.hE i hm) aJ;have bd:lA.getD i true=false:=by
    cases hga:lA.getD i true with
    |false=>rfl
    |true=>
     rw[TF (by rw[hl.sA];exact aG)]at hga;exact(Ij (hl.sub i hga) aJ).elim
   have D:=aj;unfold Iz at D;rw[B]at D;simp only[af]at D;obtain⟨ax,D⟩:=D;have aP: ∀m∈l.map (·.1),∃om,ops[m]? =a6 om/\agF ops om f/\(qF ops i m=false->om.apart ops f=true):=fun m hm=>by
    have h3:=List.all_eq_true.1 D m (gG.log hl.pst m hm);split at h3
    .rename_i om dc
     simp only[af,Bool.or_eq_true]at h3
     grind [Ie]
    .cases h3
   refine tq hT hd E U V W X I Y hx (Q:=Q) (J.setIfInBounds i true) (i::log) c (st.put f.dst z) g1 Z s a lA ((i,u)::l) ⟨?_, ?_,⟨hl.run,f,B,g3⟩,hl.sA,by simpa using hl.sE,fun k hk=> ?_,fun k hk=> ?_,fun k hk=> ?_,fun k hk ok aQ bf=> ?_⟩ L
   .have:=hl.rel.put (dst:=f.dst) g2;simp_all [ed,qO]
   .exact⟨gG.mono (fun k hk=>ak _ hk) hl.pst,bd,aA,aX,f,B,hq,aV,fun d ad=>(Ie ax d ad).1,fun e he hb=>hl.cov _ (aW e he hb),aP⟩
   .by_cases e:i=k
    .grind
    .rw[getD_set_ne false e];exact hl.sub k hk
   .by_cases e:i=k
    .simp_all
    .rw[getD_set_ne false e]at hk;exact(hl.cov k hk).imp (fun h=>h) fun h=>ak _ h
   .rcases List.mem_cons.1 hk with e|hk
    .grind [uG]
    .exact getD_set_true (hl.hE k hk)
   .rcases List.mem_cons.1 hk with e|hk
    .grind
    .obtain⟨z',bt⟩:=hl.fit k hk ok aQ bf;obtain⟨om,G,h2,_⟩:=aP k hk;rw[aQ]at G;cases G;exact⟨z',bt.same (yz (ops:=ops) fun d ad=>(h2 d ad).1).symm (aba fun d ad=>(h2 d ad).2).symm⟩
  simp only[kQ]at h;split at h
  .rename_i al
   exact KE (n:=n) (sg:=sg) (cl:=cl) hd (fun _ w M a hr=>Z (c.at_ w) st a h hr (Cx.Le.ext M).mono) (fun w M s a lA l j _ _ _ _ x=>by simp_all) _ s c.w (Below.refl _ _) a lA l rfl hl L
  .rename_i k rs al
   split at h
   .rename_i i hf
    have an:=List.find?_some hf;simp only[af]at an;replace an:=an.1;have ab:=List.mem_of_find?_eq_some hf;rw[<-al]at ab;split at h
    .rename_i f B
     replace h:=bK h;obtain⟨N,h⟩:=h;simp only[af]at N;obtain⟨N,aj⟩:=N;have hq:gq f.op=true:=by
      grind [QX]
     obtain⟨z,u,g1,g2,g3⟩:=xQ hT hl.rel.ok hq hl.rel.hp hl.rel.fr h;exact aH i f z u ab B (afz hq) (by simpa using N) aj g1 g2 (.of_run g3) (fun h0=>by simp_all) (fun h0=>by simp_all)
    .cases h
   .split at h
    .rename_i i hf
     have an:=List.find?_some hf;have ab:=List.mem_of_find?_eq_some hf;rw[<-al]at ab;split at h
     .rename_i f B
      replace h:=bK h;obtain⟨N,h⟩:=h;simp only[af]at N;obtain⟨N,aj⟩:=N;have ax: ∀d,f.dst=a6 d->d∉f.looksAt ops:=by
       have D:=aj;unfold Iz at D;rw[B]at D;simp only[af]at D;exact fun d ad=>(Ie D.1 d ad).1
      obtain⟨z,g1,g2,g3⟩:=aa7 an B ax h;obtain⟨g4,g5⟩:=LH (n:=n) hT (E Unit) g3 (yz (ops:=ops) ax) hl.rel;exact aH i f z _ ab B g2 (by simpa using N) aj g1 g4 g5 (fun _=>⟨z,g3,trivial⟩) (fun _=>g3)
     .cases h
    .split at h
     .refine KE (n:=n) (sg:=sg) (cl:=cl) hd (fun hr=>by simp_all) (fun w M s a lA l j hl L x y O=> ?_) _ s c.w (Below.refl _ _) a lA l rfl hl L;rw[al]at O;obtain rfl:j=k:=by simpa using O
      refine BZ (c:=c.at_ w) hT hd (E Unit) Y hl.fit x hl.pst y hl.rel h fun c' g p v k1 A k2 k3 k5 k4=> ?_;exact tq hT hd E U V W X I Y hx (Q:=Q) _ log c' g k1 (fun az aF ai q q2 q3=>Z az aF ai q q2 ((Cx.Le.ext M).mono.trans (k4.trans q3))) s p _ v (aw w p lA l v j c' g a hl x y A k2 k3 k5) (by have:=Fh hl.sA x;omega)
     .rw[cond_eq_ite]at h;split at h
      rotate_left
      .rename_i aS
       simp only[Bool.or_eq_true,Bool.not_eq_true',not_or,Bool.not_eq_true,Bool.not_eq_false]at aS;have hp: ∀o∈ops.toList,sU sg o.op=true:=fun o ho=>List.all_eq_true.1 aS.2 o ho;refine KE (n:=n) (sg:=sg) (cl:=cl) hd (fun hr=>by simp_all) (fun w M s a lA l j hl L x y O=> ?_) _ s c.w (Below.refl _ _) a lA l rfl hl L;rw[al]at O;rcases List.mem_cons.1 O with rfl|cb
       .refine BZ (c:=c.at_ w) hT hd (E Unit) Y hl.fit x hl.pst y hl.rel h fun c' g p v k1 A k2 k3 k5 k4=> ?_;exact tq hT hd E U V W X I Y hx (Q:=Q) _ log c' g k1 (fun az aF ai q q2 q3=>by
         replace q:=bK q;obtain⟨q0,q⟩:=q;obtain⟨c3,S,m3,w3⟩:=q2.tidy cl;split at q
         .rename_i m hm
          replace q:=(wo _ q).1;have:=YW hm hl.rel.wf q0 S.wf;subst this;rw[<-w3];exact Z c3 _ ai q S ((Cx.Le.ext M).mono.trans (k4.trans (q3.trans m3)))
         .cases q) s p _ v (aw w p lA l v j c' g a hl x y A k2 k3 k5) (by have:=Fh hl.sA x;omega)
       .obtain⟨_,G⟩:=Tm hx hp h;obtain⟨dd,G⟩:=MR hp W X I hx _ _ _ _ G;replace G:=(bK G).2;split at G
        .rename_i m hm
         obtain⟨hK,cc⟩:=wo _ G;have cd:=cc _ (List.mem_map.2 ⟨j,cb,rfl⟩);refine BZ (c:=c.at_ w) hT hd (E Unit) V hl.fit x hl.pst y hl.rel cd fun c' g p v k1 A k2 k3 k5 k4=> ?_;exact tq hT hd E U V W X I V X (Q:=Q) _ log c' g k1 (fun az aF ai q q2 q3=>by
          replace q:=(bK q).1;simp only[af]at q;obtain⟨c3,S,m3,w3⟩:=q2.tidy cl;have:=afH hm hl.rel.wf q.1 q.2 S.wf;subst this;rw[<-w3];exact Z c3 _ ai hK S ((Cx.Le.ext M).mono.trans (k4.trans (q3.trans m3)))) s p _ v (aw w p lA l v j c' g a hl x y A k2 k3 k5) (by have:=Fh hl.sA x;omega)
        .cases G
      split at h
      .rename_i df ch
       refine KE (n:=n) (sg:=sg) (cl:=cl) hd (fun hr=>by simp_all) (fun w M s a lA l j hl L x y O=> ?_) _ s c.w (Below.refl _ _) a lA l rfl hl L;rw[al]at O;obtain⟨b,cn,cu⟩:=Yc ch hl.rel.wf _ (List.mem_map.2 ⟨j,O,rfl⟩);refine BZ (c:=c.at_ w) hT hd (E Unit) U hl.fit x hl.pst y hl.rel cn fun c' g p v k1 A k2 k3 k5 k4=> ?_;exact tq hT hd E U V W X I U W (Q:=Q) _ log c' g k1 (fun az aF ai q q2 q3=>by
        cases q;obtain⟨c3,S,m3,w3⟩:=q2.tidy cl;have:=cu S.wf;subst this;rw[<-w3];exact Z c3 _ ai h S ((Cx.Le.ext M).mono.trans (k4.trans (q3.trans m3)))) s p _ v (aw w p lA l v j c' g a hl x y A k2 k3 k5) (by have:=Fh hl.sA x;omega)
      .cases h
theorem aau (hT:TOk P T) (q:P.follows .mixedOrders=true) (hd:kU ops=true) (s: ∀R:Type,lC (R:=R) P (Dk sg cl)) {g:eF St} (u:kP P W0 n g) {i:eF Unit} (v:kP P W0 n i) (x:uS sg g) (y:uS sg i) {R:Type} {r:R} {call:eF R} (z:kP P W0 n call) (hx:uS sg call) {id o:Nat} {K:St->Option R} {Q:Exit->Act->World->Prop}
  (h:kQ T cl sg g i ops o call (Array.replicate ops.size false) [] st K=a6 r) (hr:gI W0 b0 rd c st a ats) (A: ∀c' d f,K d=a6 r->gI W0 b0 rd c' d f ats->c.Mono c'->Q .normal f c'.w):
  (Code.region id ops true).wpIn (FW rd) n P Q a c.w:=by
 have p:Dh c {c.w with drawn:=c.w.drawn+1}:=⟨rfl,rfl,rfl,ae _,fun _ _=>rfl⟩;have B:=hr.ext p;have D:=tq (Q:=fun a w=>Q .normal a w) hT hd s u v x y o z hx _ [] (c.at_ {c.w with drawn:=c.w.drawn+1}) st h (fun c' d f k1 k2 k3=>A c' d f k1 k2 ((Cx.Le.ext p).mono.trans k3)) ops.size a
  (Array.replicate ops.size false) [] ⟨B,trivial,trivial,by simp,by simp,fun j l=>l,fun j l=>.inl l,(fun k hk=>by cases hk),(fun k hk=>by cases hk)⟩ (by
   grind [WI])
 exact Code.wpIn_mono (fun e a w E=>by simp_all) (wpIn_region_any q D)
end
end
section
open Option renaming some → a6, none → a7
open Bool renaming and_eq_true → af
open Nat renaming le_trans → az
open Go.RowKit
section
variable {P:Program} {T:TT} {W0:World} {b0:Nat} {rd:Option Nat} {R:Type} {r:R} {ats:List (Array Value)}
theorem agy {F:Fence} {n:Nat} {Q:Exit->Act->World->Prop} {a:Act} {w:World} {e:Ex} {d:Code} (f:e.code=a6 d) (h:Q e.xt a w):d.wpIn F n P Q a w:=by
 cases e<;>simp only[Ex.code,Option.some.injEq,reduceCtorEq]at f<;>subst f
 .exact wpIn_exit h
 .exact wpIn_goto h
 .exact wpIn_ret h
theorem NE {n:Nat} {F:St->(Ex->St->Option R)->Option R} {K:Ex->St->Option R} {Q:Exit->Act->World->Prop} {code:Code} {kp:Option dW}
  (hF: ∀(E:Ex->St->Option R) (G:Exit->Act->World->Prop) (c:Cx) (st:St) (a:Act),F st E=a6 r->gI W0 b0 rd c st a ats->b0<=c.w.heap.size->(∀e c' g z,E e g=a6 r->gI W0 b0 rd c' g z ats->c.Mono c'->G e.xt z c'.w)->code.wpIn (FW rd) n P G a c.w)
  {c:Cx} {st:St} {a:Act} (m:Nat) (h:iter kp F m st K=a6 r) (hr:gI W0 b0 rd c st a ats) (hb:b0<=c.w.heap.size) (x: ∀e c' g z,K e g=a6 r->gI W0 b0 rd c' g z ats->c.Mono c'->Q e.xt z c'.w):
  (Code.loop code).wpIn (FW rd) n P Q a c.w:=by
 refine wpIn_loop_ghost (fun m a w=> ∃c' g,iter kp F m g K=a6 r/\gI W0 b0 rd c' g a ats/\c.Mono c'/\c'.w=w) m ⟨c,st,h,hr,Cx.Mono.refl c,rfl⟩ ?_;rintro m a w ⟨I,J,D,L,f,rfl⟩;cases m with
 |zero=>simp[iter]at D
 |succ m=>
  simp only[iter]at D;refine hF _ _ I J a D L (az hb f.size) fun e A B y d i j=> ?_;cases e with
  |normal=>
   simp only at d;simp only[Ex.xt,Exit.then];cases kp with
   |none=>exact⟨m,Nat.lt_succ_self m,A,B,d,i,f.trans j,rfl⟩
   |some k=>
    simp only at d;split at d
    .rename_i o p
     obtain⟨q,s,u,v⟩:=nC i p;exact⟨m,Nat.lt_succ_self m,q,o,d,s,(f.trans j).trans u,v⟩
    .cases d
  |ret=>
   simp only at d;simp only[Ex.xt,Exit.then];cases kp with
   |none=>exact x .ret A B y d i (f.trans j)
   |some k=>
    simp only at d;split at d
    .rename_i o p
     obtain⟨q,s,u,v⟩:=RQ i p;rw[<-v];exact x .ret q o y d s ((f.trans j).trans u)
    .cases d
  |exit id=>
   simp only at d;simp only[Ex.xt,Exit.then];cases kp with
   |none=>exact x (.exit id) A B y d i (f.trans j)
   |some k=>
    simp only at d;split at d
    .rename_i o p
     obtain⟨q,s,u,v⟩:=nC i p;rw[<-v];exact x (.exit id) q o y d s ((f.trans j).trans u)
    .cases d
  |goto l=>
   simp only at d;simp only[Ex.xt,Exit.then];cases kp with
   |none=>exact x (.goto l) A B y d i (f.trans j)
   |some k=>
    simp only at d;split at d
    .rename_i o p
     obtain⟨q,s,u,v⟩:=nC i p;rw[<-v];exact x (.goto l) q o y d s ((f.trans j).trans u)
    .cases d
theorem Qn {n:Nat} {F:St->(Ex->St->Option R)->Option R} {K:Ex->St->Option R} {Q:Exit->Act->World->Prop} {code:Code} {kp:Option dW}
  (hF: ∀(z:Ex->St->Option R) (A:Exit->Act->World->Prop) (c:Cx) (st:St) (a:Act),F st z=a6 r->gI W0 b0 rd c st a ats->b0<=c.w.heap.size->(∀e c' x y,z e x=a6 r->gI W0 b0 rd c' x y ats->c.Mono c'->A e.xt y c'.w)->code.wpIn (FW rd) n P A a c.w)
  {c:Cx} {st:St} {a:Act} (m:Nat) (h:iter kp (Fp F) m st (rP 999999 K)=a6 r) (hr:gI W0 b0 rd c st a ats) (hb:b0<=c.w.heap.size) (q: ∀e c' x y,K e x=a6 r->gI W0 b0 rd c' x y ats->c.Mono c'->Q e.xt y c'.w):
  code.wpIn (FW rd) n P Q a c.w:=by
 cases m with
 |zero=>simp[iter]at h
 |succ m=>
  simp only[iter,Fp]at h;refine hF _ _ c st a h hr hb fun e B D s d u v=> ?_;cases e with
  |normal=>
   simp only at d;cases kp with
   |none=>
    simp only[rP,beq_self_eq_true,aa]at d
    grind
   |some k=>
    simp only at d;split at d
    .rename_i f g
     obtain⟨i,j,o,p⟩:=nC u g;simp only[rP,beq_self_eq_true,aa]at d;rw[<-p];exact q .normal i f s d j (v.trans o)
    .cases d
  |ret=>
   simp only at d;cases kp with
   |none=>exact q .ret B D s d u v
   |some k=>
    simp only at d;split at d
    .rename_i f g
     obtain⟨i,j,o,p⟩:=RQ u g;rw[<-p];exact q .ret i f s d j (v.trans o)
    .cases d
  |exit id=>
   simp only at d;rw[cond_eq_ite]at d;split at d
   .cases d
   .rename_i G
    have E:(id==999999)=false:=by
     simp_all
    cases kp with
    |none=>
     simp only[rP,E,ac]at d
     grind
    |some k=>
     simp only at d;split at d
     .rename_i f g
      obtain⟨i,j,o,p⟩:=nC u g;simp only[rP,E,ac]at d;rw[<-p];exact q (.exit id) i f s d j (v.trans o)
     .cases d
  |goto l=>
   simp only at d;cases kp with
   |none=>exact q (.goto l) B D s d u v
   |some k=>
    simp only at d;split at d
    .rename_i f g
     obtain⟨i,j,o,p⟩:=nC u g;rw[<-p];exact q (.goto l) i f s d j (v.trans o)
    .cases d
theorem qL {n:Nat} {f:FuncId} {args:Array Value} {w:World} {Rr:Ending->World->Prop} (h:Calls P f args w Rr):CallsIn (FW rd) n P f args w Rr:=(callsIn_wide (n:=n)).2 h
theorem YI {n:Nat} {f:FuncId} {cl:Bool} {ex:lq R} (ah:rZ P W0 ex) {fv:Operand} {p:Array Tmp} {iK q:Code} {K:Ex->St->Option R} {Q:Exit->Act->World->Prop} {c:Cx} {st:St} {a:Act} {g:FuncId} {M:List bn}
  (N:bu c (.fn g M) (a.eval fv))
  {W:Option Nat} (ai: ∀k,W=a6 k->oO f k=a6 (iK,q))
  (h:alloc cl (a6 (700000+p.toList.headD 0)) (.lp f st.fr p.toList iK q W 0 a7) st (fun id st=>
    ex (.call g (.yld id::M)) {st with stk:=[.yld id]::st.stk} fun _ st=>match st.stk with
     |[.yld id]::stk=>match cZ st.hp id with
      |some (.lp _ _ _ _ _ _ 0 a7)=>K .normal {st with stk:=stk,hp:=gX st.hp id .dead}
      |some (.lp _ _ _ _ _ _ 1 (a6 e))=>K e {st with stk:=stk,hp:=gX st.hp id .dead}
      |_=>a7
     |_=>a7)=a6 r)
  (hr:gI W0 b0 rd c st a ats) (hb:b0<=c.w.heap.size) (hQ: ∀e c' ad a',K e ad=a6 r->gI W0 b0 rd c' ad a' ats->c.Mono c'->Q e.xt a' c'.w):
  (Code.rangeFunc fv p iK q).wpIn (FW rd) n P Q a c.w:=by
 obtain⟨id,n',h3,h4,h5,h⟩:=iC h;simp only[bu]at N;obtain⟨O,N,aj⟩:=N;refine wpIn_rangeFunc fun fn _=> ?_;obtain⟨s,d,aJ,G,ak,al,an⟩: ∃(s:List Deferred) (d:Cx),d.hp=c.hp/\gI W0 b0 rd d st {a with defers:=s++a.defers} ats/\c.Mono d/\c.Le0 d/\
   ∃L:Loop,L.tmps=a.tmps/\L.params=p/\L.assign=iK/\L.body=q/\L.state=.ready/\L.pending=a7/\(Instr.enterLoop fn a.tmps p iK q rd).run P c.w=.ok (d.w.heap.size,s) (d.w.alloc (.loop L)):=by
  cases rd with
  |none=>
   obtain⟨S,ao⟩:=ajA hr.ok;refine⟨[mkD c.w.heap.size],{c with w:=c.w.alloc (.deferred (a6 [])),mks:=c.w.heap.size::c.mks},rfl,⟨hr.hp,hr.nxt,ao,bg.le S _ _ hr.fr,zD.le S _ _ hr.stk, ?_,fun l hl=>by cases hl⟩,S.mono,S.le0,{state:=.ready,pending:=a7,fn,tmps:=a.tmps,params:=p,assign:=iK,body:=q,defers:=c.w.heap.size},rfl,rfl,rfl,rfl,rfl,rfl, ?_⟩
   .obtain⟨X,Y,Z,e3⟩:=hr.df;refine⟨c.w.heap.size::X,by simp[Y],List.nodup_cons.2 ⟨fun hm=> ?_,Z⟩,fun x hx=> ?_⟩
    .have:=hr.ok.mark_lt (e3 _ hm).1;omega
    grind
   rfl
  |some l0=>
   obtain⟨L0,au⟩:=hr.rd l0 rfl;exact⟨[],c,rfl,hr,Cx.Mono.refl c,(Cx.Le.refl c).le0,{state:=.ready,pending:=a7,fn,tmps:=a.tmps,params:=p,assign:=iK,body:=q,defers:=L0.defers},rfl,rfl,rfl,rfl,rfl,rfl,run_enterLoop_inner au fn a.tmps p iK q⟩
 obtain⟨L,q1,q2,q3,q4,q5,q6,q7⟩:=an;subst q2 q3 q4;obtain⟨U,hd,aK,hy,_⟩:=aqG G.ok (st:=st) G.hp G.nxt h3 h4 h5 (f:=f) (fr:=st.fr) (L:=L) (by rw[q1];exact G.fr) q5 q6 ai;have v:=G.did hd;have ae:c.Mono U:=ak.trans hd.le.mono;have av:gI W0 b0 rd U {st with stk:=[.yld id]::st.stk,hp:=(id,.lp f st.fr L.params.toList L.assign L.body W 0 a7)::st.hp,nxt:=n'} {a with defers:=s++a.defers} (#[.func (.yield d.w.heap.size) #[] #[]]::ats):=
  ⟨v.hp,v.nxt,v.ok,v.fr,⟨by simpa [bg] using hy,v.stk⟩,v.df,v.rd⟩
 have aO:bg U M O.toList:=bg.le hd.le _ _ (bg.le0 al _ _ aj);have aP:=ah g (.yld id::M) _ _ r h b0 rd U {a with defers:=s++a.defers} (#[.func (.yield d.w.heap.size) #[] #[]]::ats) (#[.func (.yield d.w.heap.size) #[] #[]]++O) av (by simp_all [bg])
  (rangePost (FW rd) n P d.w.heap.size Q {a with defers:=s++a.defers}) (by
   intro c3 z u aw B i _ ag;have I:=i.stk;split at B
   .rename_i D aQ ax
    rw[ax]at I;obtain⟨V,I⟩:=I;simp only[bg,and_true]at V;have E: ∀{o},cZ aw.hp D=a6 o->cZ c3.hp D=a6 o:=fun {o} ho=>by rw[i.hp];exact ho
    simp only[bu]at V;split at B
    .rename_i f3 ay aA aB aF aG y
     obtain⟨_,hB,L3,J,aH,Y,Z,e3,e4,e5⟩:=i.ok.obj D _ (E y);have A:=V.2.2 _ _ _ _ _ _ _ _ (E y);have A:d.w.heap.size=(c3.mu D).blk:=by simpa using A
     obtain⟨c4,p1,p2,j,p4,p5,p6⟩:=EM i.ok (E y) J {L3 with state:=.exhausted,pending:=a7} (o':=.dead) (.inl rfl);refine⟨_,_,(by rw[A];exact run_endLoop J (by rw[e4];decide)), ?_⟩;rw[e5];simp only;rw[<-p5];refine hQ .normal c4 _ _ B ⟨by rw[p1,i.hp],by rw[p2,i.nxt],p4,bg.le j _ _ i.fr,zD.le j _ _ I, ?_, ?_⟩ ((ae.trans ag).trans j.mono)
     .obtain⟨X,w1,w2,w3⟩:=i.df
      grind
     .intro l hl;obtain⟨Ll,ab⟩:=i.rd l hl;exact j.lp l Ll ab
    .rename_i f3 ay aA aB aF aG e0 y
     obtain⟨_,hB,L3,J,aH,Y,Z,e3,e4,e5,e6⟩:=i.ok.obj D _ (E y);have A:=V.2.2 _ _ _ _ _ _ _ _ (E y);have A:d.w.heap.size=(c3.mu D).blk:=by simpa using A
     refine⟨_,_,(by rw[A];exact run_endLoop J (by rw[e4];decide)), ?_⟩;rw[e5];cases he0:e0.code with
     |none=>exact absurd he0 e6
     |some cd=>
      obtain⟨c4,p1,p2,j,p4,p5,p6⟩:=EM i.ok (E y) J {L3 with state:=.exhausted,pending:=a6 cd} (o':=.dead) (.inl rfl);simp only;refine agy he0 ?_;rw[<-p5];refine hQ e0 c4 _ _ B ⟨by rw[p1,i.hp],by rw[p2,i.nxt],p4,bg.le j _ _ i.fr,zD.le j _ _ I, ?_, ?_⟩ ((ae.trans ag).trans j.mono)
      .obtain⟨X,w1,w2,w3⟩:=i.df
       grind
      .intro l hl;obtain⟨Ll,ab⟩:=i.rd l hl;exact j.lp l Ll ab
    .cases B
   .cases B)
 refine⟨d.w.heap.size,s,d.w.alloc (.loop L),{target:=.fn (.func g) O,args:= #[.func (.yield d.w.heap.size) #[] #[]]},d.w.alloc (.loop L),g,#[.func (.yield d.w.heap.size) #[] #[]]++O,d.w.alloc (.loop L),q7, ?_,fun _ _=>trivial, ?_,mO rd, ?_⟩
 .have aI:a.eval (.const (.func (.yield d.w.heap.size) #[] #[]))=.func (.yield d.w.heap.size) #[] #[]:=rfl;simp only[resolve,N];simp[go_sem,aI]
 .simp_all [invoke]
 simp_all [qL]
def Si {R:Type} (E:Env) (e:lq R) (g:Sl) (f:FuncId) (c:Code) (L:dA):Prop:=
 ∀(r:R) (st:St) (v:L.V) (K:Ex->St->Option R),(∀h i d,Hm h i st=a6 d->Zp d.hp)->L.get st=a6 v->
  (aZ (L.spec v) fun o=>dB o (fun a=>K (L.exA v) (L.stA st v a)) fun b=>K (L.exB v) (L.stB st v b))=a6 r->
  ∃m d,(match E.kp f (bM c)with|none=>d=st|some k=>Hm k.slots k.owns st=a6 d)/\iter (E.kp f (bM c)) (run E e g f c) m d K=a6 r
def Zr {R:Type} (E:Env) (e:lq R) (g:Sl) (f:FuncId) (c:Code) (L:dA):Prop:=
 ∀(r:R) (st:St) (v:L.V) (K:Ex->St->Option R),(∀h i d,Hm h i st=a6 d->Zp d.hp)->L.get st=a6 v->
  (aZ (L.spec v) fun o=>dB o (fun a=>K (L.exA v) (L.stA st v a)) fun b=>K (L.exB v) (L.stB st v b))=a6 r->
  ∃m d,(match E.kp f (800000+bM c)with|none=>d=st|some k=>Hm k.slots k.owns st=a6 d)/\iter (E.kp f (800000+bM c)) (Fp (run E e g f c)) m d K=a6 r
def iL {R:Type} (E:Env) (d:lq R) (e:Sl) (f:FuncId):Code->Prop
 |.seq a b=>(iL E d e f a/\ ∀L,E.lp f (800000+bM b)=a6 L->L.dep.ble E.dp=true->Zr E d e f b L)/\iL E d e f b
 |.cond _ a b=>iL E d e f a/\iL E d e f b
 |.block _ c=>iL E d e f c
 |.scope c=>iL E d e f c
 |.loop c=>iL E d e f c/\ ∀L,E.lp f (bM c)=a6 L->L.dep.ble E.dp=true->Si E d e f c L
 |.rangeFunc _ _ iK g=>iL E d e f iK/\iL E d e f g/\(E.rf f (bM g)=true->oO f (bM g)=a6 (iK,g))
 |_=>True
theorem gJ {E:Env} {d:lq R} {e:Sl} {f:FuncId} (h: ∀id,E.lp f id=a7) (h2: ∀id,E.rf f id=false): ∀c:Code,iL E d e f c
 |.seq a b=>⟨⟨gJ h h2 a,fun L g=>by simp_all⟩,gJ h h2 b⟩
 |.cond _ a b=>⟨gJ h h2 a,gJ h h2 b⟩
 |.block _ c=>gJ (E:=E) h h2 c
 |.scope c=>gJ (E:=E) h h2 c
 |.loop c=>⟨gJ h h2 c,fun L g=>by simp_all⟩
 |.rangeFunc _ _ a b=>⟨gJ h h2 a,gJ h h2 b,fun i=>by simp_all⟩
 |.skip|.label _|.region _ _ _|.exit _|.goto _|.ret|.refuse _=>trivial
def Qu (E:Env) (n:Nat):Sl:=⟨fun j st=>jK E n (R:=bn) j st fun v _=>a6 v,jK E n,jK E n⟩
def dU (E:Env) (f:FuncId) (c:Code) (L:dA):Prop:=
 ∀(R:Type) (m:Nat),Si (R:=R) (E.at (m+L.dep)) (jK E (m+L.dep)) (Qu E (m+L.dep)) f c L
def zO (E:Env) (f:FuncId) (c:Code) (L:dA):Prop:=
 ∀(R:Type) (m:Nat),Zr (R:=R) (E.at (m+L.dep)) (jK E (m+L.dep)) (Qu E (m+L.dep)) f c L
def dL (E:Env) (f:FuncId) (c:Code):Prop:= ∀(R:Type) (m:Nat),iL (R:=R) (E.at m) (jK E m) (Qu E m) f c
theorem ig {E:Env} {f:FuncId} (h: ∀id,E.lp f id=a7) (h2: ∀id,E.rf f id=false) (c:Code):dL E f c:=fun R m=>gJ (E:=E.at m) h h2 c
theorem IV (hT:TOk P T) (hm:P.follows .mixedOrders=true) {n:Nat} {E:Env} (aw:E.T=T) {f:FuncId} {X:lq R} {O:Sl} (ag:kP P W0 n (uj E X)) (hq:lC (R:=R) P (MH E O.q)) (ax:rZ P W0 X) (hS:kP P W0 n (uj E O.s)) (hU:kP P W0 n (uj E O.u)) (ay: ∀R:Type,lC (R:=R) P (Dk E.sg E.cl)):
  ∀(code:Code),iL E X O f code-> ∀(K:Ex->St->Option R) (Q:Exit->Act->World->Prop) (c:Cx) (st:St) (a:Act),run E X O f code st K=a6 r->gI W0 b0 rd c st a ats->b0<=c.w.heap.size->
   (∀e c' o p,K e o=a6 r->gI W0 b0 rd c' o p ats->c.Mono c'->Q e.xt p c'.w)->code.wpIn (FW rd) n P Q a c.w:=by
 subst aw;intro code
 induction code with
 |skip=>intro _ K Q c st a h hr A j;exact wpIn_skip (j .normal c st a h hr (Cx.Mono.refl c))
 |label l=>intro _ K Q c st a h hr A j;exact wpIn_label (j .normal c st a h hr (Cx.Mono.refl c))
 |region id ops aA=>
  intro _ K Q c st a h hr A j;simp only[run]at h;have ah: ∃I,CO (E.kp f (600000+id)) st={st with fr:=I}/\bg c I a.tmps.toList:=by
   cases E.kp f (600000+id)with
   |none=>exact⟨st.fr,rfl,hr.fr⟩
   |some k=>exact⟨_,rfl,xH _ _ _ hr.fr⟩
  obtain⟨I,e1,e2⟩:=ah;rw[e1]at h;replace hr:gI W0 b0 rd c {st with fr:=I} a ats:=⟨hr.hp,hr.nxt,hr.ok,e2,hr.stk,hr.df,hr.rd⟩;generalize ({st with fr:=I}:St)=st at h hr;cases aA with
  |true=>
   simp only[aa]at h;rw[cond_eq_ite]at h;split at h
   .rename_i ab
    simp only[af]at ab;exact Jl hT hm hq ab.1 h hr fun c' o p d=>j .normal c' o p d
   .split at h
    .rename_i l aB
     exact PY hT hm ag aB h hr fun c' o p d=>j .normal c' o p d
    .rw[cond_eq_ite]at h;split at h
     .rename_i ab
      simp only[af]at ab;exact Jl hT hm hq ab.1 h hr fun c' o p d=>j .normal c' o p d
     replace h:=bK h;exact aau hT hm h.1 ay hS hU SG SG ag SG h.2 hr fun c' o p d=>j .normal c' o p d
  |false=>
   simp only[ac]at h;exact wpIn_region_list (IB hT ag ops ops.toList c st a h hr fun c' o p d=>j .normal c' o p d)
 |seq x y ihx S=>
  intro hl K Q c st a h hr A j;replace ihx:=ihx hl.1.1;replace S:=S hl.2;simp only[run]at h;refine wpIn_seq (ihx _ _ c st a h hr A fun e c' o p d z B=> ?_);cases e with
  |normal=>
   have ae:=az A B.size;have au: ∀e U Y Z,K e Y=a6 r->gI W0 b0 rd U Y Z ats->c'.Mono U->Q e.xt Z U.w:=fun e U Y Z ai aj ak=>j e U Y Z ai aj (B.trans ak);have al: ∀(J:Option dW) (m:Nat) (D:St),(match J with|none=>D=o|some k=>Hm k.slots k.owns o=a6 D)->iter J (Fp (run E X O f y)) m D (rP 999999 K)=a6 r->y.wpIn (FW rd) n P Q p c'.w:=by
    intro J m D M h2;cases J with
    |none=>grind [Qn]
    |some k=>
     obtain⟨c1,V,ad,an⟩:=nC z M;rw[<-an];exact Qn S m h2 V (az ae ad.size) fun e U Y Z ai aj ak=>au e U Y Z ai aj (ad.trans ak)
   simp only[as1,cutAt]at d;split at d
   .rename_i L hL
    replace d:=bK d;obtain⟨ao,d⟩:=d;split at d
    .rename_i v N
     obtain⟨m,D,M,h2⟩:=hl.1.2 L hL ao r o v (rP 999999 K) (fun aF aG D ht=>let⟨c1,V,_,_⟩:=nC z ht;V.wf) N d;exact al _ m D M h2
    .cases d
   .split at d
    .exact S _ _ c' o p d z ae au
    .rename_i k hk
     split at d
     .rename_i D M
      exact al (a6 k) bD D M d
     .cases d
  |exit id=>exact j (.exit id) c' o p d z B
  |goto l=>exact j (.goto l) c' o p d z B
  |ret=>exact j .ret c' o p d z B
 |cond cnd x y ihx S=>
  intro hl K Q c st a h hr A j;replace ihx:=ihx hl.1;replace S:=S hl.2;simp only[run]at h;have N:=dh hr.fr cnd;split at h
  .rename_i b ae
   rw[ae]at N;simp only[bu]at N;have N:=N.bool_inv
   grind [wpIn_cond_true,wpIn_cond_false]
  .cases h
 |block id x G=>
  intro hl K Q c st a h hr A j;replace G:=G hl;simp only[run]at h;refine wpIn_block (G _ _ c st a h hr A fun e c' o p d z B=> ?_);cases e with
  |normal=>exact j .normal c' o p d z B
  |exit i=>
   simp only[rP]at d;simp only[Ex.xt,Exit.inBlock];rw[cond_eq_ite]at d;split at d
   .rename_i W
    have W:i=id:=by simpa using W
    rw[am W];exact j .normal c' o p d z B
   .rename_i W
    have W:i≠id:=by simpa using W
    rw[aq W];exact j (.exit i) c' o p d z B
  |goto l=>exact j (.goto l) c' o p d z B
  |ret=>exact j .ret c' o p d z B
 |loop x G=>
  intro hl K Q c st a h hr A j;replace G:=G hl.1;have al: ∀(J:Option dW) (m:Nat) (D:St),(match J with|none=>D=st|some k=>Hm k.slots k.owns st=a6 D)->iter J (run E X O f x) m D K=a6 r->(Code.loop x).wpIn (FW rd) n P Q a c.w:=by
   intro J m D M h2;cases J with
   |none=>grind [NE]
   |some k=>
    obtain⟨c1,V,ad,an⟩:=nC hr M;rw[<-an];exact NE G m h2 V (az A ad.size) fun e c' o p d z B=>j e c' o p d z (ad.trans B)
  simp only[run]at h;split at h
  .rename_i L hL
   replace h:=bK h;obtain⟨ao,h⟩:=h;split at h
   .rename_i v N
    obtain⟨m,D,M,h2⟩:=hl.2 L hL ao r st v K (fun aF aG D ht=>let⟨c1,V,_,_⟩:=nC hr ht;V.wf) N h
    grind
   .cases h
  grind
 |exit id=>intro _ K Q c st a h hr A j;exact wpIn_exit (j (.exit id) c st a h hr (Cx.Mono.refl c))
 |goto l=>intro _ K Q c st a h hr A j;exact wpIn_goto (j (.goto l) c st a h hr (Cx.Mono.refl c))
 |ret=>intro _ K Q c st a h hr A j;exact wpIn_ret (j .ret c st a h hr (Cx.Mono.refl c))
 |scope x G=>
  intro hl K Q c st a h hr A j;replace G:=G hl;simp only[run]at h;refine abm (G _ _ c st a h hr A fun e c' o p d z B=> ?_);cases e with
  |normal=>exact⟨(fun l e=>by cases e),j .normal c' o p d z B⟩
  |exit i=>exact⟨(fun l e=>by cases e),j (.exit i) c' o p d z B⟩
  |goto l=>simp[ai2]at d
  |ret=>exact⟨(fun l e=>by cases e),j .ret c' o p d z B⟩
 |rangeFunc fv ps iK bd _ _=>
  intro hl K Q c st a h hr A j;simp only[run]at h;split at h
  .rename_i g aJ aH
   have aI: ∀k,(bif E.rf f (bM bd)then a6 (bM bd)else a7)=a6 k->oO f k=a6 (iK,bd):=fun k hk=>by
    cases hrf:E.rf f (bM bd)with
    |false=>simp_all
    |true=>rw[hrf]at hk;cases hk;exact hl.2.2 hrf
   have ah: ∃I,CO (E.kp f (500000+bM bd)) st={st with fr:=I}/\bg c I a.tmps.toList:=by
    cases E.kp f (500000+bM bd)with
    |none=>exact⟨st.fr,rfl,hr.fr⟩
    |some k=>exact⟨_,rfl,xH _ _ _ hr.fr⟩
   obtain⟨I,e1,e2⟩:=ah;rw[e1]at h;have av:=dh hr.fr fv;rw[aH]at av;exact YI (st:={st with fr:=I}) ax av aI h ⟨hr.hp,hr.nxt,hr.ok,e2,hr.stk,hr.df,hr.rd⟩ A j
  .cases h
 |refuse s=>simp_all [run]
end
end
section
open Option renaming some → a6, none → a7
open Nat renaming le_refl → ae
open Go.RowKit
section
variable {P:Program} {T:TT} {W0:World} {b0:Nat} {rd:Option Nat} {R:Type} {r:R} {c:Cx} {ats:List (Array Value)}
theorem VI (i:c.Ok W0) {x:bn} {e:Ty} {j:List e.den} {u:Value} (h:x.as c.hp (.list e)=a6 j) (hx:bu c x u) {a:Option Addr} {m cp:Nat} (o:u=.slice a m cp):m<=cp:=by
 subst o;cases x with
 |val f z=>
  simp only[bn.as]at h;have e:=fV h;subst e
  grind [bu,oH]
 |nils=>
  simp_all [bu]
 |lst f z b=>
  grind [bu,oH]
 |emp=>
  simp_all [bu]
 |slc id ver q=>
  simp only[bn.as,yC]at h;split at h
  .rename_i f v xs g
   replace h:=bK h;obtain⟨d,h⟩:=h;have d:v=ver:=by simpa using d
   subst d;simp only[bu]at hx;have y:=(hx.2.2 _ _ _ g).2 rfl;obtain⟨_,A,B,s,D,E⟩:=i.obj id _ g;obtain⟨G,I,d,J,K⟩:=oP s;cases q with
   |none=>
    simp_all [ik]
   |some p=>
    grind [ik]
  .cases h
 |agg l=>simp[bn.as,Ty.isAgg]at h
 |_=>simp[bn.as]at h
def agL (c cb:Cx):Prop:= ∀b,b<c.w.heap.size->cb.free b/\cb.w.heap[b]? =c.w.heap[b]?
theorem Cb (f:c.Ok W0) {cb:Cx} (d:agL c cb) {x:bn} {e:Ty} {g:List e.den} {u:Value} (h:x.as c.hp (.list e)=a6 g) (hx:bu c x u):VD cb (.list e) g u:=by
 obtain⟨a,cp,l,i,o,p⟩:=VJ f h hx;have q:=VI f h hx i;refine(VD.leaf rfl).2 ⟨a,cp,l,by rw[i],q,dX.mono (dM.mono (fun b s=>d b s.1) e) _ _ o,p.imp id fun⟨b,v,y,j,z⟩=>⟨b,v,y,(d b j).1,z.of_block (d b j).2⟩⟩
theorem ad4 (j:c.Ok W0) {cb:Cx} (f:agL c cb) {v i:bn} {u:Value} (h:Qj c.hp v=a6 i) (d:bu c v u):bu cb i u:=by
 cases v with
 |val t x=>
  simp only[Qj,Option.some.injEq]at h;subst h;simp only[bu]at d ⊢;exact⟨fun e=>let⟨cs,l,o⟩:=d.1 e;⟨cs,l,dM.mono (fun b g=>f b g.1) t x _ o⟩,fun e=>dM.mono (fun b g=>f b g.1) t x _ (d.2 e)⟩
 |nils=>
  grind [Qj,bu]
 |slc id ver p=>
  simp only[Qj]at h;split at h
  .rename_i t w xs q
   rw[cond_eq_ite]at h;split at h
   .rename_i s
    cases h;simp only[bu];refine Cb j f (x:=.slc id ver p) ?_ d;simp_all [bn.as,yC,dY]
   .cases h
  .cases h
 |_=>simp[Qj]at h
theorem LP (f:c.Ok W0) {cb:Cx} (g:agL c cb): ∀(l e:List bn) (us:List Value),LM c.hp l=a6 e->bg c l us->bg cb e us
 |[],e,[],h,_=>by simp_all [LM,bg]
 |v::l,e,u::us,h,d=>by
  simp only[LM]at h;split at h
  .rename_i p i
   split at h
   .rename_i j o
    cases h;simp only[bg]at d ⊢;exact⟨ad4 f g i d.1,LP f g l j us o d.2⟩
   .cases h
  .cases h
 |[],_,_::_,_,d=>by simp[bg]at d
 |_::_,_,[],_,d=>by simp[bg]at d
def Cx.base (c:Cx) (w:World) (d:Nat->Prop):Cx:=⟨c.mu,[],c.nxt,w,[],d⟩
theorem alN {w:World} {d:Nat->Prop} (e:Sj w) (hb: ∀b,d b->b<w.heap.size):(c.base w d).Ok w:=
 ⟨Below.refl _ _,fun id o h=>by simp[Cx.base,cZ]at h,fun i j o p b h=>by simp[Cx.base,cZ]at h,fun r hr=>by simp[Cx.base]at hr,fun b h=>⟨hb b h,(by rintro ⟨i,o,h,_⟩;simp[Cx.base,cZ]at h),by simp[Cx.base]⟩,e⟩
theorem ad7 {w:World} {d:Nat->Prop} {b:Nat}:(c.base w d).free b↔b<w.heap.size/\ ¬d b:=by
 constructor
 .intro h;exact⟨h.1,h.2.2.2⟩
 .rintro ⟨e,f⟩;exact⟨e,(by rintro ⟨i,o,h,_⟩;simp[Cx.base,cZ]at h),by simp[Cx.base],f⟩
theorem agQ {w:World} {d:Nat->Prop} (f:Sj w) (hb: ∀b,d b->b<w.heap.size) {e:Nat} (g:e=c.nxt):gI w 0 a7 (c.base w d) ⟨[],[],[],e⟩ ⟨#[],[]⟩ []:=
 ⟨rfl,g.symm,alN f hb,by simp[bg],trivial,⟨[],rfl,List.nodup_nil,fun r hr=>by simp at hr⟩,fun l hl=>by cases hl⟩
theorem ORel.le0 {B:Nat} {c c':Cx} {id:Nat} {o:bY} (h:c.ORel B id o) (hl:c.Le0 c') (d:c'.mu id=c.mu id) (hb: ∀b,o.blk (c.mu id)=a6 b->c'.w.heap[b]? =c.w.heap[b]?):c'.ORel B id o:=by
 cases o with
 |box e cs=>
  obtain⟨g,s,i,j,l⟩:=h;refine⟨by rw[d];exact g,s,by rw[d,hb _ rfl];exact i,bg.le0 hl _ _ j,l⟩
 |arr t ver xs=>
  obtain⟨q,e,u,g,i,j⟩:=h;refine⟨q,e,u, ?_,dX.mono (dM.mono hl.free t) _ _ i,j⟩;rw[d];exact xP g fun b v=>hb b v
 |lp f fr ps iK bd ky n p=>
  obtain⟨q,g,L,i,j,l⟩:=h;exact⟨q,by rw[d];exact g,L,by rw[d,hb _ rfl];exact i,bg.le0 hl _ _ j,l⟩
 |dead=>trivial
 |mp kk vk y=>
  obtain⟨g,x,cl,i,j⟩:=h;exact⟨by rw[d];exact g,x,cl,by rw[d,hb _ rfl];exact i,j⟩
theorem Cx.Le0.trans {a b c:Cx} (h:a.Le0 b) (k:b.Le0 c):a.Le0 c:=
 ⟨fun x e=>⟨(k.out x (h.out x e).1).1,(k.out x (h.out x e).1).2.trans (h.out x e).2⟩,fun i d=>k.ref i (h.ref i d),fun i o d f=>by
  obtain⟨g,j,l⟩:=k.obj i o (h.ref i d) f;obtain⟨p,q,s⟩:=h.obj i g d j
  grind [bY.like_trans],k.bar.trans h.bar⟩
theorem O5 {n:Nat} {fn:Func} {tmps:Array Value} {Rr:Ending->World->Prop}: ∀(l:List Nat) (c:Cx),c.Ok W0->l.Nodup->(∀r∈l,r∈c.mks)->
  ∃c',c'.hp=c.hp/\c'.nxt=c.nxt/\c.Le0 c'/\c'.Ok W0/\(∀r∈c.mks,r∉l->r∈c'.mks)/\(∀(b:Nat) (L:Loop),c.w.heap[b]? =a6 (Obj.loop L)-> ∃A:Loop,c'.w.heap[b]? =a6 (Obj.loop A))/\c.w.heap.size<=c'.w.heap.size/\c'.bar=c.bar/\
   (LeavesIn (FW a7) n P fn tmps Rr [] .returning c'.w->LeavesInM (FW a7) n P fn tmps Rr (l.map mkD) .returning c.w)
 |[],c,f,_,_=>⟨c,rfl,rfl,(Cx.Le.refl c).le0,f,fun r hr _=>hr,fun b L x=>⟨L,x⟩,ae _,rfl,fun h=>h⟩
 |d::l,c,f,B,y=>by
  obtain⟨V,D⟩:=List.nodup_cons.1 B;have hd:=y d (by simp);have u:=f.mks d hd;have W:=f.mark_lt hd
  let i:Cx:={c with w:=c.w.putObj d (.deferred a7),mks:=c.mks.filter fun r=>r !=d}
  have p: ∀b,b≠d->i.w.heap[b]? =c.w.heap[b]? :=fun b g=>World.putObj_heap_other g;have v:c.Le0 i:=⟨fun b g=>⟨⟨by simpa [i] using g.1,g.2.1,(fun E=>g.2.2 (List.mem_filter.1 E).1)⟩,p b fun e=>g.2.2 (e▸hd)⟩,fun _ h=>h,fun id o _ q=>⟨o,q,o.like_refl _⟩,rfl⟩;have G:i.Ok W0:=by
   refine⟨⟨f.bel.os,f.bel.tape,f.bel.output,by simpa [i] using f.bel.size,fun j I=>(p j (by have:=u.1;omega)).trans (f.bel.block j I)⟩,fun id o q=>ORel.le0 (f.obj id o q) v rfl fun b g=>p b fun e=> ?_,f.inj,fun r hr=> ?_,fun b g=>(v.out b (f.bar b g)).1,f.phi⟩
   .subst e;exact(f.obj id o q).no_mark g u.2
   .obtain⟨z,s⟩:=List.mem_filter.1 hr;have s:r≠d:=by simpa using s
    exact⟨(f.mks r z).1,(p r s).trans (f.mks r z).2⟩
  obtain⟨J,K,M,N,O,X,Y,Z,S,U⟩:=O5 (n:=n) (fn:=fn) (tmps:=tmps) (Rr:=Rr) l i G D fun r hr=>List.mem_filter.2 ⟨y r (by simp[hr]),by
   grind⟩
  refine⟨J,K,M,v.trans N,O,fun r hr s=> ?_,fun b L x=> ?_, ?_,S,fun h=> ?_⟩
  .grind
  .grind
  .have:c.w.heap.size=i.w.heap.size:=by simp[i]
   omega
  .exact⟨by simp,.inl ⟨d,_,rfl,run_takeDeferred u.2,U h⟩⟩
theorem ajh {t:TypeId} {v u:Value} {w w':World} (h:(Instr.loadAt t v).run P w=.ok u w'):(do loadVar t (<-asAddr v):Sem Value).run P w=.ok u w':=by
 unfold Instr.loadAt at h;cases v<;>try (simp[Instr.sureAddr,stuck,Sem.run_bind,Result.andThen]at h;done)
 rename_i p
 cases p<;>first|exact h|simp_all [Instr.sureAddr]
def IR (tmps:Array Value):ResultVar->Sem Value
 |.tmp t=>pure (tmps.getD t undef)
 |.cell a t=>do loadVar t (<-asAddr (tmps.getD a undef))
theorem wW (hT:TOk P T) (e:c.Ok W0) {st:St} {tmps:Array Value} (f:c.hp=st.hp) (d:bg c st.fr tmps.toList): ∀(l:List ResultVar) (K:List bn->Option R),pV T st l K=a6 r->
  ∃vs us,K vs=a6 r/\bg c vs us/\(l.mapM (IR tmps)).run P c.w=.ok us c.w
 |[],K,h=>⟨[],[],h,by simp[bg],rfl⟩
 |.tmp t::l,K,h=>by
  simp only[pV]at h;obtain⟨vs,us,g,i,j⟩:=wW hT e f d l _ h;refine⟨_,tmps.getD t undef::us,g,by simp only[bg];exact⟨d.getD t,i⟩, ?_⟩;simp_all [IR]
 |.cell a t::l,K,h=>by
  simp only[pV]at h;rw[<-f]at h;obtain⟨z,u,g,i,j⟩:=aj8 hT e h (d.getD a);obtain⟨vs,us,o,p,q⟩:=wW hT e f d l _ g;refine⟨_,u::us,o,by simp_all [bg], ?_⟩;have s:=ajh (j c.w (Below.refl _ _))
  grind [Sem.run_bind,IR,Result.andThen_ok,Sem.run_pure]
def EI:List Value->Value
 |[v]=>v
 |vs=>.tuple vs.toArray
theorem xU {vs:List bn} {us:List Value} (h:bg c vs us):bu c (IQ vs) (EI us):=by
 match vs,us,h with
 |[],[],h=>simp only[IQ,EI,bu];simp_all
 |[v],[u],h=>simpa [IQ,EI,bg] using h
 |v::d::vs,u::e::us,h=>simp only[IQ,EI,bu];simp_all
 |[],_::_,h=>simp[bg]at h
 |_::_,[],h=>simp[bg]at h
 |[_],_::_::_,h=>simp[bg]at h
 |_::_::_,[_],h=>simp[bg]at h
theorem YN {fn:Func} {tmps:Array Value} {us:List Value} {w:World} (h:(fn.results.toList.mapM (IR tmps)).run P w=.ok us w):(results fn tmps).run P w=.ok (EI us) w:=by
 have e:results fn tmps=(do let d<-fn.results.mapM (IR tmps);pure (if h:d.size=1 then d[0]else .tuple d)):=rfl;have f:(fn.results.mapM (IR tmps)).run P w=.ok us.toArray w:=by
  simp_all [Array.mapM_eq_mapM_toList]
 rw[e,Sem.run_bind,f]
 match us with
 |[]=>rfl
 |[v]=>rfl
 |v::g::d=>rfl
end
end
section
open Option renaming some → a6, none → a7
open Bool renaming and_eq_true → af
open Int renaming eq_ofNat_of_zero_le → aV
open List renaming foldl_cons → aP
open Nat renaming le_refl → ae, eq_of_beq_eq_true → ah, lt_of_lt_of_le → aS
open Go.RowKit
def EZ (P:Program):Prop:= ∀(f:FuncId) (fn:Func) (c:Code),P.funcs[f]? =a6 fn->fn.body=a6 c->(fn.name== "runtime.NumGoroutine")=false
def zQ {R:Type} (P:Program) (W0:World) (q:lq R):Prop:=
 ∀(id:Nat) (h:List bn) (st:St) (K:bn->St->Option R) (r:R),q (.yield id h) st K=a6 r->
  ∀(b0:Nat) (rd:Option Nat) (c:Cx) (a:Act) (ats:List (Array Value)) (i:Array Value),gI W0 b0 rd c st a ats->bg c h i.toList->
   (∃f s v iK d x k p,cZ st.hp id=a6 (.lp f s v iK d x k p))/\
   ∀j:Ending->World->Prop,(∀e z u l,K z l=a6 r->gI W0 b0 rd e l a ats->bu e z u->c.Mono e->j (.returned u) e.w)->
    ∀n,∃g o iK d,(Instr.yield (c.mu id).blk i).run P c.w=.ok (.round (c.mu id).blk g o iK d) c.w/\RoundIn (FW rd) n P (c.mu id).blk g o iK d c.w j
def BH {R:Type} (g:FuncId) (s:Sum) (cl:Bool):eF R:=fun d e f st K=>match d with
 |.fn g' h=>if g'=g then s.call cl (e++h) f st K else a7
 |_=>a7
def agD (P:Program) (g:FuncId):Prop:= ∀(w:World) (b:Nat),w.shape? b=a6 (Qm,2)->w.frozen? ⟨b,0,a7⟩=false->
 (callFunc g #[.pointer (a6 ⟨b,0,a7⟩)]).run P w=.ok (.enter g #[.pointer (a6 ⟨b,0,a7⟩)]) w/\
 (w.cell? ⟨b,0,a7⟩=a6 (.pointer (a6 ⟨b,0,a7⟩))->Calls P g #[.pointer (a6 ⟨b,0,a7⟩)] w fun e d=>e=.returned (.tuple #[])/\d=w)/\
 (w.cell? ⟨b,0,a7⟩=a6 (.pointer a7)->Calls P g #[.pointer (a6 ⟨b,0,a7⟩)] w fun e d=>e=.returned (.tuple #[])/\d=w.setCell ⟨b,0,a7⟩ (.pointer (a6 ⟨b,0,a7⟩)))
def LD (P:Program) (em:TypeId->Nat->Nat->Bool) (g:FuncId):Prop:= ∀(w:World) (b t o n:Nat) (d:Array Value),em t o n=true->w.heap[b]? =a6 (.cells d t (0,0))->d.size=n->o<n/\
 (callFunc g #[.pointer (a6 ⟨b,o,a7⟩)]).run P w=.ok (.enter g #[.pointer (a6 ⟨b,o,a7⟩)]) w/\
 (w.cell? ⟨b,o,a7⟩=a6 (.pointer (a6 ⟨b,o,a7⟩))->Calls P g #[.pointer (a6 ⟨b,o,a7⟩)] w fun e f=>e=.returned (.tuple #[])/\f=w)/\
 (w.cell? ⟨b,o,a7⟩=a6 (.pointer a7)->Calls P g #[.pointer (a6 ⟨b,o,a7⟩)] w fun e f=>e=.returned (.tuple #[])/\f=w.setRow b (d.toList.take o++[Value.pointer (a6 ⟨b,o,a7⟩)]++d.toList.drop (o+1)).toArray)
def uT (P:Program) (em:TypeId->Nat->Nat->Bool) (g:FuncId):Prop:=agD P g/\LD P em g
def EY (P:Program) (g:FuncId):Prop:= ∀(w:World) (B:Nat) (q:TypeId) (v:Value) (n i d f:Nat) (j:List Value) (l o:Value) (s:TypeId) (u:List Value),Sj w->B<=w.heap.size->w.ownsRow B q 2 v n j->n<=2199023255552->i<=n->(∀z∈j,z.oneCell'=true)->v.oneCell'=true->l.oneCell'=true->o.oneCell'=true->
 w.heap[d]? =a6 (.cells (l::o::u).toArray s (0,0))->v.ownBlock≠a6 d->1<=f->f<=maxLen->
 (callFunc g #[v,.int .i64 (i:Int),.slice (a6 ⟨d,0,a7⟩) 1 f]).run P w=.ok (.enter g #[v,.int .i64 (i:Int),.slice (a6 ⟨d,0,a7⟩) 1 f]) w/\
 Calls P g #[v,.int .i64 (i:Int),.slice (a6 ⟨d,0,a7⟩) 1 f] w fun e p=> ∃h x,e=.returned h/\p.ownsRow B x 2 h (n+1) (j.take (i*2)++[l,o]++j.drop (i*2))/\w.grownBy p v.ownBlock/\(h.ownBlock=v.ownBlock\/ ∃k,h.ownBlock=a6 k/\w.heap.size<=k)/\h.oneCell'=true
def E5 (P:Program) (g c:FuncId):Prop:= ∀(w:World) (B:Nat) (f:TypeId) (v:Value) (n:Nat) (d:List Value) (xs:List uM.den),Sj w->B<=w.heap.size->w.ownsRow B f 4 v n d->n=xs.length->n<=2199023255552->OU xs=true->
 d=xs.flatMap (fun x=>[.int .i64 x.1,.int .i64 x.2.1,.int .i64 x.2.2.1,.bool x.2.2.2.1])->
 (callFunc g #[v,.func (.func c) #[] #[]]).run P w=.ok (.enter g #[v,.func (.func c) #[] #[]]) w/\
 Calls P g #[v,.func (.func c) #[] #[]] w fun e h=>e=.returned (.tuple #[])/\h.ownsRow B f 4 v n d/\w.grownBy h v.ownBlock
def Jb {R:Type} (g:FuncId) (s:fF) (cl:Bool):eF R:=fun d e h st K=>match d with
 |.fn g' f=>if g'=g then s.call cl (e++f) st K else a7
 |_=>a7
structure uh (P:Program) (E:Env):Prop where
 T:TOk P E.T
 x: ∀(R:Type) (W0:World) (n:Nat) (g:FuncId) (s:fF),E.sb g=a6 s->kP (R:=R) P W0 n (Jb g s E.cl)
 b: ∀g,(E.bf g=true->uT P E.em g)/\(E.il g=true->EY P g)/\(E.sl g=true->E5 P g E.sc)
 v: ∀(R:Type) (W0:World) (n:Nat) (g:FuncId) (s:Sum),E.sg g=a6 s->kP (R:=R) P W0 n (BH g s E.cl)
 q: ∀(R:Type) (g:FuncId) (s:Sum),E.sg g=a6 s->(s.rs.all fun r=> !r.2&&r.1.rigid)=true->lC (R:=R) P (BH g s E.cl)
section
variable {P:Program} {T:TT} {W0:World} {b0:Nat} {rd:Option Nat} {R:Type} {r:R} {c:Cx} {ats:List (Array Value)}
theorem yA (e:EZ P) {f:FuncId} {fn:Func} {d:Code} (hf:P.funcs[f]? =a6 fn) (hb:fn.body=a6 d) (args:Array Value) (w:World):(callFunc f args).run P w=.ok (.enter f args) w:=by
 have g:=e f fn d hf hb;simp_all [callFunc]
theorem lW {g:FuncId} {vs args:Array Value} {w:World}:(do let d<-Deferred.ofValue (.func (.func g) #[] vs) args;invoke d.target d.args:Sem Next).run P w=(callFunc g (args++vs)).run P w:=by
 grind [Deferred.ofValue,invoke]
theorem ND {g:FuncId} {vs args:Array Value} {w:World}:(do let d<-Deferred.ofValue (.func (.func g) vs #[]) args;invoke d.target d.args:Sem Next).run P w=(callFunc g (vs++args)).run P w:=by
 rfl
theorem TM {l:Nat} {args:Array Value} {w:World}:(do let d<-Deferred.ofValue (.func (.yield l) #[] #[]) args;invoke d.target d.args:Sem Next).run P w=(Instr.yield l args).run P w:=by
 grind [Deferred.ofValue,invoke]
theorem bg.append_arr {l m:List bn} {xs d:Array Value} (h:bg c l xs.toList) (k:bg c m d.toList):bg c (l++m) (xs++d).toList:=by
 simp_all [bg.append]
theorem Ig: ∀(h:fD) (i:Nat) (o:bY),cZ h i=a6 o->gX h i o=h
 |[],_,_,_=>rfl
 |(k,p)::h,i,o,d=>by
  rw[dG]at d;simp only[gX];by_cases e:k=i
  .simp_all
  .rw[aq e]at d;have f:(k==i)=false:=by simpa using e
   simp[f,Ig h i o d]
theorem Zk {c:Cx}: ∀(l:List bn) (xs:List Value),bg c l xs-> ∀(i:Nat) (hi:i<xs.length),bu c (l.getD i .undef) xs[i]
 |[],[],_,i,hi=>by simp at hi
 |v::l,x::xs,h,0,_=>h.1
 |v::l,x::xs,h,i+1,hi=>by
  have:=Zk l xs h.2 i (by simpa using hi);simpa using this
 |[],_::_,h,_,_=>by cases h
 |_::_,[],h,_,_=>by cases h
theorem aea {em:TypeId->Nat->Nat->Bool} {g:FuncId} (Y:LD P em g) {st:St} {K:bn->St->Option R} {id off:Nat} {t:TypeId} {cs:List bn} (Z:em t off cs.length=true) (j:cZ st.hp id=a6 (.box t cs))
  (h:(match cs.getD off .undef with
    |.nilp=>K (.tup []) {st with hp:=gX st.hp id (.box t (cs.take off++[.ptr id off]++cs.drop (off+1)))}
    |.ptr i o=>bif Nat.beq i id&&Nat.beq o off then K (.tup []) st else a7
    |_=>a7)=a6 r) {a:Act} (hr:gI W0 b0 rd c st a ats) {us:Array Value} (f:bg c [.ptr id off] us.toList)
  (Rr:Ending->World->Prop) (D: ∀c' z u E,K z E=a6 r->gI W0 b0 rd c' E a ats->bu c' z u->c.Mono c'->Rr (.returned u) c'.w):
  (callFunc g us).run P c.w=.ok (.enter g us) c.w/\Calls P g us c.w Rr:=by
 rw[<-hr.hp]at j;obtain⟨hB,d,hw,p,G⟩:=hr.ok.obj id _ j;have ab:cs.length=d.size:=by simpa using bg.length _ _ p
 obtain⟨us⟩:=us
 match us,f with
 |[u],f=>
  simp only[bg,bu,and_true]at f;have hu:=f.2.2 _ _ j;subst hu;have I:c.w.heap[(c.mu id).blk]? =a6 (.cells d t (0,0)):=hw;obtain⟨ho,h1,h2,h3⟩:=Y c.w (c.mu id).blk t off cs.length d Z I ab.symm;have J:off<d.size:=by omega
  have M:c.w.cell? ⟨(c.mu id).blk,off,a7⟩=a6 d[off]:=by simp[World.cell?,I,J]
  have l:bu c (cs.getD off .undef) d[off]:=by
   have:=Zk _ _ p off (by simpa using J);simpa using this
  have N: ∀c',bu c' (.tup []) (.tuple #[]):=fun c'=>by simp only[bu];exact⟨#[],rfl,by simp[bg]⟩
  refine⟨h1, ?_⟩;split at h
  .rename_i q
   rw[q]at l;simp only[bu]at l;refine(h3 (by rw[M,l])).mono ?_;rintro e w' ⟨rfl,rfl⟩;have O:c.w.heap.size<=(c.w.setRow (c.mu id).blk (d.toList.take off++[Value.pointer (a6 ⟨(c.mu id).blk,off,a7⟩)]++d.toList.drop (off+1)).toArray).heap.size:=by simp
   have S:(bY.box t cs).like (c.mu id) (.box t (cs.take off++[.ptr id off]++cs.drop (off+1))) (c.mu id):=rfl;have U: ∀b,b<c.w.heap.size->(bY.box t cs).blk (c.mu id)≠a6 b->(c.w.setRow (c.mu id).blk (d.toList.take off++[Value.pointer (a6 ⟨(c.mu id).blk,off,a7⟩)]++d.toList.drop (off+1)).toArray).heap[b]? =c.w.heap[b]? :=
    fun b _ ad=>setRow_other _ _ _ _ (fun e=>ad (by simp[bY.blk,e]))
   have V: ∀b,(bY.box t (cs.take off++[.ptr id off]++cs.drop (off+1))).blk (c.mu id)=a6 b->(bY.box t cs).blk (c.mu id)=a6 b\/c.w.heap.size<=b:=fun b s=>.inl s;have W: ∀(b:Nat) (L:Loop),(bY.box t cs).blk (c.mu id)=a6 b->c.w.heap[b]? =a6 (Obj.loop L)-> ∃L':Loop,(c.w.setRow (c.mu id).blk (d.toList.take off++[Value.pointer (a6 ⟨(c.mu id).blk,off,a7⟩)]++d.toList.drop (off+1)).toArray).heap[b]? =a6 (Obj.loop L'):=fun b L s hL=>absurd hL ((hr.ok.obj id _ j).no_loop (by simp) s);have x:=Cx.Le.put (w:=c.w.setRow (c.mu id).blk (d.toList.take off++[Value.pointer (a6 ⟨(c.mu id).blk,off,a7⟩)]++d.toList.drop (off+1)).toArray) hr.ok j S O U V W;have ag:Below W0.heap.size W0 (c.w.setRow (c.mu id).blk (d.toList.take off++[Value.pointer (a6 ⟨(c.mu id).blk,off,a7⟩)]++d.toList.drop (off+1)).toArray):=
    hr.ok.bel.trans ⟨rfl,rfl,rfl,by simp,fun k hk=>setRow_other _ _ _ _ (by omega)⟩
   have hd:x9 W0 c st (c.put id (.box t (cs.take off++[.ptr id off]++cs.drop (off+1))) (c.mu id) (c.w.setRow (c.mu id).blk (d.toList.take off++[Value.pointer (a6 ⟨(c.mu id).blk,off,a7⟩)]++d.toList.drop (off+1)).toArray)) {st with hp:=gX st.hp id (.box t (cs.take off++[.ptr id off]++cs.drop (off+1)))}:=by
    refine⟨by simp[Cx.put,hr.hp],hr.nxt,rfl,rfl,Cx.Ok.put hr.ok j S ag O U V W ?_,x⟩;refine⟨by simp only[Cx.put,upd_same];exact hB,(d.toList.take off++[Value.pointer (a6 ⟨(c.mu id).blk,off,a7⟩)]++d.toList.drop (off+1)).toArray, ?_, ?_, ?_⟩
    .simp only[Cx.put,upd_same]
     grind [setRow_heap]
    .have ai:bg (c.put id (.box t (cs.take off++[.ptr id off]++cs.drop (off+1))) (c.mu id) (c.w.setRow (c.mu id).blk (d.toList.take off++[Value.pointer (a6 ⟨(c.mu id).blk,off,a7⟩)]++d.toList.drop (off+1)).toArray)) [.ptr id off] [Value.pointer (a6 ⟨(c.mu id).blk,off,a7⟩)]:=by
      simp only[bg,bu,and_true];exact⟨rfl,.inl ⟨_,Cx.put_get j⟩,fun _ _ _=>by simp[Cx.put,upd_same]⟩
     have X:=bg.le x _ _ p;have y:=bg.take off _ _ X;have A:=bg.drop (off+1) _ _ X;have:=bg.append _ _ _ _ (bg.append _ _ _ _ y ai) A;simpa using this
    .intro v f;simp only[List.mem_append,List.mem_singleton]at f;rcases f with (f|f)|f
     .exact G v (List.mem_of_mem_take f)
     .subst f;rfl
     .exact G v (List.mem_of_mem_drop f)
   exact D _ (.tup []) (.tuple #[]) _ h (hr.did hd) (N _) x.mono
  .rename_i i o q
   obtain⟨B,aj⟩:=bK h;clear h;rw[af]at B;have y:=ah B.1;have A:=ah B.2;subst y;subst A;rw[q]at l;simp only[bu]at l;have hp:=l.2.2 _ _ j;refine(h2 (by rw[M,hp])).mono ?_;rintro e w' ⟨rfl,rfl⟩;exact D c (.tup []) (.tuple #[]) st aj hr (N _) (Cx.Mono.refl c)
  .cases h
theorem WH {em:TypeId->Nat->Nat->Bool} {g:FuncId} (hT:TOk P T) (Z:uT P em g) {args:List bn} {st:St} {K:bn->St->Option R} (h:L9 em T args st K=a6 r) {a:Act} (hr:gI W0 b0 rd c st a ats) {us:Array Value} (s:bg c args us.toList)
  (Rr:Ending->World->Prop) (B: ∀c' z u J,K z J=a6 r->gI W0 b0 rd c' J a ats->bu c' z u->c.Mono c'->Rr (.returned u) c'.w):
  (callFunc g us).run P c.w=.ok (.enter g us) c.w/\Calls P g us c.w Rr:=by
 obtain⟨hg,ab⟩:=Z;unfold L9 at h;split at h<;>try (cases h;done)
 rename_i id ad
 split at h<;>try (cases h;done)
 case h_2 t cs _ d=>
  obtain⟨x,h⟩:=bK h;exact aea ab x d h hr s Rr B
 rename_i t i j l o d
 replace h:=bK h;obtain⟨x,h⟩:=h;simp only[af]at x;obtain⟨D,E,hk,f⟩:=x;have D:ad=0:=ah D;subst D;have E:i=id:=ah E;subst E;have ht:=hT.bldr hk f;rw[<-hr.hp]at d;obtain⟨hB,G,M,v,aj⟩:=hr.ok.obj i _ d;obtain⟨us⟩:=us
 match us,s with
 |[u],s=>
  simp only[bg,bu,and_true]at s;have hu:=s.2.2 _ _ d;subst hu;obtain⟨G⟩:=G
  match G,v with
  |[p,q],v=>
   simp only[bg,and_true]at v;have y:=v.1;simp only[bu]at y;have y:=y.2.2 _ _ d;rw[ht]at M;have A:c.w.heap[(c.mu i).blk]? =a6 (.cells #[p,q] Qm (0,0)):=M;have N:c.w.cell? ⟨(c.mu i).blk,0,a7⟩=a6 p:=by simp[World.cell?,A]
   obtain⟨h1,h2,h3⟩:=hg c.w (c.mu i).blk (by simp[World.shape?,A]) (by simp[World.frozen?,A]);refine⟨h1, ?_⟩;have O: ∀c',bu c' (.tup []) (.tuple #[]):=fun c'=>by simp only[bu];exact⟨#[],rfl,by simp[bg]⟩
   rcases y with e|e
   .subst e;refine(h3 N).mono ?_;rintro e w' ⟨rfl,rfl⟩;have ak:(c.mu i).blk<c.w.heap.size:=(Array.getElem?_eq_some_iff.1 A).1;have al:(c.w.setCell ⟨(c.mu i).blk,0,a7⟩ (.pointer (a6 ⟨(c.mu i).blk,0,a7⟩))).heap[(c.mu i).blk]? =a6 (.cells #[.pointer (a6 ⟨(c.mu i).blk,0,a7⟩),q] Qm (0,0)):=by
     grind [World.setCell]
    have S: ∀b,(c.mu i).blk≠b->(c.w.setCell ⟨(c.mu i).blk,0,a7⟩ (.pointer (a6 ⟨(c.mu i).blk,0,a7⟩))).heap[b]? =c.w.heap[b]? :=fun b f=>by
     grind [World.setCell]
    have U:(c.w.setCell ⟨(c.mu i).blk,0,a7⟩ (.pointer (a6 ⟨(c.mu i).blk,0,a7⟩))).heap.size=c.w.heap.size:=by simp[World.setCell]
    have V: ∀(b:Nat) (L:Loop),(bY.box t [.slf i,.slc j l o]).blk (c.mu i)=a6 b->c.w.heap[b]? =a6 (Obj.loop L)-> ∃L':Loop,(c.w.setCell ⟨(c.mu i).blk,0,a7⟩ (.pointer (a6 ⟨(c.mu i).blk,0,a7⟩))).heap[b]? =a6 (Obj.loop L'):=fun b L f hL=>absurd hL ((hr.ok.obj i _ d).no_loop (by simp) f);have W: ∀b,b<c.w.heap.size->(bY.box t [.slf i,.slc j l o]).blk (c.mu i)≠a6 b->(c.w.setCell ⟨(c.mu i).blk,0,a7⟩ (.pointer (a6 ⟨(c.mu i).blk,0,a7⟩))).heap[b]? =c.w.heap[b]? :=fun b _ ag=>S b fun e=>ag (by simp[bY.blk,e]);have X: ∀b,(bY.box t [.slf i,.slc j l o]).blk (c.mu i)=a6 b->(bY.box t [.slf i,.slc j l o]).blk (c.mu i)=a6 b\/c.w.heap.size<=b:=fun b f=>.inl f;have ai:Below W0.heap.size W0 (c.w.setCell ⟨(c.mu i).blk,0,a7⟩ (.pointer (a6 ⟨(c.mu i).blk,0,a7⟩))):=
     ⟨hr.ok.bel.os,hr.ok.bel.tape,hr.ok.bel.output,by omega,fun b f=>(S b (by omega)).trans (hr.ok.bel.block b f)⟩
    have Y:=bY.like_refl (.box t [.slf i,.slc j l o]) (c.mu i);have I:=Cx.Le.put hr.ok d Y (Nat.le_of_eq U.symm) W X V;have hd:x9 W0 c st (c.put i (.box t [.slf i,.slc j l o]) (c.mu i) (c.w.setCell ⟨(c.mu i).blk,0,a7⟩ (.pointer (a6 ⟨(c.mu i).blk,0,a7⟩)))) st:=by
     refine⟨by simp only[Cx.put];rw[Ig _ _ _ d,hr.hp],hr.nxt,rfl,rfl,Cx.Ok.put hr.ok d Y ai (Nat.le_of_eq U.symm) W X V ?_,I⟩;refine⟨by simp only[Cx.put,upd_same];exact hB,#[.pointer (a6 ⟨(c.mu i).blk,0,a7⟩),q], ?_, ?_, ?_⟩
     .simp_all [Cx.put,upd_same]
     .simp only[bg,and_true];refine⟨?_,bu.le I _ _ v.2⟩;simp only[bu];exact⟨rfl,.inl ⟨_,Cx.put_get d⟩,fun _ _ _=>.inr (by simp[Cx.put,upd_same])⟩
     simp_all
    exact B _ (.tup []) (.tuple #[]) st h (hr.did hd) (O _) I.mono
   .subst e;refine(h2 N).mono ?_;rintro e w' ⟨rfl,rfl⟩;exact B c (.tup []) (.tuple #[]) st h hr (O _) (Cx.Mono.refl c)
theorem akd (i:c.Ok W0) {st:St} (A:c.hp=st.hp) (B:c.nxt=st.nxt) {e:Ty} (D:0<e.size) {id d:Nat} {xs:List e.den} (j:cZ c.hp id=a6 (.arr e d xs)) {f:Value} {w':World} {o:TypeId} {ws:List e.den} {p:List Value}
  (O:w'.ownsRow W0.heap.size o e.size f ws.length p) (q:dX (dM c.w c.free e) e.size ws p) (l:c.w.grownBy w' (c.mu id).v.ownBlock) (E: ∀b,(c.mu id).v.ownBlock=a6 b->W0.heap.size<=b)
  (G:f.ownBlock=(c.mu id).v.ownBlock\/ ∃k,f.ownBlock=a6 k/\c.w.heap.size<=k) (I:f.oneCell'=true) (J:e=.int .u8->o=lu):
  ∃c',x9 W0 c st c' {st with hp:=gX st.hp id (.arr e (d+1) ws)}/\c'.w=w'/\bu c' (.slc id (d+1) a7) f:=by
 have K:Below W0.heap.size W0 w':=i.bel.grown l i.size E;have s:(bY.arr e d xs).like (c.mu id) (.arr e (d+1) ws) ⟨0,f⟩:=⟨by omega,fun h=>by omega⟩;have u: ∀b,b<c.w.heap.size->(bY.arr e d xs).blk (c.mu id)≠a6 b->w'.heap[b]? =c.w.heap[b]? :=fun b g S=>l.block b g (by
  grind [bY.blk])
 have x: ∀b,(bY.arr e (d+1) ws).blk ⟨0,f⟩=a6 b->(bY.arr e d xs).blk (c.mu id)=a6 b\/c.w.heap.size<=b:=fun b g=>by
  simp only[bY.blk]at g ⊢;rcases G with h|⟨k,h,hk⟩
  .exact .inl (h▸g)
  .rw[h]at g;cases g;exact .inr hk
 have y: ∀(b:Nat) (L:Loop),(bY.arr e d xs).blk (c.mu id)=a6 b->c.w.heap[b]? =a6 (Obj.loop L)-> ∃M:Loop,w'.heap[b]? =a6 (Obj.loop M):=fun b L g q=>absurd q ((i.obj id _ j).no_loop (by simp) g);have z:=Cx.Le.put (w:=w') i j s l.size u x y;refine⟨c.put id (.arr e (d+1) ws) ⟨0,f⟩ w',⟨by simp[Cx.put,A],B,rfl,rfl,i.put j s K l.size u x y ?_,z⟩,rfl, ?_⟩
 .refine⟨D,o,p, ?_,dX.mono (dM.mono z.free e) _ _ q,J⟩;simp_all [Cx.put,upd_same]
 .simp only[bu];refine⟨I,.inl ⟨_,Cx.put_get j⟩,fun U V W N=> ?_⟩;rw[Cx.put_get j]at N;simp_all [ik,Cx.put,upd_same]
theorem ae5 {v:bn} {i:Int} (h:ap0 v=a6 i):v=.val (.int .i64) i:=by
 unfold ap0 at h;split at h
 .injection h with h;rw[h]
 .cases h
theorem ae4 {g:FuncId} (hg:EY P g) {args:List bn} {st:St} {K:bn->St->Option R} (h:TL args st K=a6 r) {a:Act} (hr:gI W0 b0 rd c st a ats) {us:Array Value} (D:bg c args us.toList)
  (Rr:Ending->World->Prop) (hR: ∀c' z u Z,K z Z=a6 r->gI W0 b0 rd c' Z a ats->bu c' z u->c.Mono c'->Rr (.returned u) c'.w):
  (callFunc g us).run P c.w=.ok (.enter g us) c.w/\Calls P g us c.w Rr:=by
 unfold TL at h;split at h<;>try (cases h;done)
 rename_i id aK iv E v2
 split at h<;>try (cases h;done)
 rename_i i L
 have L:=ae5 L;subst L;split at h<;>try (cases h;done)
 rename_i e v xs s
 split at h<;>try (cases h;done)
 rename_i e2 u ys j
 obtain⟨x,l⟩:=bK h;clear h;simp only[af,beq_iff_eq,Bool.not_eq_true']at x;obtain⟨⟨ak,al⟩,M⟩:=x;subst ak;subst al;split at l<;>try (cases l;done)
 rename_i aO A
 have f:=fV A;injection f with f
 subst f;rw[dY]at A;injection A with A
 subst A;split at l<;>try (cases l;done)
 rename_i aQ B
 have f:=fV B;injection f with f
 subst f;rw[dY]at B;injection B with B
 subst B;obtain⟨x,h⟩:=bK l;clear l;simp only[af]at x;obtain⟨an,N,ab,ad⟩:=x;have N:0<=i:=by simpa [leI] using N
 have ab:i<=(xs.length:Int):=of_decide_eq_true ab;have ad:=pG ad;have ao:ys.length=1:=ah an;have M:id≠E:=by
  intro e;subst e;simp at M
 obtain⟨n,rfl⟩:=aV N;have au:n<=xs.length:=by omega
 rw[<-hr.hp]at s j;have o:=hr.ok;obtain⟨av,e0,G,ag,O,aU⟩:=o.obj id _ s;obtain⟨_,aw,ax,S,I,_⟩:=o.obj E _ j;have ai:Ty.size Qs=2:=rfl;obtain⟨us⟩:=us
 match us,D with
 |[w1,w2,w3],D=>
  simp only[bg,and_true]at D;obtain⟨k1,k2,k3⟩:=D;simp only[bu]at k1 k2 k3;have q1:w1=(c.mu id).v:=(k1.2.2 _ _ _ s).2 rfl;have q3:w3=(c.mu E).v:=(k3.2.2 _ _ _ j).2 rfl;have q2:w2=.int .i64 (n:Int):=VD.int_inv k2;have ko:=k1.1;subst q1;subst q2
  match ys,ao,I,S,h,j with
  |[y],_,I,S,h,j=>
   have aj:=dX.one _ _ I;obtain⟨d,ay,p1,p2,p3,U⟩:=I;have U:ay=[]:=U;subst U;rw[List.append_nil]at p1;subst p1;rw[ai]at p2
   match ax,p2 with
   |[p,q],_=>
    rcases S.2 with ⟨V,m2⟩|⟨W,az,J,V,m2,m3,m4,m5,m6,X⟩
    .simp at m2
    have X:J.toList.take 2=[p,q]:=by simpa [ai] using X
    have aA:J=(p::q::J.toList.drop 2).toArray:=by
     have:=List.take_append_drop 2 J.toList;rw[X]at this;apply Array.ext';exact this.symm
    rw[aA]at m3;have aB:(c.mu id).v.ownBlock≠a6 W:=fun Y=>M (o.inj id E _ _ W s j Y (by simp only[bY.blk];rw[V];rfl));rw[q3,V];have aF:=dX.one _ _ O;have aG:c.w.ownsRow W0.heap.size e0 2 (c.mu id).v xs.length G:=ag;obtain⟨h3,h4⟩:=hg c.w W0.heap.size e0 (c.mu id).v xs.length n W az G p q aw _ o.phiw o.size aG (by omega) au aF ko (aj p (by simp)) (aj q (by simp)) m3 aB (by simpa using m4) m5;refine⟨h3,h4.mono ?_⟩;rintro e w' ⟨v',e1,rfl,g1,g2,g3,g4⟩;have aH:dX (dM c.w c.free Qs) Qs.size (ae2 xs n [y]) (G.take (n*2)++[p,q]++G.drop (n*2)):=
     dX.append _ _ _ _ (dX.append _ _ _ _ (dX.take n _ _ O) ⟨[p,q],[],rfl,rfl,p3,rfl⟩) (dX.drop n _ _ O)
    have aI: ∀b,(c.mu id).v.ownBlock=a6 b->W0.heap.size<=b:=fun b Y=>(World.ownsRow.lt ag b Y).1;have aJ:(ae2 xs n [y]).length=xs.length+1:=by
     unfold ae2;simp;omega
    obtain⟨c',d1,d2,d3⟩:=akd o hr.hp hr.nxt av s (ws:=ae2 xs n [y]) (by rw[aJ];exact g1) aH g2 aI g3 g4 (fun h=>by cases h);subst d2;exact hR c' _ v' _ h (hr.did d1) d3 d1.le.mono
theorem ake (g:c.Ok W0) {st:St} (y:c.hp=st.hp) (z:c.nxt=st.nxt) {e:Ty} {id d:Nat} {xs:List e.den} (i:cZ c.hp id=a6 (.arr e d xs)) {w':World} {j:TypeId} {l:List Value} (A:0<e.size)
  (I:w'.ownsRow W0.heap.size j e.size (c.mu id).v xs.length l) (o:dX (dM c.w c.free e) e.size xs l) (h:c.w.grownBy w' (c.mu id).v.ownBlock) (B: ∀b,(c.mu id).v.ownBlock=a6 b->W0.heap.size<=b) (D:e=.int .u8->j=lu):
  ∃c',x9 W0 c st c' {st with hp:=gX st.hp id (.arr e d xs)}/\c'.w=w':=by
 have E:Below W0.heap.size W0 w':=g.bel.grown h g.size B;have p:(bY.arr e d xs).like (c.mu id) (.arr e d xs) ⟨0,(c.mu id).v⟩:=⟨ae _,fun _=>⟨rfl,rfl⟩⟩;have q: ∀b,b<c.w.heap.size->(bY.arr e d xs).blk (c.mu id)≠a6 b->w'.heap[b]? =c.w.heap[b]? :=fun b f J=>h.block b f (by
  grind [bY.blk])
 have s: ∀b,(bY.arr e d xs).blk ⟨0,(c.mu id).v⟩=a6 b->(bY.arr e d xs).blk (c.mu id)=a6 b\/c.w.heap.size<=b:=fun b f=>by
  simp only[bY.blk]at f ⊢;exact .inl f
 have u: ∀(b:Nat) (L:Loop),(bY.arr e d xs).blk (c.mu id)=a6 b->c.w.heap[b]? =a6 (Obj.loop L)-> ∃G:Loop,w'.heap[b]? =a6 (Obj.loop G):=fun b L f o=>absurd o ((g.obj id _ i).no_loop (by simp) f);have x:=Cx.Le.put (w:=w') g i p h.size q s u;refine⟨c.put id (.arr e d xs) ⟨0,(c.mu id).v⟩ w',⟨by simp[Cx.put,y],z,rfl,rfl,g.put i p E h.size q s u ?_,x⟩,rfl⟩;refine⟨A,j,l, ?_,dX.mono (dM.mono x.free e) _ _ o,D⟩;simp_all [Cx.put,upd_same]
theorem RP: ∀(xs:List uM.den) (f:List Value),dX (dM c.w c.free uM) uM.size xs f->f=xs.flatMap (fun x=>[.int .i64 x.1,.int .i64 x.2.1,.int .i64 x.2.2.1,.bool x.2.2.2.1])
 |[],f,h=>h
 |x::xs,f,h=>by
  obtain⟨d,o,p,I,e,q⟩:=h;have s:=RP xs o q;have hd:d=[.int .i64 x.1,.int .i64 x.2.1,.int .i64 x.2.2.1,.bool x.2.2.2.1]:=by
   obtain⟨u,J,v,g,e⟩:=e;obtain⟨y,K,z,i,e⟩:=e;obtain⟨A,L,B,j,e⟩:=e;obtain⟨D,E,G,hd,l⟩:=e;have g:u=[.int .i64 x.1]:=g;have i:y=[.int .i64 x.2.1]:=i;have j:A=[.int .i64 x.2.2.1]:=j;have hd:D=[.bool x.2.2.2.1]:=hd;have l:E=[]:=l;rw[v,z,B,G,g,i,j,hd,l];rfl
  rw[p,hd,s];rfl
theorem afL {g sc:FuncId} (L:E5 P g sc) {args:List bn} {st:St} {K:bn->St->Option R} (h:VK sc args st K=a6 r) {a:Act} (hr:gI W0 b0 rd c st a ats) {us:Array Value} (j:bg c args us.toList)
  (Rr:Ending->World->Prop) (M: ∀c' z u A,K z A=a6 r->gI W0 b0 rd c' A a ats->bu c' z u->c.Mono c'->Rr (.returned u) c'.w):
  (callFunc g us).run P c.w=.ok (.enter g us) c.w/\Calls P g us c.w Rr:=by
 unfold VK at h;split at h<;>try (cases h;done)
 rename_i id ad c0
 obtain⟨q,d⟩:=bK h;clear h;have q:=ah q;subst q;split at d<;>try (cases d;done)
 rename_i e v xs f
 obtain⟨B,l⟩:=bK d;clear d;simp only[beq_iff_eq]at B;subst B;split at l<;>try (cases l;done)
 rename_i ag i
 have s:=fV i;injection s with s
 subst s;rw[dY]at i;injection i with i
 subst i;obtain⟨D,h⟩:=bK l;clear l;simp only[af]at D;obtain⟨N,E⟩:=D;have E:=pG E;have O:=f;rw[<-hr.hp]at f;have o:=hr.ok;obtain⟨S,U,G,I,J,V⟩:=o.obj id _ f;obtain⟨us⟩:=us
 match us,j with
 |[W,w2],j=>
  simp only[bg,and_true]at j;obtain⟨k1,k2⟩:=j;simp only[bu]at k1 k2;have X:W=(c.mu id).v:=(k1.2.2 _ _ _ f).2 rfl;obtain⟨p,rfl,x⟩:=k2;have x:p= #[]:=by
   obtain⟨p⟩:=p;cases p with
   |nil=>rfl
   |cons _ _=>simp[bg]at x
  subst x;subst X;obtain⟨d,Y⟩:=L c.w W0.heap.size U (c.mu id).v xs.length G xs o.phiw o.size I rfl (by omega) N (RP xs G J);refine⟨d,Y.mono ?_⟩;rintro e w' ⟨rfl,g1,g2⟩;have Z: ∀b,(c.mu id).v.ownBlock=a6 b->W0.heap.size<=b:=fun b hb=>(World.ownsRow.lt I b hb).1;obtain⟨c',y,d2⟩:=ake o hr.hp hr.nxt f S g1 J g2 Z V;subst d2;have ab:({st with hp:=gX st.hp id (.arr uM v xs)}:St)=st:=by rw[Ig _ _ _ O]
  rw[ab]at y;exact M c' _ (.tuple #[]) _ h (hr.did y) (by simp[bu,bg]) y.le.mono
theorem jG {E:Env} (L:uh P E) {S:lq R} (W:rZ P W0 S) (hy:zQ P W0 S) (n:Nat):kP P W0 n (uj E S):=by
 intro b0 rd fv M U st K r h c a ats X G hr i I o next Q B
 cases fv with
 |fn g V=>
  simp only[uj]at h;split at h
  .rename_i s O
   exact L.v R W0 n g s O b0 rd (.fn g V) M U st K r (by simp_all [BH]) c a ats X G hr i I o next Q B
  split at h
  .rename_i s O
   replace O:E.sb g=a6 s:=by cases B:acN M<;>simp_all
   exact L.x R W0 n g s O b0 rd (.fn g V) M U st K r (by simp_all [Jb]) c a ats X G hr i I o next Q B
  .rw[cond_eq_ite]at h;split at h
   .rename_i ab
    simp only[bu]at i;obtain⟨D,rfl,N⟩:=i;obtain⟨J,j⟩:=WH L.T ((L.b g).1 ab) h hr (us:=G++D) (bg.append_arr I N)
     (fun e d=>match e with
      |.returned v=>next (a.put o.dst v) d
      |.panicked l=>Q (.panic l) a d
      |.outgrown=>LetsOut Q) (fun q z u y k1 k2 k3 k4=>B q z u y k1 k2 k3 k4)
    rw[lW,J];exact⟨mO rd,(qL j).mono fun e d A=>by cases e<;>exact A⟩
   rw[cond_eq_ite]at h;split at h
   .rename_i ad
    simp only[bu]at i;obtain⟨D,rfl,N⟩:=i;obtain⟨J,j⟩:=ae4 ((L.b g).2.1 ad) h hr (us:=G++D) (bg.append_arr I N)
     (fun e d=>match e with
      |.returned v=>next (a.put o.dst v) d
      |.panicked l=>Q (.panic l) a d
      |.outgrown=>LetsOut Q) (fun q z u y k1 k2 k3 k4=>B q z u y k1 k2 k3 k4)
    rw[lW,J];exact⟨mO rd,(qL j).mono fun e d A=>by cases e<;>exact A⟩
   rw[cond_eq_ite]at h;split at h
   .rename_i ag
    simp only[bu]at i;obtain⟨D,rfl,N⟩:=i;obtain⟨J,j⟩:=afL ((L.b g).2.2 ag) h hr (us:=G++D) (bg.append_arr I N)
     (fun e d=>match e with
      |.returned v=>next (a.put o.dst v) d
      |.panicked l=>Q (.panic l) a d
      |.outgrown=>LetsOut Q) (fun q z u y k1 k2 k3 k4=>B q z u y k1 k2 k3 k4)
    rw[lW,J];exact⟨mO rd,(qL j).mono fun e d A=>by cases e<;>exact A⟩
   simp only[bu]at i;obtain⟨D,rfl,N⟩:=i;obtain⟨J,j⟩:=W g (M++V) st K r h b0 rd c a ats (G++D) hr (bg.append_arr I N)
    (fun e d=>match e with
     |.returned v=>next (a.put o.dst v) d
     |.panicked l=>Q (.panic l) a d
     |.outgrown=>LetsOut Q) (fun q z u y k1 k2 k3 k4=>B q z u y k1 k2 k3 k4)
   rw[lW,J];exact⟨mO rd,(qL j).mono fun e d A=>by cases e<;>exact A⟩
 |mfn g Y=>
  simp only[uj]at h;simp only[bu]at i;obtain⟨D,rfl,Z⟩:=i;split at h
  .rename_i s O
   have h0:=L.x R W0 n g s O b0 rd (.fn g []) (Y++M) U st K r (by simp_all [Jb]) c a ats (.func (.func g) #[] #[]) (D++G) hr (by simp only[bu];exact⟨#[],rfl,by simp[bg]⟩) (bg.append_arr Z I) o next Q B
   grind [ND]
  obtain⟨J,j⟩:=W g (Y++M) st K r h b0 rd c a ats (D++G) hr (bg.append_arr Z I)
   (fun e d=>match e with
    |.returned v=>next (a.put o.dst v) d
    |.panicked l=>Q (.panic l) a d
    |.outgrown=>LetsOut Q) (fun q z u y k1 k2 k3 k4=>B q z u y k1 k2 k3 k4)
  rw[ND,J];exact⟨mO rd,(qL j).mono fun e d A=>by cases e<;>exact A⟩
 |yld id=>
  simp only[uj]at h;obtain⟨⟨f,fr,ps,iK,bd,ky,k,p,hg⟩,j⟩:=hy id M st K r h b0 rd c a ats G hr I;simp only[bu]at i;have:=i.2.2 f fr ps iK bd ky k p (by rw[hr.hp];exact hg);subst this;obtain⟨g,ai,iK,bd,h3,h4⟩:=j
    (fun e d=>match e with
     |.returned v=>next (a.put o.dst v) d
     |.panicked l=>Q (.panic l) a d
     |.outgrown=>LetsOut Q) (fun q z u y k1 k2 k3 k4=>B q z u y k1 k2 k3 k4) (n-1)
  rw[TM,h3];exact⟨mO rd,h4.mono fun e d A=>by cases e<;>exact A⟩
 |_=>simp[uj]at h
theorem zV {E:Env} (A:uh P E) {o:lq bn} (B: ∀W0,rZ P W0 o):lC (R:=R) P (MH E fun j st=>o j st fun v _=>a6 v):=by
 intro W0 b0 rd D G I st K r h c a ats J i hr l p;cases D with
 |fn g L=>
  cases L with
  |nil=>
   simp only[MH]at h;split at h
   .rename_i s M
    rw[cond_eq_ite]at h;split at h
    .rename_i N
     exact A.q R g s M N W0 b0 rd (.fn g []) G I st K r (by simp_all [BH]) c a ats J i hr l p
    .cases h
   .split at h
    .rename_i O S
     split at h
     .rename_i v U
      rw[cond_eq_ite]at h;split at h
      .rename_i x
       simp only[bu]at l;obtain⟨V,rfl,W⟩:=l;have X:V= #[]:=by
        have:=bg.length _ _ W
        grind
       subst X;refine⟨v,rv v,h,(EL x _).2 rfl,fun f d=>.inl ⟨g,i, ?_⟩⟩;have Y:gI f 0 a7 (c.base f fun _=>False) ⟨[],[],[],st.nxt⟩ ⟨#[],[]⟩ []:=agQ (Sj.below d hr.ok.phiw) (fun b h=>h.elim) hr.nxt.symm;have Z:agL c (c.base f fun _=>False):=fun b y=>⟨ad7.2 ⟨aS y d.size,fun h=>h⟩,d.block b y⟩;obtain⟨h1,h2⟩:=B f g O _ _ v U 0 a7 _ _ [] i Y (LP hr.ok Z _ _ _ (by rw[hr.hp];exact S) p)
        (fun e ab=>e=.returned (rv v)/\Dh c ab) (fun c' z u ad k1 k2 k3 k4=>by
         simp only[Option.some.injEq]at k1;subst k1;refine⟨by rw[(EL x u).1 k3], ?_⟩;exact d.trans (k2.ok.bel.mono d.size))
       refine⟨?_,h2⟩;rw[lW,Array.append_empty];exact h1
      .cases h
     .cases h
    .cases h
  |cons _ _=>simp[MH]at h
 |_=>simp[MH]at h
theorem DD: ∀k,bg c (List.replicate k (.tup [])) (List.replicate k undef)
 |0=>by simp[bg]
 |k+1=>by
  simp only[List.replicate_succ,bg,bu];exact⟨⟨#[],rfl,by simp[bg]⟩,DD k⟩
theorem VB {l:Nat} {Rr:Ending->World->Prop} {e:Ex} {a:Act} {w:World} (h: ∃v w',(Instr.endRound l e.code).run P w=.ok v w'/\Rr (.returned v) w'):roundPost P l Rr e.xt a w:=by
 cases e<;>exact h
theorem DR: ∀(d:List Nat) (fr args:List bn) (f:List Value) (tmps:Array Value),bg c fr tmps.toList->bg c args f->bg c (tV fr d args) ((d.zip f).foldl (fun tmps (t,a)=>tmps.setIfInBounds t a) tmps).toList
 |[],fr,args,f,tmps,h,_=>by simp_all [tV]
 |p::d,fr,[],[],tmps,h,_=>by assumption
 |p::d,fr,v::args,u::f,tmps,h,e=>by
  simp only[bg]at e;simp only[tV,List.zip_cons_cons,aP];refine DR d _ args f _ ?_ e.2;simp_all [bg.set]
 |p::d,fr,[],_::_,tmps,h,e=>by simp[bg]at e
 |p::d,fr,_::_,[],tmps,h,e=>by simp[bg]at e
end
end
section
open Option renaming some → a6, none → a7
open Bool renaming and_eq_true → af
open Nat renaming le_refl → ae, le_trans → az
open Go.RowKit
section
variable {P:Program} {T:TT} {W0:World} {b0:Nat} {rd:Option Nat} {R:Type} {r:R} {c:Cx} {ats:List (Array Value)}
def qf (P:Program) (E:Env):Prop:= ∀(f:FuncId) (fn:Func) (c:Code),P.funcs[f]? =a6 fn->fn.body=a6 c->dL E f c
def Zt (E:Env):Prop:= ∀f k iK d,oO f k=a6 (iK,d)->dL E f iK/\dL E f d
theorem oN {E:Env} {e:lq R} {g:Sl} {f:FuncId} {k:Nat} {x y:Code}: ∀c:Code,iL E e g f c->EJ c k=a6 (x,y)->iL E e g f x/\iL E e g f y
 |.rangeFunc _ _ iK i,hl,h=>by
  simp only[EJ]at h;split at h
  .cases h;exact⟨hl.1,hl.2.1⟩
  .split at h
   .rename_i z d;cases h;exact oN iK hl.1 d
   .exact oN i hl.2.1 h
 |.seq a b,hl,h=>by
  simp only[EJ]at h;split at h
  .rename_i z d;cases h;exact oN a hl.1.1 d
  .exact oN b hl.2 h
 |.cond _ a b,hl,h=>by
  simp only[EJ]at h;split at h
  .rename_i z d;cases h;exact oN a hl.1 d
  .exact oN b hl.2 h
 |.block _ c,hl,h=>oN c hl h
 |.loop c,hl,h=>oN c hl.1 h
 |.scope c,hl,h=>oN c hl h
 |.skip,_,h|.label _,_,h|.region _ _ _,_,h|.exit _,_,h|.goto _,_,h|.ret,_,h|.refuse _,_,h=>by simp[EJ]at h
theorem ac4 {P:Program} {E:Env} (h:qf P E): ∀f k iK d,arq P f k=a6 (iK,d)->dL E f iK/\dL E f d:=fun f k iK d hr=>by
 unfold arq at hr;split at hr
 .rename_i fn e
  split at hr
  .rename_i c g
   exact⟨fun R m=>(oN c (h f fn c e g R m) hr).1,fun R m=>(oN c (h f fn c e g R m) hr).2⟩
  .cases hr
 .cases hr
theorem V4 {P:Program} {E:Env} (h:uh P E): ∀R:Type,lC (R:=R) P (Dk E.sg E.cl):=fun R W0 b0 rd v e f st K r hr c a ats i j l o p=>by
 unfold Dk at hr;split at hr
 .rename_i g
  split at hr
  .rename_i s u
   replace hr:=bK hr;obtain⟨d,hr⟩:=hr;simp only[af]at d;exact h.q R g s u d.1 W0 b0 rd (.fn g []) e f st K r (by simp_all [BH]) c a ats i j l o p
  .cases hr
 .cases hr
theorem uh.at {P:Program} {E:Env} (h:uh P E) (n:Nat):uh P (E.at n):=⟨h.T,h.x,h.b,h.v,h.q⟩
theorem aj1 {st:St} {K:St->Option R} (h:pop st K=a6 r): ∃fr stk,st.stk=fr::stk/\K {st with fr:=fr,stk:=stk}=a6 r:=by
 grind [pop]
theorem zU {v:bn} {u:Value} {f d:Cx} {st st1:St} {a:Act} {z:Nat} (j:gI W0 b0 rd f st a ats) (A:d.Ok W0) (B:d.hp=st1.hp) (D:d.nxt=st1.nxt) (E:st1.fr=[]) (G:zD d st1.stk (a.tmps::ats))
  (g:f.Mono d) (I:bu d v u) {K:bn->St->Option R} (h:(match gc z v st1 with|some o=>pop o (K v)|none=>a7)=a6 r):
  ∃c' p,K v p=a6 r/\gI W0 b0 rd c' p a ats/\bu c' v u/\f.Mono c'/\c'.w=d.w:=by
 have hr:gI W0 0 a7 d st1 ⟨#[],[]⟩ (a.tmps::ats):=⟨B,D,A,by rw[E];simp[bg],G,⟨[],rfl,List.nodup_nil,fun r hr=>by simp at hr⟩,fun l hl=>by cases hl⟩;split at h
 .rename_i o J
  obtain⟨M,e,N,q,O,Y,_⟩:=hr.gc I J;obtain⟨fr,stk,S,h⟩:=aj1 h;have i:=e.stk;rw[S]at i;refine⟨M,_,h,⟨e.hp,e.nxt,e.ok,i.1,i.2, ?_,fun l hl=> ?_⟩,N,g.trans q,O⟩
  .obtain⟨U,V,W,s⟩:=j.df;exact⟨U,V,W,fun x y=>⟨q.mks x (g.mks x (s x y).1),(s x y).2⟩⟩
  .obtain⟨L,X⟩:=j.rd l hl;obtain⟨Z,ab⟩:=g.lp l L X;simp_all
 .cases h
theorem aeR (hT:TOk P T) (hm:P.follows .mixedOrders=true) (ab:EZ P) {E:Env} (ad:E.P=P) (S:E.T=T) (q:uh P E) (ag:qf P E) (av:Zt E) {m:Nat} (d: ∀(R:Type) (W0:World),rZ P W0 (jK E m (R:=R))/\zQ P W0 (jK E m (R:=R))):
  rZ P W0 (jK E (m+1) (R:=R)):=by
 intro f A st K r h b0 rd c a ats B hr ah J hR;simp only[jK]at h;rw[ad]at h;split at h
 .cases h
 .rename_i fn M
  split at h
  .cases h
  .rename_i U j
   rw[cond_eq_ite]at h;split at h
   .rename_i ai
    have ai:A.length<=fn.ntmps:=by simp_all
    have aw:A.length=B.size:=by simpa using bg.length _ _ ah
    refine⟨yA ab M j B c.w, ?_⟩;refine(callsIn_wide (n:=0)).1 (callsIn_of_wp_marks (F:=Fence.wide) (n:=0) M j trivial ?_);have aj:gI W0 c.w.heap.size a7 c {fr:=A++List.replicate (fn.ntmps-A.length) (.tup []),stk:=st.fr::st.stk,hp:=st.hp,nxt:=st.nxt} {tmps:=B++Array.replicate (fn.ntmps-B.size) undef,defers:=[]} (a.tmps::ats):=by
     refine⟨hr.hp,hr.nxt,hr.ok, ?_,⟨hr.fr,hr.stk⟩,⟨[],rfl,List.nodup_nil,fun r hr=>by simp at hr⟩,fun l hl=>by cases hl⟩
     grind [bg.append_arr,Array.toList_replicate,DD]
    refine IV (rd:=a7) hT hm (n:=0) (E:=E.at m) S (jG (E:=E.at m) (q.at m) (d R W0).1 (d R W0).2 0) (zV (E:=E.at m) (q.at m) fun W=>(d bn W).1) (d R W0).1 (jG (E:=E.at m) (q.at m) (d St W0).1 (d St W0).2 0) (jG (E:=E.at m) (q.at m) (d Unit W0).1 (d Unit W0).2 0) (V4 (E:=E.at m) (q.at m)) U (ag f fn U M j R m) _ _ c _ _ h aj (ae _) fun e N s O D o p=> ?_;have V:(pV E.T s fn.results.toList fun y=>
       let v:=match y with
        |[v]=>v
        |y=>.tup y
       match gc (bif E.cl then st.nxt else 1000000*s.stk.length) v {s with fr:=[]}with
       |some ak=>pop ak (K v)
       |none=>a7)=a6 r->LeavesInM Fence.wide 0 P fn O.tmps J O.defers .returning N.w:=by
     intro X;obtain⟨ds,d1,d2,Y⟩:=o.df;obtain⟨Z,e1,e2,G,e4,e5,e6,e7,al,e8⟩:=O5 (n:=0) (P:=P) (fn:=fn) (tmps:=O.tmps) (Rr:=J) ds N o.ok d2 fun x I=>(Y x I).1;rw[d1];refine e8 ?_;rw[S]at X;obtain⟨y,us,h3,h4,h5⟩:=wW hT e4 (e1.trans o.hp) (bg.le0 G _ _ o.fr) _ _ X;have an:c.Mono Z:=by
      refine⟨fun x I=>e5 x (p.mks x I) fun hd=> ?_,fun b L hL=> ?_,az p.size e7,al.trans p.bar,fun b j=>⟨(G.out b (p.out b j).1).1,(G.out b (p.out b j).1).2.trans (p.out b j).2⟩⟩
      .have h6:=(Y x hd).2;have h7:=hr.ok.mark_lt I;omega
      .obtain⟨L1,ao⟩:=p.lp b L hL;exact e6 b L1 ao
     obtain⟨c3,ax,k1,k2,k3,k4,k5⟩:=zU (v:=IQ y) (u:=EI us) hr e4 (st1:={s with fr:=[]}) (e1.trans o.hp) (e2.trans o.nxt) rfl (by
      have: ∀(z:List (List bn)) (g:List (Array Value)),zD N z g->zD Z z g:=fun z=>by
       induction z with
       |nil=>intro g h;cases g with
        |nil=>trivial
        |cons _ _=>exact h.elim
       |cons f z au=>intro g h;cases g with
        |nil=>exact h.elim
        |cons t g=>exact⟨bg.le0 G _ _ h.1,au g h.2⟩
      exact this _ _ o.stk) an (xU h4) (K:=K) h3
     refine⟨EI us,YN h5, ?_⟩
     grind
    cases e with
    |normal=>exact V D
    |ret=>exact V D
    |exit i=>cases D
    |goto l=>cases D
   .cases h
theorem Z8 (hT:TOk P T) (hm:P.follows .mixedOrders=true) (cv:EZ P) {E:Env} (dc:E.P=P) (aS:E.T=T) (V:uh P E) (dd:qf P E) (au:Zt E) {m:Nat} (g: ∀(R:Type) (W0:World),rZ P W0 (jK E m (R:=R))/\zQ P W0 (jK E m (R:=R))):
  zQ P W0 (jK E (m+1) (R:=R)):=by
 intro id ah st K r h b0 rd c a ats ai hr av;simp only[jK]at h;split at h
 .rename_i f aj ps iK X d hg
  refine⟨⟨f,aj,ps,iK,X,d,0,a7,hg⟩,fun Rr hR n=> ?_⟩;rw[cond_eq_ite]at h;split at h
  .rename_i aw
   have aw:ah.length=ps.length:=by simpa using aw
   have dl:ah.length=ai.size:=by simpa using bg.length _ _ av
   have ax:cZ c.hp id=a6 (.lp f aj ps iK X d 0 a7):=by rw[hr.hp];exact hg
   obtain⟨ay,hB,L,hL,hv,q1,q2,q3,q4,q5⟩:=hr.ok.obj id _ ax;have o:uh P ((E.at m).keyed d):=by
    cases d with
    |none=>exact⟨V.T,V.x,V.b,V.v,V.q⟩
    |some k=>exact V.at m
   have aA:((E.at m).keyed d).T=T:=by cases d<;>exact aS
   have⟨aU,aV⟩:iL ((E.at m).keyed d) (jK E m (R:=R)) (Qu E m) f iK/\iL ((E.at m).keyed d) (jK E m (R:=R)) (Qu E m) f X:=by
    cases d with
    |none=>exact⟨gJ (fun _=>rfl) (fun _=>rfl) _,gJ (fun _=>rfl) (fun _=>rfl) _⟩
    |some k=>exact⟨(au f k iK X (ay k rfl)).1 R m,(au f k iK X (ay k rfl)).2 R m⟩
   have aW:ai.size=L.params.size:=by
    grind
   refine⟨_,_,_,_,run_yield hL aW, ?_⟩;refine roundIn_of_wpIn trivial ?_;rw[q2,q3];have aX:bu c (.yld id) (.func (.yield (c.mu id).blk) #[] #[]):=by
    simp only[bu];exact⟨rfl,.inl ⟨_,ax⟩,fun _ _ _ _ _ _ _ _ _=>by simp⟩
   have bf:gI W0 c.w.heap.size (a6 (c.mu id).blk) c {fr:=tV aj ps ah,stk:=[.yld id]::st.fr::st.stk,hp:=st.hp,nxt:=st.nxt} {tmps:=(L.params.zip ai).foldl (fun aB (t,a)=>aB.setIfInBounds t a) L.tmps,defers:=[]} (#[.func (.yield (c.mu id).blk) #[] #[]]::a.tmps::ats):=by
    refine⟨hr.hp,hr.nxt,hr.ok, ?_,⟨by simpa [bg] using aX,hr.fr,hr.stk⟩,⟨[],rfl,List.nodup_nil,fun r hr=>by simp at hr⟩,fun l hl=>by simp_all⟩;have:=DR ps aj ah ai.toList L.tmps hv av
    grind [Array.toList_zip]
   refine IV (rd:=a6 (c.mu id).blk) hT hm (E:=(E.at m).keyed d) aA (jG (E:=(E.at m).keyed d) o (g R W0).1 (g R W0).2 n) (zV (E:=(E.at m).keyed d) o fun W=>(g bn W).1) (g R W0).1 (jG (E:=(E.at m).keyed d) o (g St W0).1 (g St W0).2 n) (jG (E:=(E.at m).keyed d) o (g Unit W0).1 (g Unit W0).2 n) (V4 o) iK aU _ _ c _ _ h bf (ae _) fun e c1 Y a1 y p bt=> ?_;cases e with
   |normal=>
    split at y
    .rename_i an dp _ cb
     split at y
     .rename_i f1 aF aG aH aI aJ cc
      have s:=p.stk;rw[cb]at s;obtain⟨aK,_⟩:=s;simp only[bg,and_true]at aK;have ao:=cc;rw[<-p.hp]at ao;obtain⟨dT,ea,L1,cd,ec,p1,p2,p3,p4,p5⟩:=p.ok.obj an _ ao;simp only[bu]at aK;have ee:(c.mu id).blk=(c1.mu an).blk:=by simp_all
      obtain⟨c2,e1,e2,e3,e4,e5,e6⟩:=EM p.ok ao cd {L1 with state:=.busy} (o':=.lp f1 aF aG aH aI aJ 2 a7) (.inr ⟨2,a7,rfl,rfl,rfl,rfl,rfl,rfl⟩);simp only[Ex.xt,Exit.then];refine⟨c2.w, ?_, ?_⟩
      .simp_all [run_beginRound]
      have ad:c.Mono c2:=bt.trans e3.mono;have ch:gI W0 c.w.heap.size (a6 (c.mu id).blk) c2 {Y with hp:=gX Y.hp an (.lp f1 aF aG aH aI aJ 2 a7)} a1 (#[.func (.yield (c.mu id).blk) #[] #[]]::a.tmps::ats):=
       ⟨e1.trans (by rw[p.hp]),e2.trans p.nxt,e4,bg.le e3 _ _ p.fr,zD.le e3 _ _ p.stk,let⟨ds,d1,d2,d3⟩:=p.df;⟨ds,d1,d2,fun x hx=>⟨e3.mks x (d3 x hx).1,(d3 x hx).2⟩⟩,fun l hl=>let⟨L,hL⟩:=p.rd l hl;e3.lp l L hL⟩
      refine IV (rd:=a6 (c.mu id).blk) hT hm (E:=(E.at m).keyed d) aA (jG (E:=(E.at m).keyed d) o (g R W0).1 (g R W0).2 n) (zV (E:=(E.at m).keyed d) o fun W=>(g bn W).1) (g R W0).1 (jG (E:=(E.at m).keyed d) o (g St W0).1 (g St W0).2 n) (jG (E:=(E.at m).keyed d) o (g Unit W0).1 (g Unit W0).2 n) (V4 o) X aV _ _ c2 _ _ y ch ad.size fun e c3 z a3 A j ak=> ?_;refine VB ?_;split at A
      .rename_i Z al cn
       split at A
       .rename_i B D G I J M cu
        have s:=j.stk;rw[cn]at s;obtain⟨aO,s⟩:=s;simp only[bg,and_true]at aO;have ab:=cu;rw[<-j.hp]at ab;obtain⟨ef,eg,L3,ag,eh,w1,w2,w3,w4⟩:=j.ok.obj Z _ ab;simp only[bu]at aO;have aP:(c.mu id).blk=(c3.mu Z).blk:=by simp_all
        have aQ:=run_endRound (P:=P) (w:=c3.w) e.code ag;rw[<-aP]at aQ;refine⟨_,_,aQ, ?_⟩;rw[aP];cases e with
        |normal=>
         obtain⟨N,g1,g2,g3,g4,g5,g6⟩:=EM j.ok ab ag {L3 with state:=.ready,pending:=a7} (o':=.lp B D G I J M 0 a7) (.inr ⟨0,a7,rfl,⟨rfl,rfl⟩,rfl,rfl,rfl,rfl⟩);have O:c.Mono N:=(ad.trans ak).trans g3.mono;obtain⟨S,U,k1,k2,k3,k4,k5⟩:=zU (v:=.undef) (u:=undef) hr g4 (st1:={z with fr:=[],stk:=al,hp:=gX z.hp Z (.lp B D G I J M 0 a7)}) (g1.trans (by rw[j.hp])) (g2.trans j.nxt) rfl (zD.le g3 _ _ s) O (by simp[bu]) (K:=fun _=>K (.val .bool true)) A;have:=hR S (.val .bool true) (.bool true) U k1 k2 (by simp only[bu];exact VD.bool_mk) k4;rw[k5,g5]at this;exact this
        |exit i=>
         obtain⟨N,g1,g2,g3,g4,g5,g6⟩:=EM j.ok ab ag {L3 with state:=.done,pending:=a6 (.exit i)} (o':=.lp B D G I J M 1 (a6 (.exit i))) (.inr ⟨1,a6 (.exit i),rfl,⟨rfl,rfl,by simp[Ex.code]⟩,rfl,rfl,rfl,rfl⟩);have O:c.Mono N:=(ad.trans ak).trans g3.mono;obtain⟨S,U,k1,k2,k3,k4,k5⟩:=zU (v:=.undef) (u:=undef) hr g4 (st1:={z with fr:=[],stk:=al,hp:=gX z.hp Z (.lp B D G I J M 1 (a6 (.exit i)))}) (g1.trans (by rw[j.hp])) (g2.trans j.nxt) rfl (zD.le g3 _ _ s) O (by simp[bu]) (K:=fun _=>K (.val .bool false)) A;have:=hR S (.val .bool false) (.bool false) U k1 k2 (by simp only[bu];exact VD.bool_mk) k4;rw[k5,g5]at this;exact this
        |goto l=>
         obtain⟨N,g1,g2,g3,g4,g5,g6⟩:=EM j.ok ab ag {L3 with state:=.done,pending:=a6 (.goto l)} (o':=.lp B D G I J M 1 (a6 (.goto l))) (.inr ⟨1,a6 (.goto l),rfl,⟨rfl,rfl,by simp[Ex.code]⟩,rfl,rfl,rfl,rfl⟩);have O:c.Mono N:=(ad.trans ak).trans g3.mono;obtain⟨S,U,k1,k2,k3,k4,k5⟩:=zU (v:=.undef) (u:=undef) hr g4 (st1:={z with fr:=[],stk:=al,hp:=gX z.hp Z (.lp B D G I J M 1 (a6 (.goto l)))}) (g1.trans (by rw[j.hp])) (g2.trans j.nxt) rfl (zD.le g3 _ _ s) O (by simp[bu]) (K:=fun _=>K (.val .bool false)) A;have:=hR S (.val .bool false) (.bool false) U k1 k2 (by simp only[bu];exact VD.bool_mk) k4;rw[k5,g5]at this;exact this
        |ret=>
         obtain⟨N,g1,g2,g3,g4,g5,g6⟩:=EM j.ok ab ag {L3 with state:=.done,pending:=a6 (.ret)} (o':=.lp B D G I J M 1 (a6 .ret)) (.inr ⟨1,a6 .ret,rfl,⟨rfl,rfl,by simp[Ex.code]⟩,rfl,rfl,rfl,rfl⟩);have O:c.Mono N:=(ad.trans ak).trans g3.mono;obtain⟨S,U,k1,k2,k3,k4,k5⟩:=zU (v:=.undef) (u:=undef) hr g4 (st1:={z with fr:=[],stk:=al,hp:=gX z.hp Z (.lp B D G I J M 1 (a6 .ret))}) (g1.trans (by rw[j.hp])) (g2.trans j.nxt) rfl (zD.le g3 _ _ s) O (by simp[bu]) (K:=fun _=>K (.val .bool false)) A;have:=hR S (.val .bool false) (.bool false) U k1 k2 (by simp only[bu];exact VD.bool_mk) k4;rw[k5,g5]at this;exact this
       .cases A
      .cases A
     .cases y
    .cases y
   |exit i=>simp at y
   |goto l=>simp at y
   |ret=>simp at y
  .cases h
 .cases h
theorem Ed (hT:TOk P T) (d:P.follows .mixedOrders=true) (e:EZ P) {E:Env} (g:E.P=P) (i:E.T=T) (j:uh P E) (l:qf P E) (o:Zt E): ∀(m:Nat) (R:Type) (W0:World),rZ P W0 (jK E m (R:=R))/\zQ P W0 (jK E m (R:=R))
 |0,R,W0=>⟨fun f p st K r h=>by simp[jK]at h,fun id p st K r h=>by simp[jK]at h⟩
 |m+1,R,W0=>⟨aeR hT d e g i j l o (Ed hT d e g i j l o m),Z8 hT d e g i j l o (Ed hT d e g i j l o m)⟩
end
end
section
open Option renaming some → a6, none → a7
open Bool renaming and_eq_true → af
open List renaming mem_cons_of_mem → ak
open Nat renaming le_refl → ae
open Go.RowKit
def mM (c:Cx):(d:List Ty)->(d.foldr Ty.pair Ty.unit).den->List Value->Prop
 |[],_,us=>us=[]
 |t::d,x,us=> ∃u e,us=u::e/\VD c t x.1 u/\mM c d x.2 e
def jF (w:World) (d:Nat->Prop):Cx:=⟨fun _=>⟨0,undef⟩,[],0,w,[],d⟩
def CB (rs:List (Ty×Bool)) (y:((rs.map (·.1)).foldr Ty.pair Ty.unit).den):fD:=
 match vz rs y with
 |some ⟨e,xs⟩=>[(0,.arr e 0 xs)]
 |none=>[]
def yg (w:World) (f:Nat->Prop) (rs:List (Ty×Bool)) (y:((rs.map (·.1)).foldr Ty.pair Ty.unit).den):Ending->World->Prop:=fun e g=>
 ∃(d:Cx) (us:List Value),e=.returned (EI us)/\d.w=g/\d.Ok w/\d.bar=f/\d.mks=[]/\d.hp=CB rs y/\bg d (mr 0 rs y) us
def dO (P:Program) (g:FuncId) (s:Sum):Prop:=
 ∀(w:World) (e:Nat->Prop) (d:Array Value) x y,Sj w->(∀b,e b->b<w.heap.size)->mM (jF w e) s.ps x d.toList->s.f x=a6 y->
  ((callFunc g d).run P w=.ok (.enter g d) w/\Calls P g d w (yg w e s.rs y))\/ ∃u,(callFunc g d).run P w=.ok (.value u) w/\yg w e s.rs y (.returned u) w
section
variable {P:Program} {T:TT} {W0:World} {b0:Nat} {rd:Option Nat} {R:Type} {r:R} {c:Cx} {ats:List (Array Value)}
theorem D6 {w:World} {d:Nat->Prop} {b:Nat}:(jF w d).free b↔b<w.heap.size/\ ¬d b:=by
 constructor
 .intro h;exact⟨h.1,h.2.2.2⟩
 .rintro ⟨e,f⟩;exact⟨e,(by rintro ⟨i,o,h,_⟩;simp[jF,cZ]at h),by simp[jF],f⟩
theorem abo (s:c.Ok W0) {cb:Cx} (i:agL c cb) {t:Ty} {v:bn} {x:t.den} {u:Value} (h:v.as c.hp t=a6 x) (d:bu c v u):VD cb t x u:=by
 have o: ∀{t:Ty} {x:t.den} {u:Value},VD c t x u->VD cb t x u:=fun {t x u} d=>
  ⟨fun e=>let⟨cs,f,j⟩:=d.1 e;⟨cs,f,dM.mono (fun b g=>i b g.1) t x _ j⟩,fun e=>dM.mono (fun b g=>i b g.1) t x _ (d.2 e)⟩
 cases v with
 |val t' z=>
  grind [bn.as,fV,dY,bu]
 |nils=>
  cases t with
  |list e=>grind [Cb]
  |_=>simp[bn.as]at h
 |lst t' z b=>
  simp only[bn.as]at h;have e:=fV h;subst e;simp_all [dY,bu]
 |emp=>
  cases t with
  |list e=>grind [Cb]
  |_=>simp[bn.as]at h
 |slc id ver y=>
  cases t with
  |list e=>grind [Cb]
  |_=>simp[bn.as]at h
 |agg l=>
  simp only[bn.as]at h;rw[cond_eq_ite]at h;split at h
  .rename_i p
   simp only[bu]at d;obtain⟨q,rfl,f,j⟩:=d;exact o ((VD.agg p).2 ⟨q,rfl,lZ h f⟩)
  .cases h
 |_=>simp[bn.as]at h
theorem E8 {cb:Cx} (f: ∀b,c.free b->cb.free b/\cb.w.heap[b]? =c.w.heap[b]?) {t:Ty} {v:bn} {x:t.den} {u:Value} (j:kV v=false) {hp:fD} (h:v.as hp t=a6 x) (d:bu c v u):VD cb t x u:=by
 cases v with
 |val t' z=>
  simp only[bn.as]at h;have e:=fV h;subst e;rw[dY]at h;cases h;simp only[bu]at d;exact⟨fun e=>let⟨cs,g,i⟩:=d.1 e;⟨cs,g,dM.mono f t' _ _ i⟩,fun e=>dM.mono f t' _ _ (d.2 e)⟩
 |nils=>
  cases t with
  |list e=>
   simp only[bn.as,Option.some.injEq]at h;subst h;simp only[bu]at d;subst d;exact(VD.leaf rfl).2 ⟨a7,0,[],rfl,ae _,rfl,.inl rfl⟩
  |_=>simp[bn.as]at h
 |lst t' z b=>
  simp only[bn.as]at h;have e:=fV h;subst e;rw[dY]at h;cases h;simp only[bu]at d;exact⟨fun e=>let⟨cs,g,i⟩:=d.1.1 e;⟨cs,g,dM.mono f _ _ _ i⟩,fun e=>dM.mono f _ _ _ (d.1.2 e)⟩
 |emp=>
  cases t with
  |list e=>
   simp only[bn.as,Option.some.injEq]at h;subst h;simp only[bu]at d;obtain⟨a,rfl⟩:=d;exact(VD.leaf rfl).2 ⟨a,0,[],rfl,ae _,rfl,.inl rfl⟩
  |_=>simp[bn.as]at h
 |slc id ver o=>simp[kV]at j
 |agg l=>simp[kV]at j
 |_=>simp[bn.as]at h
theorem xh {cb:Cx} {hp:fD}: ∀(e:List Ty) (args:List bn) x (us:List Value),xg hp e args=a6 x->bg c args us->
  (∀(t:Ty) (v:bn) (x:t.den) (u:Value),v∈args->v.as hp t=a6 x->bu c v u->VD cb t x u)->mM cb e x us
 |[],[],x,[],h,_,_=>rfl
 |t::e,v::args,x,u::us,h,d,f=>by
  simp only[xg]at h;split at h
  .rename_i g i
   split at h
   .rename_i j l
    cases h;simp only[bg]at d;exact⟨u,us,rfl,f t v g u (by simp) i d.1,xh e args j us l d.2 fun t v x u o=>f t v x u (ak _ o)⟩
   .cases h
  .cases h
 |[],[],_,_::_,_,d,_=>by simp[bg]at d
 |[],_::_,_,_,h,_,_=>by simp[xg]at h
 |_::_,[],_,_,h,_,_=>by simp[xg]at h
 |_::_,_::_,_,[],_,d,_=>by simp[bg]at d
theorem VD.move {c' c2:Cx} (f:c2.w=c'.w) {t:Ty} {x:t.den} {u:Value} (h:(∀b,c'.free b->c2.free b)\/t.rigid=true) (g:VD c' t x u):VD c2 t x u:=by
 rcases h with h|h
 .exact⟨fun e=>let⟨cs,i,j⟩:=g.1 e;⟨cs,i,dM.mono (fun b d=>⟨h b d,by rw[f]⟩) t x _ j⟩,fun e=>dM.mono (fun b d=>⟨h b d,by rw[f]⟩) t x _ (g.2 e)⟩
 simp_all [VD.rigid]
theorem dX.move {c' c2:Cx} (f:c2.w=c'.w) {e:Ty} {xs:List e.den} {d:List Value} (h:(∀b,c'.free b->c2.free b)\/e.rigid=true) (g:dX (dM c'.w c'.free e) e.size xs d):dX (dM c2.w c2.free e) e.size xs d:=by
 grind [dX.mono,dM.mono,rD]
theorem Df {c' c2:Cx} (f:c2.w=c'.w) (id:Nat): ∀(rs:List (Ty×Bool)) y (us:List Value),(∀t∈rs,(∀b,c'.free b->c2.free b)\/t.1.rigid=true\/t.2=true)->
  (news rs=0\/ ∀u,bu c' (.slc 0 0 a7) u->bu c2 (.slc id 0 a7) u)->bg c' (mr 0 rs y) us->bg c2 (mr id rs y) us
 |[],y,[],_,_,_=>by simp[mr,bg]
 |[],y,_::_,_,_,d=>by assumption
 |(t,false)::rs,y,us,h,e,d=>by
  cases us with
  |nil=>assumption
  |cons u us=>
   simp only[mr,bg,bu]at d ⊢;refine⟨VD.move f ?_ d.1,Df f id rs y.2 us (fun t g=>h t (ak _ g)) e d.2⟩;simp_all
 |(t,true)::rs,y,us,h,e,d=>by
  cases us with
  |nil=>assumption
  |cons u us=>
   simp only[mr,bg]at d ⊢;rcases e with e|e
   .simp[news]at e
   .exact⟨e u d.1,Df f id rs y.2 us (fun t g=>h t (ak _ g)) (.inr e) d.2⟩
theorem Zj {c':Cx}: ∀(rs:List (Ty×Bool)) y (us:List Value),news rs≠0->bg c' (mr 0 rs y) us-> ∃u,bu c' (.slc 0 0 a7) u
 |[],y,us,h,_=>by simp[news]at h
 |(t,false)::rs,y,us,h,d=>by
  cases us with
  |nil=>simp[mr,bg]at d
  |cons u us=>
   simp only[mr,bg]at d;exact Zj rs y.2 us (by simpa [news] using h) d.2
 |(t,true)::rs,y,us,h,d=>by
  cases us with
  |nil=>simp[mr,bg]at d
  |cons u us=>
   grind [mr,bg]
theorem JR: ∀(rs:List (Ty×Bool)) y {e:Ty} {xs:List e.den},vz rs y=a6 ⟨e,xs⟩->(rs.all fun r=>r.1.rigid||(r.2&&r.1.elem.rigid))=true->e.rigid=true
 |[],y,e,xs,h,_=>by simp[vz]at h
 |(t,false)::rs,y,e,xs,h,d=>by
  simp only[vz]at h;simp only[List.all_cons,af]at d;exact JR rs y.2 h d.2
 |(t,true)::rs,y,e,xs,h,d=>by
  cases t with
  |list f=>
   simp only[vz,Option.some.injEq,Sigma.mk.injEq]at h;obtain⟨rfl,_⟩:=h;simp_all [Ty.rigid,Ty.elem]
  |_=>simp[vz]at h
theorem als {c':Cx} (d:c.Ok W0) (o:c'.Ok c.w) (f:c'.bar=fun b=>b<c.w.heap.size/\ ¬c.free b) {b:Nat} (hb:c'.free b):(c.at_ c'.w).free b:=by
 refine⟨hb.1, ?_⟩;by_cases hlt:b<c.w.heap.size
 .have e:=hb.2.2.2;rw[f]at e;have g:c.free b:=Classical.byContradiction fun h=>e ⟨hlt,h⟩;exact g.2
 .refine⟨fun i=>hlt (d.own_lt i).2,fun j=>hlt (d.mark_lt j),fun l=>hlt (d.bar b l).1⟩
theorem Ze {s:Sum} {cl:Bool} {args:List bn} {dst:Option Nat} {st:St} {K:bn->St->Option R} (h:s.call cl args dst st K=a6 r):
    ((s.rs.all fun r=>r.1.rigid||(r.2&&r.1.elem.rigid))=true\/args.any kV=false)/\ ∃x y,xg st.hp s.ps args=a6 x/\s.f x=a6 y/\
      ((vz s.rs y=a7/\news s.rs=0/\K (IQ (mr 0 s.rs y)) st=a6 r)\/
       (∃e xs id n',vz s.rs y=a6 ⟨e,xs⟩/\news s.rs=1/\cZ st.hp id=a7/\st.nxt<=id/\st.nxt<=n'/\K (IQ (mr id s.rs y)) {st with hp:=(id,.arr e 0 xs)::st.hp,nxt:=n'}=a6 r)):=by
  unfold Sum.call at h;rw[cond_eq_ite]at h;split at h
  . rename_i d
    refine⟨by simpa using d, ?_⟩;split at h
    . rename_i x g
      cases hy:s.f x with
      |none=>rw[hy]at h;cases h
      |some y=>
        rw[hy]at h;simp only[aZ]at h;refine⟨x,y,g,hy, ?_⟩;split at h
        . simp_all [cond_eq_ite]
        . rename_i e xs i
          rw[cond_eq_ite]at h;split at h
          . rename_i j
            obtain⟨id,n',l,o,p,q⟩:=iC h;exact .inr ⟨e,xs,id,n',i,by simpa using j,l,o,p,q⟩
          . cases h
    . cases h
  . cases h
end
end
section
open Option renaming some → a6, none → a7
open Bool renaming and_eq_true → af
open List renaming mem_cons_of_mem → ak, map_cons → au
open Nat renaming le_refl → ae, eq_of_beq_eq_true → ah, le_trans → az, lt_of_lt_of_le → aS
open Go.RowKit
section
variable {P:Program} {T:TT} {W0:World} {b0:Nat} {rd:Option Nat} {R:Type} {r:R} {c:Cx} {ats:List (Array Value)}
theorem Cx.many {c2:Cx} (g:c.Ok W0) (S:Nat->Prop) (y:c2.mks=c.mks) (I:c2.bar=c.bar) (U:c2.nxt=c.nxt)
  (z: ∀i,¬S i->cZ c2.hp i=cZ c.hp i/\c2.mu i=c.mu i)
  (V: ∀i,S i-> ∃o o',cZ c.hp i=a6 o/\cZ c2.hp i=a6 o'/\o.like (c.mu i) o' (c2.mu i)/\ ∀f fr W iK X Y n p,o≠ .lp f fr W iK X Y n p)
  (Z:Below W0.heap.size W0 c2.w) (J:c.w.heap.size<=c2.w.heap.size)
  (A: ∀b,b<c.w.heap.size->(∀i o,S i->cZ c.hp i=a6 o->o.blk (c.mu i)≠a6 b)->c2.w.heap[b]? =c.w.heap[b]?)
  (K: ∀i o' b,S i->cZ c2.hp i=a6 o'->o'.blk (c2.mu i)=a6 b->c.w.heap.size<=b\/ ∃j o,S j/\cZ c.hp j=a6 o/\o.blk (c.mu j)=a6 b)
  (ad: ∀i j o' h b,S i->S j->cZ c2.hp i=a6 o'->cZ c2.hp j=a6 h->o'.blk (c2.mu i)=a6 b->h.blk (c2.mu j)=a6 b->i=j)
  (ag: ∀(b:Nat) (L:Loop) (i:Nat) o,S i->cZ c.hp i=a6 o->o.blk (c.mu i)=a6 b->c.w.heap[b]? ≠a6 (Obj.loop L)):
  c.Le c2/\((∀i o',S i->cZ c2.hp i=a6 o'->c2.ORel W0.heap.size i o')->c2.Ok W0):=by
 have B:c.Le c2:=by
  refine⟨fun b e=>⟨⟨aS e.1 J, ?_,by rw[y];exact e.2.2⟩,A b e.1 fun i o _ l d=>e.2.1 ⟨i,o,l,d⟩⟩,fun i x=> ?_,fun i o' x v=> ?_,fun r hr=>by rw[y];exact hr,fun b L hL=> ?_,J,I⟩
  .rintro ⟨i,o',l,d⟩;by_cases s:S i
   .rcases K i o' b s l d with q|⟨j,o,_,q,u⟩
    .have:=e.1;omega
    .exact e.2.1 ⟨j,o,q,u⟩
   .obtain⟨q,u⟩:=z i s;rw[q]at l;rw[u]at d;exact e.2.1 ⟨i,o',l,d⟩
  .by_cases s:S i
   .obtain⟨o,o',_,d,_⟩:=V i s;exact .inl ⟨o',d⟩
   .rcases x with ⟨o,v⟩|x
    .exact .inl ⟨o,by simp_all⟩
    .exact .inr (by rw[U];exact x)
  .by_cases s:S i
   .grind
   .obtain⟨q,u⟩:=z i s;rw[q]at v;exact⟨o',v,by rw[u];exact o'.like_refl _⟩
  grind
 refine⟨B,fun hO=>⟨Z,fun i o' v=> ?_,fun i j o' h b l d q u=> ?_,fun r hr=> ?_,fun b e=> ?_,g.phi⟩⟩
 .by_cases s:S i
  .exact hO i o' s v
  .obtain⟨q,u⟩:=z i s;rw[q]at v;refine(g.obj i o' v).le B u fun b e=>A b ((g.obj i o' v).lt e).2 fun j o ai D E=> ?_;have:=g.inj j i o o' b D v E e;simp_all
 .have G: ∀i o' b,¬S i->cZ c2.hp i=a6 o'->o'.blk (c2.mu i)=a6 b->cZ c.hp i=a6 o'/\o'.blk (c.mu i)=a6 b:=fun i o' b s l d=>by
   simp_all
  have mixed: ∀i j o' h b,S i-> ¬S j->cZ c2.hp i=a6 o'->cZ c2.hp j=a6 h->o'.blk (c2.mu i)=a6 b->h.blk (c2.mu j)=a6 b->False:=fun i j o' h b l d q u D E=>by
   obtain⟨M,N⟩:=G j h b d u E;rcases K i o' b l q D with O|⟨k,o,hk,O,ab⟩
   .have:=((g.obj j h M).lt N).2;omega
   .have:=g.inj k j o h b O M ab N;simp_all
  by_cases x:S i<;>by_cases hj:S j
  .grind
  .grind
  .grind
  .obtain⟨q1,q2⟩:=G i o' b x l q;obtain⟨q3,q4⟩:=G j h b hj d u;exact g.inj i j o' h b q1 q3 q2 q4
 .rw[y]at hr;exact⟨(g.mks r hr).1,(A r (g.mark_lt hr) fun i o s l d=>g.mark_own hr ⟨i,o,l,d⟩).trans (g.mks r hr).2⟩
 .rw[I]at e;exact(B.out b (g.bar b e)).1
theorem an0 {size:Nat} {s u:Value} {e:Option (Int×Int)} (h:ik size s e u) {b off n cp:Nat} (f:u=.slice (a6 ⟨b,off,a7⟩) n cp):s.ownBlock=a6 b:=by
 subst f;cases e with
 |none=>simp only[ik]at h;subst h;rfl
 |some p=>
  obtain⟨lo,i⟩:=p;simp only[ik]at h;obtain⟨a,m,q,rfl,_,_,_,g⟩:=h;have d:(a6 ⟨b,off,a7⟩:Option Addr)=if q=lo.toNat then a else a.map (·.add (lo.toNat*size)):=by injection g
  split at d
  .subst d;rfl
  .cases a with
   |none=>cases d
   |some a=>
    simp only[Option.map_some,Option.some.injEq]at d;have:=congrArg Addr.block d
    grind [Value.ownBlock,Addr.add]
theorem Zx (s:c.Ok W0) {cb:Cx} (g: ∀b,c.free b->cb.free b/\cb.w.heap[b]? =c.w.heap[b]?) {t:Ty} {v:bn} {x:t.den} {u:Value}
  (A: ∀id i p,v=.slc id i p-> ∀o b,cZ c.hp id=a6 o->o.blk (c.mu id)=a6 b->cb.free b/\cb.w.heap[b]? =c.w.heap[b]?) (h:v.as c.hp t=a6 x) (d:bu c v u):VD cb t x u:=by
 cases hno:kV v with
 |false=>exact E8 g hno h d
 |true=>
  cases v with
  |slc id i p=>
   cases t with
   |list e=>
    obtain⟨a,cp,B,f,j,D⟩:=OT s h d;have E:=VI s h d f;have G: ∃t xs,cZ c.hp id=a6 (.arr t i xs):=by
     simp only[bn.as,yC]at h
     grind
    obtain⟨O,S,y⟩:=G;simp only[bu]at d;have I:=(d.2.2 _ _ _ y).2 rfl;refine(VD.leaf rfl).2 ⟨a,cp,B,by rw[f],E,dX.mono (dM.mono g e) _ _ j,D.imp (fun h=>h) fun⟨b,q,z,U,V,J⟩=> ?_⟩;have W:=an0 I (b:=b) (off:=q) (n:=x.length) (cp:=cp) (by rw[f,z]);obtain⟨K,L⟩:=A id i p rfl _ b y (by assumption);exact⟨b,q,z,K,J.of_block L⟩
   |_=>simp[bn.as]at h
  |agg l=>
   simp only[bn.as]at h;replace h:=bK h;obtain⟨M,h⟩:=h;simp only[bu]at d;obtain⟨N,rfl,f,j⟩:=d;have:=(VD.agg M).2 ⟨N,rfl,lZ h f⟩;exact⟨fun e=>let⟨cs,f,j⟩:=this.1 e;⟨cs,f,dM.mono g _ _ _ j⟩,fun e=>dM.mono g _ _ _ (this.2 e)⟩
  |_=>simp[kV]at hno
theorem AQ: ∀{l:List Nat},Oa l=true->l.Nodup
 |[],_=>List.nodup_nil
 |i::l,h=>by
  simp only[Oa,af,Bool.not_eq_true']at h;refine List.nodup_cons.2 ⟨fun d=> ?_,AQ h.2⟩;have:Uk l i=true:=List.any_eq_true.2 ⟨i,d,by simp⟩;simp_all
theorem Rf {hp:fD} {b:Bool}: ∀(cs:List (Ty×Bool)) (cells:List bn) {x},iZ hp b cs cells=a6 x-> ∀n,(iw cs n).length=(mf cs cells).length:=by
 intro cs
 induction cs with
 |nil=>intro cells x h n;cases cells<;>rfl
 |cons tc cs f=>
  intro cells x h n;obtain⟨t,o⟩:=tc;cases cells with
  |nil=>simp_all [iZ]
  |cons v cells=>
   cases o with
   |false=>
    simp only[iZ]at h;rw[cond_eq_ite]at h
    grind [iw,mf]
   |true=>
    cases t with
    |list e=>
     cases v with
     |slc id ver d=>
      cases d with
      |none=>
       simp only[iZ]at h;split at h
       .replace h:=bK h;grind [iw,mf]
       .cases h
      |some p=>simp[iZ]at h
     |_=>simp[iZ]at h
    |_=>simp[iZ]at h
theorem BR: ∀(cs:List (Ty×Bool)) (n:Nat),∀p∈iw cs n,n<=p.1
 |[],n,p,h=>by simp[iw]at h
 |(_,true)::cs,n,p,h=>by
  simp only[iw,List.mem_cons]at h;rcases h with rfl|h
  .exact ae _
  .exact az (Nat.le_succ n) (BR cs (n+1) p h)
 |(_,false)::cs,n,p,h=>BR cs n p h
theorem su: ∀(cs:List (Ty×Bool)) (n:Nat),((iw cs n).map (·.1)).Nodup
 |[],n=>List.nodup_nil
 |(_,true)::cs,n=>by
  simp only[iw,au];refine List.nodup_cons.2 ⟨fun h=> ?_,su cs (n+1)⟩;obtain⟨p,d,e⟩:=List.mem_map.1 h;have:=BR cs (n+1) p d;omega
 |(_,false)::cs,n=>su cs n
theorem QZ {hp:fD} {b:Bool}: ∀(cs:List (Ty×Bool)) (cells:List bn) (d:List (Nat×Nat)) {x},iZ hp b cs cells=a6 x->d.length=(mf cs cells).length-> ∀g o,(g,o)∈qJ cs d x->
  ∃(k i v j:Nat) (e:Ty) (xs:List e.den),(mf cs cells)[k]? =a6 (i,v)/\d[k]? =a6 (g,j)/\o=.arr e j xs/\cZ hp i=a6 (.arr e v xs)/\(.list e,true)∈cs:=by
 intro cs
 induction cs with
 |nil=>simp_all [qJ]
 |cons tc cs u=>
  intro cells d x h hl g o f;obtain⟨t,y⟩:=tc;cases cells with
  |nil=>simp_all [iZ]
  |cons v cells=>
   cases y with
   |false=>
    simp only[iZ]at h;rw[cond_eq_ite]at h
    grind [mf,qJ]
   |true=>
    cases t with
    |list e=>
     cases v with
     |slc id ver z=>
      cases z with
      |none=>
       simp only[iZ]at h;split at h
       .rename_i N s xs A
        replace h:=bK h;obtain⟨l,h⟩:=h;have l:s=ver:=by simpa using l
        subst l;split at h
        .rename_i B q
         split at h
         .rename_i O D
          cases h;have E:=fV q;cases E;rw[dY]at q;cases q;cases d with
          |nil=>simp[mf]at hl
          |cons p d=>
           obtain⟨S,G⟩:=p;simp only[qJ,List.mem_cons]at f;rcases f with f|f
           .cases f;exact⟨0,id,s,G,_,B,by simp[mf],by simp,rfl,A,by simp⟩
           .obtain⟨k,i,v,j,e,xs,I,J,K,L,M⟩:=u cells d D (by simpa [mf] using hl) g o f;exact⟨k+1,i,v,j,e,xs,by simpa [mf] using I,by simpa using J,K,L,ak _ M⟩
         .cases h
        .cases h
       .cases h
      |some p=>simp[iZ]at h
     |_=>simp[iZ]at h
    |_=>simp[iZ]at h
theorem Us {hp:fD} {b:Bool}: ∀(cs:List (Ty×Bool)) (cells:List bn) (d:List (Nat×Nat)) {x},iZ hp b cs cells=a6 x-> ∀(k i v f g:Nat),(mf cs cells)[k]? =a6 (i,v)->d[k]? =a6 (f,g)->
  ∃e xs,cZ hp i=a6 (.arr e v xs)/\(f,bY.arr e g xs)∈qJ cs d x:=by
 intro cs
 induction cs with
 |nil=>simp_all [mf]
 |cons tc cs B=>
  intro cells d x h k i v f g q j;obtain⟨t,s⟩:=tc;cases cells with
  |nil=>simp_all [iZ]
  |cons u cells=>
   cases s with
   |false=>
    simp only[iZ]at h;rw[cond_eq_ite]at h
    grind [mf,qJ]
   |true=>
    cases t with
    |list e=>
     cases u with
     |slc id ver y=>
      cases y with
      |none=>
       simp only[iZ]at h;split at h
       .rename_i D z xs E
        replace h:=bK h;obtain⟨l,h⟩:=h;have l:z=ver:=by simpa using l
        subst l;split at h
        .rename_i G o
         split at h
         .rename_i I J
          cases h;have A:=fV o;cases A;rw[dY]at o;cases o;cases d with
          |nil=>simp at j
          |cons p d=>
           obtain⟨K,L⟩:=p;cases k with
           |zero=>
            simp only[mf,List.getElem?_cons_zero,Option.some.injEq,Prod.mk.injEq]at q j;obtain⟨rfl,rfl⟩:=q;obtain⟨rfl,rfl⟩:=j
            grind [qJ]
           |succ k=>
            grind [mf,qJ]
         .cases h
        .cases h
       .cases h
      |some p=>simp[iZ]at h
     |_=>simp[iZ]at h
    |_=>simp[iZ]at h
theorem WG {c':Cx} {b:Bool}: ∀(cs:List (Ty×Bool)) (cells:List bn) (f:List (Nat×Nat)) {x} (vs:List Value),iZ c.hp b cs cells=a6 x->bg c cells vs->f.length=(mf cs cells).length->
  (∀(k i v l o:Nat),(mf cs cells)[k]? =a6 (i,v)->f[k]? =a6 (l,o)-> ∀e xs,cZ c.hp i=a6 (.arr e v xs)->cZ c'.hp l=a6 (.arr e o xs)/\(c'.mu l).v=(c.mu i).v)->
  (∀t v x u,(t,false)∈cs->(b=true->kV v=false\/t.rigid=true)->(∀i∈refs v,i∈qN cs cells)->v.as c.hp t=a6 x->bu c v u->VD c' t x u)->bg c' (Di cs f x) vs:=by
 intro cs
 induction cs with
 |nil=>
  grind [Di,bg,iZ]
 |cons tc cs A=>
  intro cells f x vs h q hl g hd;obtain⟨t,I⟩:=tc;cases cells with
  |nil=>simp_all [iZ]
  |cons v cells=>
   cases vs with
   |nil=>simp[bg]at q
   |cons u vs=>
    simp only[bg]at q;cases I with
    |false=>
     simp only[iZ]at h;rw[cond_eq_ite]at h;split at h
     .cases h
     .rename_i S
      split at h
      .rename_i B s
       split at h
       .rename_i J y
        cases h;simp only[Di,bg,bu];refine⟨hd t v B u (by simp) (fun U=> ?_) (fun i g=>by simp[qN,g]) s q.1,A cells f vs y q.2 (by simpa [mf] using hl) (fun k i v l o d j=>g k i v l o (by simpa [mf] using d) j) fun t v x u d j D=>hd t v x u (ak _ d) j fun i g=>by simp[qN,D i g]⟩
        grind
       .cases h
      .cases h
    |true=>
     cases t with
     |list e=>
      cases v with
      |slc id ver K=>
       cases K with
       |none=>
        simp only[iZ]at h;split at h
        .rename_i V E xs L
         replace h:=bK h;obtain⟨z,h⟩:=h;have z:E=ver:=by simpa using z
         subst z;split at h
         .rename_i B s
          split at h
          .rename_i J y
           cases h;have M:=fV s;cases M;rw[dY]at s;cases s;cases f with
           |nil=>simp[mf]at hl
           |cons p f=>
            obtain⟨N,O⟩:=p;simp only[Di,bg];obtain⟨d,j⟩:=g 0 id E N O (by simp[mf]) (by simp) _ _ L;refine⟨?_,A cells f vs y q.2 (by simpa [mf] using hl) (fun k i v l o d j=>g (k+1) i v l o (by simpa [mf] using d) (by simpa using j)) fun t v x u d j D=>hd t v x u (ak _ d) j fun i g=>by simp_all [qN]⟩;have G:=q.1;simp only[bu]at G ⊢;refine⟨G.1,.inl ⟨_,d⟩,fun t u W X=> ?_⟩;simp_all
          .cases h
         .cases h
        .cases h
       |some p=>simp[iZ]at h
      |_=>simp[iZ]at h
     |_=>simp[iZ]at h
theorem Hw: ∀(cs:List (Ty×Bool)) (d:List (Nat×Nat)) (x),List.Sublist ((qJ cs d x).map (·.1)) (d.map (·.1)):=by
 intro cs
 induction cs with
 |nil=>grind [qJ]
 |cons tc cs f=>
  intro d x;obtain⟨t,o⟩:=tc;cases o with
  |false=>simp_all [qJ]
  |true=>
   cases t with
   |list e=>
    cases d with
    |nil=>grind [qJ]
    |cons p d=>
     simp_all [qJ]
   |_=>simp_all [qJ]
theorem Jw: ∀(h:fD) (i:Nat) (o:bY),(h.map (·.1)).Nodup->(i,o)∈h->cZ h i=a6 o
 |(k,p)::h,i,o,f,d=>by
  simp only[au,List.nodup_cons]at f;rw[dG];rcases List.mem_cons.1 d with e|d
  .cases e;simp
  .have:k≠i:=fun e=>f.1 (e▸List.mem_map.2 ⟨_,d,rfl⟩);rw[aq this];exact Jw h i o f.2 d
theorem lL: ∀(l h:fD) (i:Nat),i∉l.map (·.1)->cZ (Jz l h) i=cZ h i
 |[],h,i,_=>rfl
 |(k,o)::l,h,i,d=>by
  simp only[au,List.mem_cons,not_or]at d;simp only[Jz];rw[lL l _ i d.2,iO,aq (Ne.symm d.1)]
theorem Am: ∀(l h:fD) (i:Nat) (o:bY),(l.map (·.1)).Nodup->(i,o)∈l->(cZ h i).isSome=true->cZ (Jz l h) i=a6 o
 |(k,p)::l,h,i,o,d,f,s=>by
  simp only[au,List.nodup_cons]at d;simp only[Jz];rcases List.mem_cons.1 f with e|f
  .have g:=(Prod.mk.inj e).1;have j:=(Prod.mk.inj e).2;subst g j;rw[lL l _ i d.1,iO,am rfl];cases hg:cZ h i with
   |none=>simp_all
   |some q=>rfl
  .refine Am l _ i o d.2 f ?_
   grind [iO]
def P6:List Nat->List Nat->(Nat->Loc)->(Nat->Loc)->Nat->Loc
 |a::e,j::f,d,m,i=>if a=i then d j else P6 e f d m i
 |_,_,_,m,i=>m i
theorem Oy {o m:Nat->Loc}: ∀(d f:List Nat) (k a j:Nat),d.Nodup->d[k]? =a6 a->f[k]? =a6 j->P6 d f o m a=o j
 |[],_,k,a,j,_,h,_=>by simp at h
 |_::_,[],k,a,j,_,_,h=>by simp at h
 |p::d,q::f,0,a,j,_,g,i=>by
  simp_all [P6]
 |p::d,q::f,k+1,a,j,l,g,i=>by
  simp only[List.getElem?_cons_succ]at g i;simp only[List.nodup_cons]at l;have:p≠a:=fun e=>l.1 (e▸List.mem_of_getElem? g);simp only[P6,aq this];exact Oy d f k a j l.2 g i
theorem Oz {f m:Nat->Loc}: ∀(d e:List Nat) (i:Nat),i∉d->P6 d e f m i=m i
 |[],_,i,_=>by simp[P6]
 |_::_,[],i,_=>by simp[P6]
 |a::d,j::e,i,h=>by
  simp only[List.mem_cons,not_or]at h;simp only[P6,aq (Ne.symm h.1)];exact Oz d e i h.2
def aob (W0:World) (c:Cx) (s:fF) (z:((s.cs.map (·.1)).foldr Ty.pair Ty.unit).den×(s.rs.foldr Ty.pair Ty.unit).den):Ending->World->Prop:=fun e f=>
 ∃(d:Cx) (us:List Value) (cells:List bn),e=.returned (EI us)/\d.w=f/\d.Ok W0/\c.Mono d/\cZ d.hp 0=a6 (.box s.bt cells)/\(d.mu 0).blk=(c.mu 0).blk/\
  ((mf s.cs cells).map (·.1)).Nodup/\iZ d.hp true s.cs cells=a6 z.1/\mM d s.rs z.2 us
def dJ (P:Program) (g:FuncId) (s:fF):Prop:=
 ∀(W0:World) (c:Cx) x y z,c.Ok W0->c.mks=[]->c.nxt=0->c.hp=(0,.box s.bt (Di s.cs (iw s.cs 1) x))::qJ s.cs (iw s.cs 1) x-> ∀d:Array Value,bg c (.ptr 0 0::Fv s.ps y) d.toList->s.f x y=a6 z->
  (callFunc g d).run P c.w=.ok (.enter g d) c.w/\Calls P g d c.w (aob W0 c s z)
theorem uU: ∀(cs:List (Ty×Bool)) (n:Nat),∀p∈iw cs n,p.2=0
 |[],n,p,h=>by simp[iw]at h
 |(_,true)::cs,n,p,h=>by
  simp only[iw,List.mem_cons]at h;rcases h with rfl|h
  .rfl
  .exact uU cs (n+1) p h
 |(_,false)::cs,n,p,h=>uU cs n p h
theorem HY: ∀(d:List Ty) x (us:List Value),mM c d x us->bg c (Fv d x) us
 |[],x,us,h=>by
  simp_all [mM,Fv,bg]
 |t::d,x,us,h=>by
  obtain⟨u,e,rfl,f,g⟩:=h;simp only[Fv,bg,bu];exact⟨f,HY d x.2 e g⟩
theorem mM.move {c' c2:Cx} (e:c2.w=c'.w): ∀(d:List Ty) x (us:List Value),((∀b,c'.free b->c2.free b)\/d.all Ty.rigid=true)->mM c' d x us->mM c2 d x us
 |[],x,us,_,h=>h
 |t::d,x,us,hr,h=>by
  obtain⟨u,f,rfl,g,i⟩:=h;refine⟨u,f,rfl,VD.move e (hr.imp (fun h=>h) fun h=> ?_) g,mM.move e d x.2 f (hr.imp (fun h=>h) fun h=> ?_) i⟩
  all_goals simp_all
theorem Ri: ∀(l:List bn) (v:bn),v∈l-> ∀i∈refs v,i∈jS l
 |u::l,v,d,i,f=>by
  simp only[jS,List.mem_append];rcases List.mem_cons.1 d with e|d
  .simp_all
  .exact .inr (Ri l v d i f)
theorem asU {g:FuncId} {s:fF} (hs:dJ P g s) {id:Nat} {qs:List bn} {st:St} {K:bn->St->Option R} (h:s.go id qs st K=a6 r) {a:Act} (hr:gI W0 b0 rd c st a ats) {us:Array Value} (hv:bg c (.ptr id 0::qs) us.toList)
  (Rr:Ending->World->Prop) (hR: ∀c' z u dp,K z dp=a6 r->gI W0 b0 rd c' dp a ats->bu c' z u->c.Mono c'->Rr (.returned u) c'.w):
  (callFunc g us).run P c.w=.ok (.enter g us) c.w/\Calls P g us c.w Rr:=by
 unfold fF.go at h;split at h<;>try (cases h;done)
 rename_i t cells ab
 replace h:=bK h;obtain⟨hc,h⟩:=h;simp only[af,Bool.or_eq_true,Bool.not_eq_true']at hc;obtain⟨ht,⟨ax,aW⟩,ay⟩:=hc;have ht:t=s.bt:=ah ht;subst ht;split at h<;>try (cases h;done)
 rename_i x hx
 split at h<;>try (cases h;done)
 rename_i y hy
 cases hz:s.f x y with
 |none=>rw[hz]at h;cases h
 |some z=>
 rw[hz]at h;simp only[aZ]at h;rw[<-hr.hp]at ab hx hy;have ax:=AQ ax;have aW:=qZ aW;generalize ag:mf s.cs cells=own at*;have V:=hr.ok;obtain⟨hB,vs,hw,er,es⟩:=V.obj id _ ab;have aF: ∀(k i v:Nat),own[k]? =a6 (i,v)-> ∃(e:Ty) (xs:List e.den),cZ c.hp i=a6 (.arr e v xs):=fun k i v hk=>by
  obtain⟨e,xs,d,_⟩:=Us s.cs cells own hx k i v i v (by rw[ag];exact hk) hk;exact⟨e,xs,d⟩
 have aA: ∀p∈own,∃k:Nat,own[k]? =a6 p:=fun p W=>List.getElem?_of_mem W;have ds:id∉own.map (·.1):=fun hm=>by
  obtain⟨p,W,rfl⟩:=List.mem_map.1 hm;obtain⟨k,hk⟩:=aA p W;obtain⟨e,xs,d⟩:=aF k p.1 p.2 hk;rw[ab]at d;cases d
 let S:Nat->Prop:=fun i=>i=id\/i∈own.map (·.1)
 have et: ∀i,S i-> ∃o,cZ c.hp i=a6 o/\ ∀f fr ps iK bd ky n p,o≠ .lp f fr ps iK bd ky n p:=fun i A=>by
  rcases A with rfl|A
  .exact⟨_,ab,by simp⟩
  .obtain⟨p,W,rfl⟩:=List.mem_map.1 A;obtain⟨k,hk⟩:=aA p W;obtain⟨e,xs,d⟩:=aF k p.1 p.2 hk;exact⟨_,d,by simp⟩
 let aB:Nat->Prop:=fun b=> ∃i o,S i/\cZ c.hp i=a6 o/\o.blk (c.mu i)=a6 b
 have aX: ∀b,aB b->c.own b:=fun b ⟨i,o,_,d,l⟩=>⟨i,o,d,l⟩
 let I:Cx:=⟨fun k=>if k=0 then c.mu id else P6 ((iw s.cs 1).map (·.1)) (own.map (·.1)) c.mu c.mu k,(0,.box s.bt (Di s.cs (iw s.cs 1) x))::qJ s.cs (iw s.cs 1) x,0,c.w,[],fun b=>s.rigid=false/\b<c.w.heap.size/\ ¬c.free b/\ ¬aB b⟩
 have bf:(iw s.cs 1).length=own.length:=by rw[<-ag];exact Rf s.cs cells hx 1
 have ai: ∀(k i v M:Nat),own[k]? =a6 (i,v)->(iw s.cs 1)[k]? =a6 (M,0)->M≠0/\I.mu M=c.mu i:=fun k i v M d l=>by
  have N:=BR s.cs 1 _ (List.mem_of_getElem? l);refine⟨by simp at N;omega, ?_⟩;have X:M≠0:=by simp at N;omega
  simp only[I,aq X];exact Oy _ _ k M i (su s.cs 1) (by rw[List.getElem?_map,l];rfl) (by rw[List.getElem?_map,d];rfl)
 have aG: ∀(M:Nat) (o:bY),cZ I.hp M=a6 o->(M=0/\o=.box s.bt (Di s.cs (iw s.cs 1) x))\/
   ∃(k i v:Nat) (e:Ty) (xs:List e.den),own[k]? =a6 (i,v)/\(iw s.cs 1)[k]? =a6 (M,0)/\o=.arr e 0 xs/\cZ c.hp i=a6 (.arr e v xs):=fun M o q=>by
  simp only[I,dG]at q;split at q
  .rename_i e
   cases q;exact .inl ⟨e.symm,rfl⟩
  .right;obtain⟨k,i,v,v',e,xs,E,D,Y,J,_⟩:=QZ s.cs cells (iw s.cs 1) hx (by rw[ag];exact bf) M o (ut _ _ _ q);rw[ag]at E;have:=uU s.cs 1 _ (List.mem_of_getElem? D);simp only at this;subst this;exact⟨k,i,v,e,xs,E,D,Y,J⟩
 have aH: ∀b,I.own b->aB b:=fun b ⟨M,o,d,l⟩=>by
  rcases aG M o d with ⟨rfl,rfl⟩|⟨k,i,v,e,xs,E,D,rfl,J⟩
  .exact⟨id,_,.inl rfl,ab,by simpa [I,bY.blk] using l⟩
  .rw[(ai k i v M E D).2]at l;exact⟨i,_,.inr (List.mem_map.2 ⟨_,List.mem_of_getElem? E,rfl⟩),J,l⟩
 have dT: ∀b,c.free b->I.free b/\I.w.heap[b]? =c.w.heap[b]? :=fun b G=>⟨⟨G.1,fun q=>G.2.1 (aX b (aH b q)),by simp[I],fun cc=>cc.2.2.1 G⟩,rfl⟩;have conv: ∀(t:Ty) (v:bn) (x:t.den) (u:Value),(∀i aj vw,v=.slc i aj vw->s.rigid=true/\i≠id/\i∉own.map (·.1))->v.as c.hp t=a6 x->bu c v u->VD I t x u:=fun t v x u ev d l=>by
  refine Zx V dT (fun i aj vw ad o b N X=> ?_) d l;obtain⟨h5,h6,h7⟩:=ev i aj vw ad;refine⟨⟨((V.obj i o N).lt X).2,fun q=> ?_,by simp[I],fun cc=>by have:=cc.1;rw[h5]at this;cases this⟩,rfl⟩;obtain⟨j,Z,hj,h8,h9⟩:=aH b q;have:=V.inj i j o Z b N h8 X h9;subst this;rcases hj with hj|hj
  .exact h6 hj
  .exact h7 hj
 have ea: ∀i,i∈jS qs++qN s.cs cells->i≠id/\i∉own.map (·.1):=fun i A=>by
  have:=aW i A;simp only[List.mem_cons,not_or]at this;exact this
 have ew:I.Ok W0:=by
  refine⟨V.bel,fun M o q=> ?_,fun i j o p b d l N X=> ?_,fun r hr=>by simp[I]at hr,fun b G=>⟨G.2.1,fun q=>G.2.2.2 (aH b q),by simp[I]⟩,V.phi⟩
  .rcases aG M o q with ⟨rfl,rfl⟩|⟨k,i,v,e,xs,E,D,rfl,J⟩
   .refine⟨by simpa [I] using hB,vs,by simpa [I] using hw, ?_,es⟩;refine WG s.cs cells (iw s.cs 1) vs.toList hx er (by rw[ag];exact bf) (fun k i v M v' E D e xs Y=> ?_) fun t v x u E D Y J q5=>conv t v x u (fun i aj vw ad=> ?_) J q5
    .rw[ag]at E;have ec:=uU s.cs 1 _ (List.mem_of_getElem? D);simp only at ec;subst ec;obtain⟨h6,h7⟩:=ai k i v M E D;refine⟨?_,by rw[h7]⟩;obtain⟨e2,fe,h8,h9⟩:=Us s.cs cells (iw s.cs 1) hx k i v M 0 (by rw[ag];exact E) D;rw[Y]at h8;cases h8;have cZ:=Jw _ _ _ (List.Sublist.nodup (Hw s.cs (iw s.cs 1) x) (su s.cs 1)) h9;simp only[I,dG,aq (Ne.symm h6)];exact cZ
    .subst ad;obtain⟨h6,h7⟩:=ea i (List.mem_append_right _ (Y i (by simp[refs])));refine⟨?_,h6,h7⟩;cases hrg2:s.rigid with
     |true=>rfl
     |false=>
      rcases D (by rw[hrg2];rfl)with h8|h8
      .simp[kV]at h8
      .cases t<;>simp[Ty.rigid]at h8<;>simp[bn.as]at J
   .obtain⟨cd,el,zs,w1,w2,w3⟩:=V.obj i _ J;refine⟨cd,el,zs,by rw[(ai k i v M E D).2];exact w1,dX.mono (dM.mono dT e) _ _ w2,w3⟩
  .rcases aG i o d with ⟨rfl,rfl⟩|⟨k,i1,v,e,xs,E,D,rfl,J⟩<;>rcases aG j p l with ⟨rfl,rfl⟩|⟨k',i2,v',e',aI,al,an,rfl,aJ⟩
   .rfl
   .rw[(ai k' i2 v' j al an).2]at X;have:=V.inj id i2 _ _ b ab aJ (by simpa [I,bY.blk] using N) X;subst this;rw[ab]at aJ;cases aJ
   .rw[(ai k i1 v i E D).2]at N;have:=V.inj id i1 _ _ b ab J (by simpa [I,bY.blk] using X) N;subst this;rw[ab]at J;cases J
   .rw[(ai k i1 v i E D).2]at N;rw[(ai k' i2 v' j al an).2]at X;have:=V.inj i1 i2 _ _ b J aJ N X;subst this;have ch:k=k':=by
     have e1:(own.map (·.1))[k]? =a6 i1:=by rw[List.getElem?_map,E];rfl
     have e2:(own.map (·.1))[k']? =a6 i1:=by rw[List.getElem?_map,al];rfl
     exact(List.getElem?_inj (List.getElem?_eq_some_iff.1 e1).1 ax).1 (e1.trans e2.symm)
    subst ch;rw[D]at an;cases an;rfl
 obtain⟨us⟩:=us;cases us with
 |nil=>simp[bg]at hv
 |cons u0 us=>
 simp only[bg]at hv;obtain⟨cn,ex⟩:=hv;have ey:bg I (.ptr 0 0::Fv s.ps y) (u0::us):=by
  simp only[bg];refine⟨?_,HY s.ps y us (xh s.ps qs y us hy ex fun t v x u hm d l=>conv t v x u (fun i aj vw ad=> ?_) d l)⟩
  .simp only[bu]at cn ⊢;exact⟨cn.1,.inl ⟨_,by simp[I,dG];rfl⟩,fun t' ff _=>by simpa [I] using cn.2.2 _ _ ab⟩
  .subst ad;have ez:i∈jS qs:=Ri _ _ hm i (by simp[refs]);obtain⟨h6,h7⟩:=ea i (List.mem_append_left _ ez);refine⟨?_,h6,h7⟩;rcases ay with ay|ay
   .exact ay
   .have:=List.any_eq_false.1 ay _ hm;simp[kV]at this
 obtain⟨eC,eD⟩:=hs W0 I x y z ew rfl rfl rfl ⟨u0::us⟩ ey hz;refine⟨eC,eD.mono ?_⟩;rintro e w' ⟨O,ee,ao,rfl,rfl,av,cu,ef,eE,eI,aK,eJ⟩
 let U:List (Nat×Nat):=own.map fun p=>(p.1,p.2+1)
 generalize aO:mf s.cs ao=own1 at*
 let B:Cx:=⟨fun i=>if i=id then c.mu id else P6 (own.map (·.1)) (own1.map (·.1)) O.mu c.mu i,gX (Jz (qJ s.cs U z.1) c.hp) id (.box s.bt (Di s.cs U z.1)),c.nxt,O.w,c.mks,c.bar⟩
 have eg:own1.length=own.length:=by rw[<-aO,<-Rf s.cs ao aK 1,bf]
 have eh:U.length=(mf s.cs ao).length:=by rw[aO];simp[U,eg]
 have ei:(U.map (·.1))=own.map (·.1):=by simp[U,List.map_map,Function.comp_def]
 have eK:((qJ s.cs U z.1).map (·.1)).Nodup:=List.Sublist.nodup (Hw s.cs U z.1) (by rw[ei];exact ax);have cv: ∀i,i∈(qJ s.cs U z.1).map (·.1)->i∈own.map (·.1):=fun i A=>by
  have:=(Hw s.cs U z.1).subset A;rwa [ei]at this
 have aP: ∀(k i v:Nat),own[k]? =a6 (i,v)-> ∃(j w:Nat) (e:Ty) (xs:List e.den),own1[k]? =a6 (j,w)/\cZ O.hp j=a6 (.arr e w xs)/\cZ B.hp i=a6 (.arr e (v+1) xs)/\B.mu i=O.mu j/\(.list e,true)∈s.cs:=fun k i v hk=>by
  have eL:k<own1.length:=by rw[eg];exact(List.getElem?_eq_some_iff.1 hk).1
  obtain⟨⟨j,w⟩,hj⟩: ∃p,own1[k]? =a6 p:=⟨_,List.getElem?_eq_getElem eL⟩;have eM:U[k]? =a6 (i,v+1):=by simp[U,List.getElem?_map,hk]
  obtain⟨e,xs,d,l⟩:=Us s.cs ao U aK k j w i (v+1) (by rw[aO];exact hj) eM;obtain⟨k',i1,v1,v2,e',aI,E,D,Y,J,q5⟩:=QZ s.cs ao U aK eh i _ l;have eN:i∈own.map (·.1):=List.mem_map.2 ⟨_,List.mem_of_getElem? hk,rfl⟩;have ej:id≠i:=fun e=>ds (e▸eN);obtain⟨e0,eO,h0⟩:=aF k i v hk;refine⟨j,w,e,xs,hj,d, ?_, ?_, ?_⟩
  .simp only[B];rw[iO,aq ej];exact Am _ _ _ _ eK l (by rw[h0];rfl)
  .simp only[B,aq (Ne.symm ej)];exact Oy _ _ k i j ax (by rw[List.getElem?_map,hk];rfl) (by rw[List.getElem?_map,hj];rfl)
  .cases Y;exact q5
 have dc:cZ B.hp id=a6 (.box s.bt (Di s.cs U z.1)):=by
  simp only[B];rw[iO,am rfl,lL _ _ _ fun h=>ds (cv id h),ab];rfl
 have aQ:B.mu id=c.mu id:=by simp[B]
 have ek:(O.mu 0).blk=(c.mu id).blk:=by rw[eE];simp[I]
 have aU: ∀(i:Nat) (Z:bY),S i->cZ B.hp i=a6 Z-> ∃j o1,cZ O.hp j=a6 o1/\o1.blk (O.mu j)=Z.blk (B.mu i)/\((i=id/\j=0/\o1=.box s.bt ao)\/ ∃(k v w:Nat),own[k]? =a6 (i,v)/\own1[k]? =a6 (j,w)/\ ∃(e:Ty) (xs:List e.den),o1=.arr e w xs):=fun i Z A q=>by
  rcases A with rfl|A
  .rw[dc]at q;cases q;exact⟨0,_,ef,by simp[bY.blk,aQ,ek],.inl ⟨rfl,rfl,rfl⟩⟩
  .obtain⟨p,W,rfl⟩:=List.mem_map.1 A;obtain⟨k,hk⟩:=aA p W;obtain⟨j,w,e,xs,E,D,Y,J,_⟩:=aP k p.1 p.2 hk;rw[Y]at q;cases q;exact⟨j,_,D,by simp only[bY.blk];rw[J],.inr ⟨k,p.2,w,hk,E,e,xs,rfl⟩⟩
 have em: ∀b,b<c.w.heap.size-> ¬aB b->O.out b/\O.w.heap[b]? =c.w.heap[b]? :=fun b G hn=>cu.out b ⟨G,fun q=>hn (aH b q),by simp[I]⟩;obtain⟨en,eR⟩:=Cx.many (c2:=B) V S rfl rfl rfl (fun i A=>by
   have d:i≠id:=fun e=>A (.inl e);have l:i∉own.map (·.1):=fun e=>A (.inr e);refine⟨?_,by simp only[B,aq d];exact Oz _ _ _ l⟩;simp only[B];rw[iO,aq (Ne.symm d),lL _ _ _ fun h=>l (cv i h)])
  (fun i A=>by
   rcases A with rfl|A
   .exact⟨_,_,ab,dc,by simp[bY.like,aQ],by simp⟩
   .obtain⟨p,W,rfl⟩:=List.mem_map.1 A;obtain⟨k,hk⟩:=aA p W;obtain⟨j,w,e,xs,E,D,Y,J,_⟩:=aP k p.1 p.2 hk;obtain⟨e0,eO,h0⟩:=aF k p.1 p.2 hk;exact⟨_,_,h0,Y,⟨by omega,fun e=>by omega⟩,by simp⟩)
  av.bel cu.size (fun b G hn=>(em b G fun⟨i,o,d,l,N⟩=>hn i o d l N).2)
  (fun i Z b A q G=>by
   by_cases hlt:b<c.w.heap.size
   .right;refine Classical.byContradiction fun hn=> ?_;obtain⟨j,o1,d,l,_⟩:=aU i Z A q;exact(em b hlt fun⟨j,o,N,X,h5⟩=>hn ⟨j,o,N,X,h5⟩).1.2.1 ⟨j,o1,d,l.trans G⟩
   .left;omega)
  (fun i M Z p' b A eS q W G eT=>by
   obtain⟨j,o1,d,l,N⟩:=aU i Z A q;obtain⟨j',eV,aw,aV,eo⟩:=aU M p' eS W;have hj:=av.inj j j' o1 eV b d aw (l.trans G) (aV.trans eT);subst hj;rw[d]at aw;cases aw;rcases N with ⟨rfl,rfl,rfl⟩|⟨k,v,w,E,D,e,xs,rfl⟩
   .rcases eo with ⟨rfl,_⟩|⟨k',v',w',al,an,e',aI,he⟩
    .rfl
    .cases he
   .rcases eo with ⟨_,_,he⟩|⟨k',v',w',al,an,e',aI,he⟩
    .cases he
    .have ch:k=k':=by
      have e1:(own1.map (·.1))[k]? =a6 j:=by rw[List.getElem?_map,D];rfl
      have e2:(own1.map (·.1))[k']? =a6 j:=by rw[List.getElem?_map,an];rfl
      exact(List.getElem?_inj (List.getElem?_eq_some_iff.1 e1).1 eI).1 (e1.trans e2.symm)
     subst ch;rw[E]at al;cases al;rfl)
  (fun b L i o A q G=>by
   obtain⟨o2,d,l⟩:=et i A;rw[q]at d;cases d;exact(V.obj i o q).no_loop l G)
 have dd:s.rigid=true\/ ∀b,O.free b->B.free b:=by
  cases hrg2:s.rigid with
  |true=>exact .inl rfl
  |false=>
   right;intro b G;have df: ∀b,b<c.w.heap.size-> ¬c.free b-> ¬aB b-> ¬O.free b:=fun b d l N hf=>hf.2.2.2 (by rw[cu.bar];exact⟨hrg2,d,l,N⟩);refine⟨G.1, ?_,fun hm=> ?_,fun hm=> ?_⟩
   .rintro ⟨i,Z,d,l⟩;by_cases A:S i
    .obtain⟨j,o1,N,X,_⟩:=aU i Z A d;exact G.2.1 ⟨j,o1,N,X.trans l⟩
    .have aw:i≠id:=fun e=>A (.inl e);have aV:i∉own.map (·.1):=fun e=>A (.inr e);simp only[B]at d l;rw[iO,aq (Ne.symm aw),lL _ _ _ fun h=>aV (cv i h)]at d;rw[aq aw,Oz _ _ _ aV]at l;refine df b ((V.obj i Z d).lt l).2 (fun hf=>hf.2.1 ⟨i,Z,d,l⟩) ?_ G;rintro ⟨j,o,hj,N,X⟩;have:=V.inj i j Z o b d N l X;subst this;exact A hj
   .exact df b (V.mark_lt hm) (fun hf=>hf.2.2.1 hm) (fun q=>V.mark_own hm (aX b q)) G
   .exact df b (V.bar b hm).1 (fun hf=>hf.2.2.2 hm) (fun q=>(V.bar b hm).2.1 (aX b q)) G
 have dl:s.rigid=true->(∀p∈s.cs,p.1.rigid=true\/p.2=true/\p.1.elem.rigid=true)/\s.rs.all Ty.rigid=true:=fun h=>by
  simp only[fF.rigid,af]at h;exact⟨fun p W=>by have:=List.all_eq_true.1 h.1 p W;simpa using this,h.2⟩
 have eW:B.Ok W0:=eR fun i Z A q=>by
  rcases A with rfl|A
  .rw[dc]at q;cases q;obtain⟨fg,eq,eZ,fa,fb⟩:=av.obj 0 _ ef;refine⟨by rw[aQ];exact hB,eq,by rw[aQ,<-ek];exact eZ, ?_,fb⟩;refine WG s.cs ao U eq.toList aK fa eh (fun k j w i v E D e xs Y=> ?_) fun t v x u E D Y J q5=> ?_
   .rw[aO]at E;have hk: ∃v0,own[k]? =a6 (i,v0)/\v=v0+1:=by
     simp only[U,List.getElem?_map,Option.map_eq_some_iff]at D;obtain⟨p,fc,fd⟩:=D;cases fd;exact⟨p.2,fc,rfl⟩
    obtain⟨v0,hk,rfl⟩:=hk;obtain⟨j',w',e',aI,p1,p2,p3,p4,_⟩:=aP k i v0 hk;rw[E]at p1;cases p1;rw[Y]at p2;cases p2;exact⟨p3,by rw[p4]⟩
   .rcases dd with hf|hf
    .have ht:t.rigid=true:=by
      rcases(dl hf).1 (t,false) E with h|h
      .exact h
      .cases h.1
     cases q:kV v with
     |false=>exact VD.move (c':=O) (c2:=B) rfl (.inr ht) (E8 (cb:=O) (fun b G=>⟨G,rfl⟩) q J q5)
     |true=>
      refine VD.move (c':=O) (c2:=B) rfl (.inr ht) (Zx (cb:=O) av (fun b G=>⟨G,rfl⟩) (fun i aj vw ad=> ?_) J q5);subst ad;cases t<;>simp[Ty.rigid]at ht<;>simp[bn.as]at J
    .refine VD.move (c':=O) (c2:=B) rfl (.inl hf) (Zx (cb:=O) av (fun b G=>⟨G,rfl⟩) (fun i aj vw ad=> ?_) J q5);subst ad;rcases D rfl with h8|h8
     .simp[kV]at h8
     .cases t<;>simp[Ty.rigid]at h8<;>simp[bn.as]at J
  .obtain⟨p,W,rfl⟩:=List.mem_map.1 A;obtain⟨k,hk⟩:=aA p W;obtain⟨j,w,e,xs,E,D,Y,J,q5⟩:=aP k p.1 p.2 hk;rw[Y]at q;cases q;obtain⟨cd,el,zs,w1,w2,w3⟩:=av.obj j _ D;refine⟨cd,el,zs,by rw[J];exact w1,dX.move (c':=O) (c2:=B) rfl ?_ w2,w3⟩;rcases dd with hf|hf
   .right;rcases(dl hf).1 _ q5 with h|h
    .simp[Ty.rigid]at h
    .exact h.2
   .exact .inl hf
 have hd:x9 W0 c st B {st with hp:=gX (Jz (qJ s.cs U z.1) st.hp) id (.box s.bt (Di s.cs U z.1))}:=⟨by simp[B,hr.hp],hr.nxt,rfl,rfl,eW,en⟩;exact hR B _ _ _ h (hr.did hd) (xU (HY s.rs z.2 ee (mM.move (c':=O) (c2:=B) rfl s.rs z.2 ee (dd.symm.imp (fun h=>h) fun h=>(dl h).2) eJ))) en.mono
theorem WW {cl:Bool}: ∀(cs:List (Ty×Bool)) (n:Nat) (cells:List bn) (st:St) (K:List bn->St->Option R),qg cl n cs cells st K=a6 r-> ∀(c:Cx) (vs:List Value),c.Ok W0->c.hp=st.hp->c.nxt=st.nxt->bg c cells vs->
  ∃c' d f,x9 W0 c st c' d/\c'.w=c.w/\bg c' f vs/\K f d=a6 r/\ ∀i o,cZ st.hp i=a6 o->cZ d.hp i=a6 o:=by
 have G: ∀(cells:List bn) (st:St) (K:List bn->St->Option R),K cells st=a6 r-> ∀(c:Cx) (vs:List Value),c.Ok W0->c.hp=st.hp->c.nxt=st.nxt->bg c cells vs->
   ∃c' d f,x9 W0 c st c' d/\c'.w=c.w/\bg c' f vs/\K f d=a6 r/\ ∀i o,cZ st.hp i=a6 o->cZ d.hp i=a6 o:=
  fun cells st K h c vs j p q g=>⟨c,st,cells,x9.refl j p q,rfl,g,h,fun i o h=>h⟩
 intro cs
 induction cs with
 |nil=>intro n cells st K h;cases cells<;>exact G _ st K h
 |cons tc cs I=>
  intro n cells st K h c vs j p q g;cases cells with
  |nil=>exact G _ st K (by obtain⟨t,o⟩:=tc;cases o<;>cases t<;>simpa only[qg] using h) c vs j p q g
  |cons v cells=>
   cases vs with
   |nil=>simp[bg]at g
   |cons u vs=>
    have x:qg cl (n+1) cs cells st (fun l st=>K (v::l) st)=a6 r-> ∃c' d f,x9 W0 c st c' d/\c'.w=c.w/\bg c' f (u::vs)/\K f d=a6 r/\ ∀i o,cZ st.hp i=a6 o->cZ d.hp i=a6 o:=fun h=>by
     simp only[bg]at g;obtain⟨c',d,f,hd,z,A,B,hp⟩:=I (n+1) cells st _ h c vs j p q g.2;exact⟨c',d,v::f,hd,z,by simp only[bg];exact⟨bu.le hd.le _ _ g.1,A⟩,B,hp⟩
    obtain⟨t,o⟩:=tc;cases o with
    |false=>exact x (by simpa only[qg] using h)
    |true=>
     cases t with
     |list e=>
      cases v with
      |nils=>
       simp only[qg]at h;replace h:=bK h;obtain⟨D,h⟩:=h;have D:0<e.size:=by simpa [Ky] using D
       obtain⟨id,V,J,M,N,h⟩:=iC h;simp only[bg]at g;have L:=g.1;simp only[bu]at L;subst L;obtain⟨O,s,S,U⟩:=oK j p q J M N (y:=e) D (xs:=[]) (v:=.slice a7 0 0) (w:=c.w) (Below.refl _ _) lu [] ⟨by simp,.inl ⟨rfl,rfl⟩⟩ (by simp[dX]) rfl (fun _=>rfl);obtain⟨c',d,f,hd,z,A,B,hp⟩:=I (n+1) cells _ _ h O vs s.ok s.hp s.nxt (bg.le s.le _ _ g.2);refine⟨c',d,.slc id 0 a7::f,s.trans hd,z.trans S,by simp only[bg];exact⟨bu.le hd.le _ _ U,A⟩,B,fun i o E=>hp i o ?_⟩;have:id≠i:=fun e=>by subst e;rw[J]at E;cases E
       simp only[dG,aq this];exact E
      |_=>exact x (by simpa only[qg] using h)
     |_=>exact x (by simpa only[qg] using h)
theorem ar0 {g:FuncId} {s:fF} (V:dJ P g s) (cl:Bool) (n:Nat):kP (R:=R) P W0 n (Jb g s cl):=by
 intro b0 rd W X ay st K r h c a ats aA i hr G Y o next Q Z
 cases W with
 |fn g' ab=>
  simp only[Jb]at h;split at h
  .rename_i hg
   subst hg;simp only[bu]at G;obtain⟨j,rfl,ad⟩:=G;have I:=bg.append_arr Y ad;have ag: ∀p:Ending->World->Prop,(∀d z u f,K z f=a6 r->gI W0 b0 rd d f a ats->bu d z u->c.Mono d->p (.returned u) d.w)->
     (callFunc g' (i++j)).run P c.w=.ok (.enter g' (i++j)) c.w/\Calls P g' (i++j) c.w p:=by
    intro p ai;generalize X++ab=al at h I;unfold fF.call at h;split at h<;>try (cases h;done)
    rename_i id qs
    split at h<;>try (cases h;done)
    rename_i t cells q
    rw[cond_eq_ite]at h;split at h
    .rw[<-hr.hp]at q;obtain⟨hB,J,hw,aj,an⟩:=hr.ok.obj id _ q;obtain⟨d,f,x,hd,aB,ao,hK,M⟩:=WW s.cs _ cells st _ h c J.toList hr.ok hr.hp hr.nxt aj;have l:=hr.did hd;have A:cZ d.hp id=a6 (.box t cells):=by rw[l.hp];exact M id _ (by rw[<-hr.hp];exact q)
     obtain⟨o1,y,B⟩:=hd.le.obj id _ (.inl ⟨_,q⟩) A;rw[q]at y;cases y;simp only[bY.like]at B;have N:bY.like (.box t cells) (d.mu id) (.box t x) (d.mu id):=rfl;have O: ∀b,(bY.box t x).blk (d.mu id)=a6 b->(bY.box t cells).blk (d.mu id)=a6 b\/d.w.heap.size<=b:=fun b hb=>.inl hb;have S: ∀(b:Nat) (L:Loop),(bY.box t cells).blk (d.mu id)=a6 b->d.w.heap[b]? =a6 (Obj.loop L)-> ∃L':Loop,d.w.heap[b]? =a6 (Obj.loop L'):=fun b L _ hL=>⟨L,hL⟩;have U:=Cx.Le.put (w:=d.w) l.ok A N (ae _) (fun b _ _=>rfl) O S;have av:x9 W0 d f (d.put id (.box t x) (d.mu id) d.w) {f with hp:=gX f.hp id (.box t x)}:=by
      refine⟨by simp only[Cx.put];rw[l.hp],l.nxt,rfl,rfl,Cx.Ok.put l.ok A N l.ok.bel (ae _) (fun b _ _=>rfl) O S ?_,U⟩;refine⟨by simp_all [Cx.put,upd_same],J,by simp_all [Cx.put,upd_same],bg.le U _ _ ao,an⟩
     have D:=hd.trans av;have hG:=asU V hK (hr.did D) (bg.le D.le _ _ I) p fun c3 z u aw k1 k2 k3 k4=>ai c3 z u aw k1 k2 k3 (D.le.mono.trans k4);change (callFunc g' (i++j)).run P d.w=.ok (.enter g' (i++j)) d.w/\Calls P g' (i++j) d.w p at hG;simp_all
    grind [asU]
   obtain⟨y,B⟩:=ag (fun e E=>match e with
     |.returned v=>next (a.put o.dst v) E
     |.panicked ax=>Q (.panic ax) a E
     |.outgrown=>LetsOut Q) (fun d z u f k1 k2 k3 k4=>Z d z u f k1 k2 k3 k4)
   rw[lW,y];exact⟨mO rd,(qL B).mono fun e E he=>by cases e<;>exact he⟩
  .cases h
 |_=>simp[Jb]at h
end
end
section
open Option renaming some → a6, none → a7
open Bool renaming and_eq_true → af
open List renaming length_cons → aH
open Nat renaming le_trans → az, lt_of_lt_of_le → aS
open Go.RowKit
section
variable {P:Program} {T:TT} {W0:World} {b0:Nat} {rd:Option Nat} {R:Type} {r:R} {c:Cx} {ats:List (Array Value)}
theorem atN {g:FuncId} {s:Sum} (hs:dO P g s) (cl:Bool) (n:Nat):kP (R:=R) P W0 n (BH g s cl):=by
 intro b0 rd fv aP aQ st K r h c a ats aU Z hr ab ak o next Q hn
 cases fv with
 |fn g' aV=>
  simp only[BH]at h;split at h
  .rename_i hg
   subst hg;simp only[bu]at ab;obtain⟨vs,rfl,al⟩:=ab;have ad:=bg.append_arr ak al;obtain⟨G,x,y,J,hy,z⟩:=Ze h;rw[<-hr.hp]at J;obtain⟨q,an,ao,au⟩: ∃q:Nat->Prop,(∀b,q b->b<c.w.heap.size)/\mM (jF c.w q) s.ps x (Z++vs).toList/\
     ((s.rs.all fun r=>r.1.rigid||(r.2&&r.1.elem.rigid))=true\/q=fun b=>b<c.w.heap.size/\ ¬c.free b):=by
    rcases G with G|G
    .refine⟨fun _=>False,fun b h=>h.elim,xh s.ps _ x _ J ad fun t v x u _ L z=>abo hr.ok (fun b f=>⟨D6.2 ⟨f,fun h=>h⟩,rfl⟩) L z,.inl G⟩
    .refine⟨fun b=>b<c.w.heap.size/\ ¬c.free b,fun b h=>h.1,xh s.ps _ x _ J ad fun t v x u hm L z=>E8 (fun b f=>⟨D6.2 ⟨f.1,fun h=>h.2 f⟩,rfl⟩) ?_ L z,.inr rfl⟩
     grind
   have av: ∀e A,yg c.w q s.rs y e A->(match e with
     |.returned v=>next (a.put o.dst v) A
     |.panicked aw=>Q (.panic aw) a A
     |.outgrown=>LetsOut Q):= ?_
   .rw[lW];rcases hs c.w q (Z++vs) x y hr.ok.phiw an ao hy with ⟨M,N⟩|⟨u,M,N⟩
    .rw[M];exact⟨mO rd,(qL N).mono fun e A he=>by
      grind⟩
    .rw[M];exact av (.returned u) c.w N
   rintro e A ⟨d,us,rfl,rfl,O,ax,aW,aX,S⟩;simp only;have B:Dh c d.w:=O.bel;have ae: ∀(p:Cx),p.w=d.w->(∀b,(c.at_ d.w).free b->d.free b->p.free b)->((s.rs.all fun r=>r.1.rigid||(r.2&&r.1.elem.rigid))=true\/ ∀b,d.free b->p.free b):=fun p hw hf=>by
    rcases au with U|U
    .exact .inl U
    .right;intro b f;exact hf b (als hr.ok O (ax.trans U) f) f
   rcases z with ⟨bd,ag,V⟩|⟨e,xs,id,i,bf,ag,h5,h6,h7,V⟩
   .have ay:=hr.ext B;refine hn (c.at_ d.w) _ _ _ V ay (xU ?_) (Cx.Le.ext B).mono;refine Df (c':=d) (c2:=c.at_ d.w) rfl 0 s.rs y us (fun t ht=> ?_) (.inl ag) S;rcases ae (c.at_ d.w) rfl (fun b h _=>h)with h8|h8
    all_goals grind
   .have aA:=O.obj 0 (.arr e 0 xs) (by simp_all [CB,dG]);obtain⟨aB,el,zs,W,hL,aF⟩:=aA;have hk:=xO hr.hp hr.nxt h5 h6;obtain⟨u0,ah⟩:=Zj s.rs y us (by omega) S;simp only[bu]at ah;have X:cZ d.hp 0=a6 (.arr e 0 xs):=by simp_all [CB,dG]
    have aG:(d.mu 0).v.oneCell'=true:=by
     have:=(ah.2.2 _ _ _ X).2 rfl;simp_all [ik]
    have hl: ∀b,bY.blk (.arr e 0 xs) ⟨0,(d.mu 0).v⟩=a6 b->c.w.heap.size<=b:=fun b f=>(World.ownsRow.lt W b f).1;have ai:=Cx.Le.push (o:=.arr e 0 xs) (l:=⟨0,(d.mu 0).v⟩) (nxt:=i) (w:=d.w) hk (by rw[hr.nxt];exact h7) B.size B.block hl;have bt:=ae (c.push id (.arr e 0 xs) ⟨0,(d.mu 0).v⟩ i d.w) rfl (fun b Y aI=>⟨Y.1,(by
     rintro ⟨j,o,I,D⟩;simp only[Cx.push,dG]at I D;split at I
     .rename_i E
      subst E;cases I;rw[upd_same]at D;exact aI.2.1 ⟨0,_,X,D⟩
     .rename_i E
      rw[upd_ne _ _ (Ne.symm E)]at D;exact Y.2.1 ⟨j,o,I,D⟩),Y.2.2⟩)
    have cb:d.w.ownsRow W0.heap.size el e.size (d.mu 0).v xs.length zs:=by
     refine⟨W.1, ?_⟩;rcases W.2 with h|⟨g,aJ,aK,E,e2,e3⟩
     .exact .inl h
     .exact .inr ⟨g,aJ,aK,E,az hr.ok.size e2,e3⟩
    have ho:(c.push id (.arr e 0 xs) ⟨0,(d.mu 0).v⟩ i d.w).ORel W0.heap.size id (.arr e 0 xs):=by
     refine⟨aB,el,zs,by simp_all [Cx.push,upd_same],dX.move (c':=d) (c2:=c.push id (.arr e 0 xs) ⟨0,(d.mu 0).v⟩ i d.w) rfl ?_ hL,aF⟩
     grind [JR]
    have aO:=hr.ok.push hk (by rw[hr.nxt];exact h7) B hl ho;have hd:x9 W0 c st (c.push id (.arr e 0 xs) ⟨0,(d.mu 0).v⟩ i d.w) {st with hp:=(id,.arr e 0 xs)::st.hp,nxt:=i}:=⟨by simp[Cx.push,hr.hp],rfl,rfl,rfl,aO,ai⟩;refine hn (c.push id (.arr e 0 xs) ⟨0,(d.mu 0).v⟩ i d.w) _ _ _ V (hr.did hd) (xU ?_) ai.mono;refine Df (c':=d) (c2:=c.push id (.arr e 0 xs) ⟨0,(d.mu 0).v⟩ i d.w) rfl id s.rs y us (fun t ht=> ?_) (.inr fun u hu=> ?_) S
    .grind
    .simp only[bu]at hu ⊢;have aj:=(hu.2.2 _ _ _ X).2 rfl;simp only[ik]at aj;subst aj;refine⟨aG,.inl ⟨.arr e 0 xs,by simp[Cx.push,dG]⟩,fun t u cc h=> ?_⟩;simp_all [Cx.push,ik,upd_same]
  .cases h
 |_=>simp[BH]at h
theorem N9: ∀(rs:List (Ty×Bool)),(rs.all fun r=> !r.2&&r.1.rigid)=true->news rs=0
 |[],_=>rfl
 |(t,true)::rs,h=>by simp at h
 |(t,false)::rs,h=>by
  simp only[List.all_cons,af]at h;exact N9 rs h.2
theorem atL {g:FuncId} {s:Sum} (G:dO P g s) (cl:Bool) (I:(s.rs.all fun r=> !r.2&&r.1.rigid)=true):lC (R:=R) P (BH g s cl):=by
 intro W0 b0 rd J ab ad st K r h c a ats ae f hr z L;cases J with
 |fn g' ag=>
  simp only[BH]at h;split at h
  .rename_i M
   subst M;simp only[bu]at z;obtain⟨i,rfl,N⟩:=z;have O:=bg.append_arr L N;obtain⟨hc,x,y,A,S,j⟩:=Ze h;rw[<-hr.hp]at A;rcases j with ⟨ah,U,V⟩|⟨e,xs,id,n',ai,U,_⟩
   .have l:=OA _ (EQ 0 s.rs y I);refine⟨_,rv (IQ (mr 0 s.rs y)),V,(EL l _).2 rfl,fun B d=> ?_⟩;have W:mM (jF B fun _=>False) s.ps x (f++i).toList:=xh s.ps _ x _ A O fun t v x u _ X j=>abo hr.ok (fun b D=>⟨D6.2 ⟨aS D d.size,fun h=>h⟩,d.block b D⟩) X j;rcases G B (fun _=>False) (f++i) x y (Sj.below d hr.ok.phiw) (fun b h=>h.elim) W S with ⟨o,p⟩|⟨u,o,p⟩
    .refine .inl ⟨g',f++i,by rw[lW,o],p.mono ?_⟩;rintro e aj ⟨Y,us,rfl,rfl,E,ak,al,an,q⟩;exact⟨by rw[(EL l _).1 (xU q)],d.trans (E.bel.mono d.size)⟩
    .obtain⟨Y,us,Z,_,E,_,_,_,q⟩:=p;cases Z;right;rw[lW,o,(EL l _).1 (xU q)]
   simp_all [N9]
  .cases h
 |_=>simp[BH]at h
theorem an4 {E:Env} (hT:TOk P E.T) (hb: ∀g,(E.bf g=true->uT P E.em g)/\(E.il g=true->EY P g)/\(E.sl g=true->E5 P g E.sc)) (h: ∀g s,E.sg g=a6 s->dO P g s) (hx: ∀g s,E.sb g=a6 s->dJ P g s):uh P E:=
 ⟨hT,fun R W0 n g s d=>ar0 (hx g s d) E.cl n,hb,fun R W0 n g s d=>atN (h g s d) E.cl n,fun R g s d e=>atL (h g s d) E.cl e⟩
def BL:(d:List Ty)->(d.foldr Ty.pair Ty.unit).den->List bn
 |[],_=>[]
 |t::d,x=>.val t x.1::BL d x.2
def frozen (hp:fD):bn->bn
 |.val t x=>.val t x
 |.nils=>.nils
 |.slc id ver d=>match cZ hp id with
  |some (.arr e v xs)=>bif v==ver then .val (.list e) (V9 xs d)else .undef
  |_=>.undef
 |_=>.undef
def bn.asR (hp:fD) (own:Bool) (t:Ty) (v:bn):Option t.den:=bif own then v.as hp t else match v with
 |.agg l=>bif t.isAgg then Dy t (l.map (frozen hp))else a7
 |v=>v.as hp t
def jd (own:Bool):(rs:List (Ty×Bool))->List bn->fD->Option ((rs.map (·.1)).foldr Ty.pair Ty.unit).den
 |[],[],_=>a6 ()
 |(t,false)::rs,v::l,d=>match(bif own&&(kV v&& !t.rigid)then a7 else v.asR d own t),jd own rs l d with
  |some x,a6 y=>a6 (x,y)
  |_,_=>a7
 |(.list e,true)::rs,.slc id ver a7::l,d=>match cZ d id with
  |some (.arr t u xs)=>bif u==ver then(match iR (.list e) (t':=.list t) xs,jd own rs l d with
   |some x,a6 y=>a6 (x,y)
   |_,_=>a7)else a7
  |_=>a7
 |_,_,_=>a7
def Bl (n:Nat) (v:bn):List bn:=
 match n,v with
 |1,v=>[v]
 |_,.tup l=>l
 |_,_=>[.undef]
def OB (E:Env) (g:FuncId) (d:List Ty) (rs:List (Ty×Bool)) (x:(d.foldr Ty.pair Ty.unit).den):Option ((rs.map (·.1)).foldr Ty.pair Ty.unit).den:=
 jK E 1000000 (.call g (BL d x)) ⟨[],[],[],0⟩ fun v st=>jd (!Nat.beq (news rs) 0) rs (Bl rs.length v) st.hp
theorem Jj: ∀(d:List Ty) x (us:List Value),mM c d x us->bg c (BL d x) us
 |[],x,us,h=>by
  simp_all [mM,BL,bg]
 |t::d,x,us,h=>by
  obtain⟨u,e,rfl,f,g⟩:=h;simp only[BL,bg,bu];exact⟨f,Jj d x.2 e g⟩
theorem sV {own:Bool}: ∀(rs:List (Ty×Bool)) (l:List bn) {hp:fD},(jd own rs l hp).isSome=true->l.length=rs.length
 |[],[],_,_=>rfl
 |[],_::_,_,h=>by simp[jd]at h
 |(t,false)::rs,[],_,h=>by simp[jd]at h
 |(t,false)::rs,v::l,hp,h=>by
  simp only[jd]at h;split at h
  .rename_i d
   simp[sV rs l (hp:=hp) (by rw[d];rfl)]
  .cases h
 |(t,true)::rs,[],_,h=>by simp_all [jd]
 |(t,true)::rs,v::l,hp,h=>by
  cases t with
  |list e=>
   cases v with
   |slc id ver f=>
    cases f with
    |none=>
     simp only[jd]at h;split at h
     .rw[cond_eq_ite]at h;split at h
      .split at h
       .rename_i d
        simp[sV rs l (hp:=hp) (by rw[d];rfl)]
       .cases h
      .cases h
     .cases h
    |some p=>simp[jd]at h
   |_=>simp[jd]at h
  |_=>simp[jd]at h
theorem YL {own:Bool} {v:bn} {u:Value} {rs:List (Ty×Bool)} {hp:fD} (h:(jd own rs (Bl rs.length v) hp).isSome=true) (d:bu c v u): ∃us,u=EI us/\bg c (Bl rs.length v) us:=by
 match rs,h with
 |[t],h=>exact⟨[u],rfl,by simpa [Bl,bg] using d⟩
 |[],h=>
  cases v with
  |tup l=>
   simp only[List.length_nil,Bl]at h ⊢;cases l with
   |nil=>
    simp only[bu]at d;obtain⟨e,rfl,f⟩:=d;have:e= #[]:=by
     have:=bg.length _ _ f
     grind
    subst this;exact⟨[],rfl,by simp[bg]⟩
   |cons _ _=>simp[jd]at h
  |_=>simp[Bl,jd]at h
 |g::i::rs,h=>
  cases v with
  |tup l=>
   simp only[bu]at d;obtain⟨e,rfl,f⟩:=d;have hl:=bg.length _ _ f;have o:l.length=(g::i::rs).length:=sV _ _ h;simp only[aH,Bl];refine⟨e.toList, ?_,f⟩;cases hvs:e.toList with
   |nil=>simp_all
   |cons v1 j=>
    cases j with
    |nil=>simp_all
    |cons v2 p=>simp only[EI];rw[<-hvs]
  |_=>
   exfalso;have:=sV _ _ h;simp[Bl]at this
end
end
section
open Option renaming some → a6, none → a7
open Bool renaming and_eq_true → af, and_true → ay, not_false → aB
open List renaming map_cons → au
open Nat renaming le_refl → ae, eq_of_beq_eq_true → ah
open Go.RowKit
structure eP (E:Env):Prop where
 T:TOk E.P E.T
 m:E.P.follows .mixedOrders=true
 ng:EZ E.P
 S: ∀g s,E.sg g=a6 s->dO E.P g s
 L:qf E.P E
 R:Zt E
 B: ∀g,(E.bf g=true->uT E.P E.em g)/\(E.il g=true->EY E.P g)/\(E.sl g=true->E5 E.P g E.sc)
 X: ∀g s,E.sb g=a6 s->dJ E.P g s
section
variable {P:Program} {T:TT} {W0:World} {b0:Nat} {rd:Option Nat} {R:Type} {r:R} {c:Cx} {ats:List (Array Value)}
theorem zY {E:Env} (h:eP E) (m:Nat) (R:Type) (W0:World):rZ E.P W0 (jK E m (R:=R)):=
 (Ed h.T h.m h.ng rfl rfl (an4 h.T h.B h.S h.X) h.L h.R m R W0).1
theorem xk {w:World} {d:Nat->Prop} (e:Sj w) (hb: ∀b,d b->b<w.heap.size):gI w 0 a7 (jF w d) ⟨[],[],[],0⟩ ⟨#[],[]⟩ []:=
 ⟨rfl,rfl,⟨Below.refl _ _,fun id o h=>by simp[jF,cZ]at h,fun i j o p b h=>by simp[jF,cZ]at h,fun r hr=>by simp[jF]at hr,fun b h=>⟨hb b h,(by rintro ⟨i,o,h,_⟩;simp[jF,cZ]at h),by simp[jF]⟩,e⟩,by simp[jF,bg],trivial,⟨[],rfl,List.nodup_nil,fun r hr=>by simp at hr⟩,fun l hl=>by cases hl⟩
theorem VA {own:Bool} {c':Cx} (o:c'.w=c.w) (hf: ∀b,c.free b->c'.free b) (z:own=false-> ∀b,b<c.w.heap.size-> ¬c.bar b->c'.free b) {t:Ty} {v:bn} {x:t.den} {u:Value} (y:c.Ok W0)
  (h:(bif own&&(kV v&& !t.rigid)then a7 else v.asR c.hp own t)=a6 x) (d:bu c v u):VD c' t x u:=by
 have p: ∀b,c.free b->c'.free b/\c'.w.heap[b]? =c.w.heap[b]? :=fun b A=>⟨hf b A,by rw[o]⟩;rw[cond_eq_ite]at h;split at h
 .cases h
 rename_i U
 have B: ∀{id g i} {u:Value} {e:Ty} {x:List e.den},own=false->(bn.slc id g i).as c.hp (.list e)=a6 x->bu c (.slc id g i) u->VD c' (.list e) x u:=fun {id g i u e x} D h d=>by
  obtain⟨a,cp,E,j,q,G⟩:=OT y h d;have I:=VI y h d j;exact(VD.leaf rfl).2 ⟨a,cp,E,by rw[j],I,dX.mono (dM.mono p e) _ _ q,G.imp (fun h=>h) fun⟨b,J,K,L,M,N⟩=>⟨b,J,K,z D b L M,N.of_block (by rw[o])⟩⟩
 cases own with
 |true=>
  have h:v.as c.hp t=a6 x:=h;cases ho:kV v with
  |false=>exact E8 p ho h d
  |true=>
   cases v with
   |slc id g i=>
    cases t with
    |list e=>grind [Ty.rigid]
    |_=>simp[bn.as]at h
   |agg l=>
    simp only[bn.as]at h;rw[cond_eq_ite]at h;split at h
    .rename_i s
     simp only[bu]at d;obtain⟨f,rfl,j,q⟩:=d;exact VD.move o (.inl hf) ((VD.agg s).2 ⟨f,rfl,lZ h j⟩)
    .cases h
   |_=>simp[kV]at ho
 |false=>
  cases v with
  |slc id g i=>
   have h:(bn.slc id g i).as c.hp t=a6 x:=h;cases t with
   |list e=>grind
   |_=>simp[bn.as]at h
  |agg l=>
   have h:(bif t.isAgg then Dy t (l.map (frozen c.hp))else a7)=a6 x:=h;obtain⟨s,h⟩:=bK h;simp only[bu]at d;obtain⟨f,rfl,j,q⟩:=d;have O: ∀(l:List bn) (f:List Value),bg c l f->bg c' (l.map (frozen c.hp)) f:=by
    intro l
    induction l with
    |nil=>grind [bg]
    |cons v l S=>intro f h;cases f with
     |nil=>simp[bg]at h
     |cons u f=>
      simp only[bg,au]at h ⊢;refine⟨?_,S f h.2⟩;have d:=h.1;cases v with
      |val t x=>
       grind [frozen,bu,VD.move]
      |nils=>assumption
      |slc id g i=>
       simp only[frozen];split
       .rename_i e v xs V
        rw[cond_eq_ite];split
        .rename_i W
         simp only[bu];refine B rfl ?_ d;simp_all [bn.as,yC,dY]
        .simp[bu]
       .simp[bu]
      |_=>simp[frozen,bu]
   exact(VD.agg s).2 ⟨f,rfl,lZ h (O l _ j)⟩
  |_=>
   simp only[bn.asR,ac]at h;exact E8 p rfl h d
theorem Vy {own:Bool} {c':Cx} (f:c.Ok W0) (g:c'.w=c.w) (hf: ∀b,c.free b->c'.free b) (i:own=false-> ∀b,b<c.w.heap.size-> ¬c.bar b->c'.free b): ∀(rs:List (Ty×Bool)) (l:List bn) (y) (us:List Value),jd own rs l c.hp=a6 y->news rs=0->bg c l us->bg c' (mr 0 rs y) us
 |[],[],y,[],_,_,_=>by simp[mr,bg]
 |[],[],_,_::_,_,_,d=>by simp[bg]at d
 |[],_::_,_,_,h,_,_=>by simp[jd]at h
 |(t,true)::rs,_,_,_,_,e,_=>by simp[news]at e
 |(t,false)::rs,[],_,_,h,_,_=>by simp[jd]at h
 |(t,false)::rs,v::l,y,[],h,_,d=>by simp[bg]at d
 |(t,false)::rs,v::l,y,u::us,h,e,d=>by
  simp only[jd]at h;split at h
  .rename_i x j o p
   cases h;simp only[bg]at d;simp only[mr,bg,bu];exact⟨VA g hf i f o d.1,Vy f g hf i rs l j us p (by simpa [news] using e) d.2⟩
  .cases h
theorem ac3 (z:c.Ok W0): ∀(rs:List (Ty×Bool)) (l:List bn) (y) (us:List Value),jd true rs l c.hp=a6 y->news rs=1->bg c l us->
  ∃(id f:Nat) (e:Ty) (xs:List e.den),cZ c.hp id=a6 (.arr e f xs)/\vz rs y=a6 ⟨e,xs⟩/\
   ∀c':Cx,c'.w=c.w->(∀b,c.free b->c'.free b)->c'.hp=[(0,.arr e 0 xs)]->(c'.mu 0).v=(c.mu id).v->bg c' (mr 0 rs y) us
 |[],_,_,_,_,g,_=>by simp[news]at g
 |(t,false)::rs,[],_,_,h,_,_=>by simp[jd]at h
 |(t,false)::rs,v::l,y,[],h,_,d=>by simp[bg]at d
 |(t,false)::rs,v::l,y,u::us,h,g,d=>by
  simp only[jd]at h;split at h
  .rename_i x j i o
   cases h;simp only[bg]at d;obtain⟨id,f,e,xs,k1,k2,k3⟩:=ac3 z rs l j us o (by simpa [news] using g) d.2;refine⟨id,f,e,xs,k1,k2,fun c' A B D G=> ?_⟩
   grind [mr,bg,bu,VA]
  .cases h
 |(t,true)::rs,[],_,_,h,_,_=>by simp_all [jd]
 |(t,true)::rs,v::l,y,[],h,_,d=>by simp[bg]at d
 |(t,true)::rs,v::l,y,u::us,h,g,d=>by
  cases t with
  |list e=>
   cases v with
   |slc id f I=>
    cases I with
    |none=>
     simp only[jd]at h;split at h
     .rename_i L w xs E
      rw[cond_eq_ite]at h;split at h
      .rename_i q
       have q:w=f:=by simpa using q
       subst q;split at h
       .rename_i x j i o
        cases h;have J:=fV i;cases J;rw[dY]at i;cases i;simp only[bg]at d;refine⟨id,w,e,x,E,rfl,fun c' A B D G=> ?_⟩;simp only[mr,bg];refine⟨?_,Vy z A B (fun h=>by cases h) rs l j us o (by simpa [news] using g) d.2⟩;have s:=d.1;simp only[bu]at s ⊢;have K:=(s.2.2 _ _ _ E).2 rfl;simp only[ik]at K;refine⟨s.1,.inl ⟨.arr e 0 x,by rw[D];simp[dG]⟩,fun t M N h=> ?_⟩;simp_all [ik]
       .cases h
      .cases h
     .cases h
    |some p=>simp[jd]at h
   |_=>simp[jd]at h
  |_=>simp[jd]at h
theorem N8: ∀(rs:List (Ty×Bool)) y,news rs=0->vz rs y=a7
 |[],_,_=>rfl
 |(t,true)::rs,_,h=>by simp[news]at h
 |(t,false)::rs,y,h=>N8 rs y.2 (by simpa [news] using h)
theorem Vz (g:c.Ok W0) {rs:List (Ty×Bool)} {l:List bn} {y} {us:List Value} (h:jd (!Nat.beq (news rs) 0) rs l c.hp=a6 y) (D:news rs<=1) (v:bg c l us):
  ∃c':Cx,c'.w=c.w/\c'.Ok W0/\c'.bar=c.bar/\c'.mks=[]/\c'.hp=CB rs y/\bg c' (mr 0 rs y) us:=by
 by_cases s:news rs=0
 .let c':Cx:=⟨c.mu,[],c.nxt,c.w,[],c.bar⟩
  have u: ∀b,c.free b->c'.free b:=fun b f=>⟨f.1,(by rintro ⟨i,o,h,_⟩;simp[c',cZ]at h),by simp[c'],f.2.2.2⟩;exact⟨c',rfl,⟨g.bel,fun id o h=>by simp[c',cZ]at h,fun i j o p b h=>by simp[c',cZ]at h,fun r hr=>by simp[c']at hr,fun b f=>⟨(g.bar b f).1,(by rintro ⟨i,o,h,_⟩;simp[c',cZ]at h),by simp[c']⟩,g.phi⟩,rfl,rfl,by rw[CB,N8 rs y s],Vy g (c':=c') rfl u (fun _ b d q=>⟨d,(by rintro ⟨i,o,h,_⟩;simp[c',cZ]at h),by simp[c'],q⟩) rs l y us h s v⟩
 .have x:news rs=1:=by omega
  rw[show(!Nat.beq (news rs) 0)=true by rw[x];rfl]at h;obtain⟨id,E,e,xs,k1,k2,k3⟩:=ac3 g rs l y us h x v
  let c':Cx:=⟨fun _=>c.mu id,[(0,.arr e 0 xs)],c.nxt,c.w,[],c.bar⟩
  have u: ∀b,c.free b->c'.free b:=fun b f=>⟨f.1,(by
   rintro ⟨i,o,d,q⟩;simp only[c',dG]at d q;split at d
   .cases d;exact f.2.1 ⟨id,_,k1,q⟩
   .simp[cZ]at d),by simp[c'],f.2.2.2⟩
  refine⟨c',rfl,⟨g.bel,fun i o h=> ?_,fun i j o p b d q _ _=> ?_,fun r hr=>by simp[c']at hr,fun b f=>⟨(g.bar b f).1,(by
   rintro ⟨i,o,d,q⟩;simp only[c',dG]at d q;split at d
   .cases d;exact(g.bar b f).2.1 ⟨id,_,k1,q⟩
   .simp[cZ]at d),by simp[c']⟩,g.phi⟩,rfl,rfl,by rw[CB,k2],k3 c' rfl u rfl rfl⟩
  .simp only[c',dG]at h;split at h
   .cases h;obtain⟨s,z,A,d,q,B⟩:=g.obj id _ k1;exact⟨s,z,A,d,dX.mono (dM.mono (fun b f=>⟨u b f,rfl⟩) e) _ _ q,B⟩
   .simp[cZ]at h
  grind [cZ]
theorem x8 {E:Env} (j:eP E) {g:FuncId} {s:Sum} (l:news s.rs<=1) (h: ∀x y,s.f x=a6 y->OB E g s.ps s.rs x=a6 y) (w:World) (d:Nat->Prop) (e:Array Value) (x) (y) (o:Sj w) (p: ∀b,d b->b<w.heap.size)
  (q:mM (jF w d) s.ps x e.toList) (v:s.f x=a6 y):(callFunc g e).run E.P w=.ok (.enter g e) w/\Calls E.P g e w (yg w d s.rs y):=by
 have i:=h x y v;unfold OB at i;refine zY j 1000000 _ w g (BL s.ps x) _ _ y i 0 a7 (jF w d) ⟨#[],[]⟩ [] e (xk o p) (Jj _ _ _ q) (yg w d s.rs y) fun M z u N k1 k2 k3 k4=> ?_;obtain⟨us,rfl,A⟩:=YL (by rw[k1];rfl) k3;rw[<-k2.hp]at k1;obtain⟨B,D,G,I,J,K,L⟩:=Vz k2.ok k1 l A;exact⟨B,us,rfl,D,G,I.trans k4.bar,J,K,L⟩
theorem O3 {E:Env} (d:eP E) {g:FuncId} {s:Sum} (e:news s.rs<=1) (h: ∀x y,s.f x=a6 y->OB E g s.ps s.rs x=a6 y):dO E.P g s:=fun w i j x y l o p q=>.inl (x8 d e h w i j x y l o p q)
theorem WF {E:Env} (i:eP E) {g:FuncId} {d:List Ty} {x:(d.foldr Ty.pair Ty.unit).den} {t:Ty} {y:t.den} (v:t.rigid=true) (h:OB E g d [(t,false)] x=a6 (y,())) {w:World} {args:Array Value} (j:mM (jF w fun _=>False) d x args.toList) (l:Sj w:=by exact trivial):
  Calls E.P g args w fun e w'=>e=.returned (Fq t y)/\Below w.heap.size w w':=by
 obtain⟨_,o⟩:=x8 i (g:=g) (s:=⟨d,[(t,false)],fun p=>OB E g d [(t,false)] p⟩) (by simp[news]) (fun x y h=>h) w (fun _=>False) args x (y,()) l (fun b h=>h.elim) j h;refine o.mono ?_;rintro e w' ⟨z,us,rfl,rfl,q,_,_,_,f⟩;refine⟨?_,q.bel⟩;cases us with
 |nil=>simp[mr,bg]at f
 |cons u us=>
  cases us with
  |cons _ _=>simp[mr,bg]at f
  |nil=>
   simp_all [mr,bg,bu,EI,VD.rigid]
theorem zG {E:Env} (N:eP E) {g:FuncId} {e e2:Ty} (W:0<e.size) (X:0<e2.size) {f:List e.den->Option (List e2.den)} (Y: ∀xs y,f xs=a6 y->jK E 1000000 (.call g [.lst e xs false]) ⟨[],[],[],0⟩ (fun v st=>jd true [(.list e2,true)] (Bl 1 v) st.hp)=a6 (y,()))
  (h2: ∀y,f []=a6 y->y=[]/\jK E 1000000 (.call g [.lst e [] true]) ⟨[],[],[],0⟩ (fun v st=>match v,st.hp with|.nils,[]=>a6 ()|_,_=>a7)=a6 ()):
  dO E.P g ⟨[.list e],[(.list e2,true)],fun x=>match f x.1 with|some y=>a6 (y,())|none=>a7⟩:=fun w i B x y O S Z o=>.inl (by
 obtain⟨u,ab,hu,hx,ad⟩:=Z;obtain⟨a,n,zs,p,q,j,s⟩:=oH hx;simp only at o;split at o
 .rename_i y' D
  cases o;have A:bg (jF w i) [.lst e x.1 a.isNone] B.toList:=by
   rw[hu,show ab=[] from ad];simp only[bg,bu,and_true];simp_all
  cases ha:a.isNone with
  |true=>
   have hz:zs=[]:=by
    simp_all
   have hl:=dX.length _ _ j;rw[hz]at hl;have U:x.1=[]:=by
    cases hxx:x.1 with
    |nil=>rfl
    |cons a l=>rw[hxx]at hl;have:=Nat.mul_pos (show 0<(a::l).length by simp) W;simp_all
   rw[ha,U]at A;rw[U]at D;obtain⟨rfl,G⟩:=h2 _ D;refine zY N 1000000 _ w g [.lst e [] true] _ _ _ G 0 a7 (jF w i) ⟨#[],[]⟩ [] B (xk O S) A (yg w i [(.list e2,true)] ([],())) fun c1 z u d k1 k2 k3 k4=> ?_;split at k1
   .rename_i aj ag
    simp only[bu]at k3;obtain⟨V,I,d2,d3⟩:=oK (W0:=w) k2.ok k2.hp k2.nxt (id:=d.nxt) (n':=d.nxt+1) (by rw[ag];rfl) (ae _) (by omega) X (xs:=[]) (Below.refl _ _) (if e2=.int .u8 then lu else 0) [] (World.ownsRow_nil _ _ _ _) (by simp[dX]) (v:=.slice a7 0 0) rfl (fun h=>by simp[h]);have ai:jd true [(.list e2,true)] [.slc d.nxt 0 a7] V.hp=a6 (([],()):List e2.den×Unit):=by
     rw[I.hp];simp only[jd,cZ,beq_self_eq_true,Nat.beq_refl,aa,dY];rfl
    have J:bg V [.slc d.nxt 0 a7] [.slice a7 0 0]:=by simp_all [bg]
    obtain⟨K,p,q,j,s,L,M⟩:=Vz (rs:=[(.list e2,true)]) I.ok ai (by simp[news]) J;exact⟨K,[.slice a7 0 0],by rw[k3];rfl,p.trans d2,q,j.trans (I.le.bar.trans k4.bar),s,L,M⟩
   .cases k1
  |false=>
   rw[ha]at A;have G:=Y _ _ D;refine zY N 1000000 _ w g [.lst e x.1 false] _ _ _ G 0 a7 (jF w i) ⟨#[],[]⟩ [] B (xk O S) A (yg w i [(.list e2,true)] (y',())) fun c1 z u d k1 k2 k3 k4=> ?_;obtain⟨us,rfl,J⟩:=YL (own:=true) (rs:=[(.list e2,true)]) (hp:=d.hp) (by grind) k3;rw[<-k2.hp]at k1;obtain⟨K,p,q,j,s,L,M⟩:=Vz (rs:=[(.list e2,true)]) k2.ok k1 (by simp[news]) J;exact⟨K,us,rfl,p,q,j.trans k4.bar,s,L,M⟩
 .cases o)
def afE:(rs:List Ty)->List bn->fD->Option (rs.foldr Ty.pair Ty.unit).den
 |[],[],_=>a6 ()
 |t::rs,v::l,d=>match(bif true&&(kV v&& !t.rigid)then a7 else v.as d t),afE rs l d with
  |some x,a6 y=>a6 (x,y)
  |_,_=>a7
 |_,_,_=>a7
def aiv:Nat->List Ty->List (Nat×Ty)
 |_,[]=>[]
 |n,.list t::d=>(n,t)::aiv (n+1) d
 |n,_::d=>aiv (n+1) d
def ar5 (n:Nat) (v:bn):Bool:=Nat.beq n 1||(match v with
 |.tup l=>Nat.beq l.length n&& !Nat.beq n 1
 |_=>false)
def akf (E:Env) (g:FuncId) (d:TypeId) (cs:List (Ty×Bool)) (e rs:List Ty) (x:((cs.map (·.1)).foldr Ty.pair Ty.unit).den) (y:(e.foldr Ty.pair Ty.unit).den):Option (((cs.map (·.1)).foldr Ty.pair Ty.unit).den×(rs.foldr Ty.pair Ty.unit).den):=
 jK E 1000000 (.call g (.ptr 0 0::Fv e y)) ⟨[.ptr 0 0],[],(0,.box d (Di cs (iw cs 1) x))::qJ cs (iw cs 1) x,0⟩ fun v st=>match st.fr with
  |[.ptr 0 0]=>bif ar5 rs.length v then(match xE (aiv 1 rs) {st with fr:=.ptr 0 0::Bl rs.length v}with
   |some st=>match st.fr with
    |.ptr 0 0::l=>match cZ st.hp 0 with
     |some (.box t cells)=>bif Nat.beq t d&&Oa ((mf cs cells).map (·.1))then(match iZ st.hp true cs cells with
      |some f=>match afE rs l st.hp with
       |some h=>a6 (f,h)
       |none=>a7
      |none=>a7)else a7
     |_=>a7
    |_=>a7
   |none=>a7)else a7
  |_=>a7
theorem alA {n:Nat} {v:bn} {u:Value} (h:ar5 n v=true) (d:bu c v u): ∃us,u=EI us/\bg c (Bl n v) us:=by
 by_cases h1:n=1
 .subst h1;exact⟨[u],rfl,by simpa [Bl,bg] using d⟩
 .have j:Nat.beq n 1=false:=by
   cases hq:Nat.beq n 1 with
   |false=>rfl
   |true=>exact absurd (ah hq) h1
  simp only[ar5,j,Bool.false_or]at h;split at h
  .rename_i l
   simp only[aB,ay]at h;have hl:=ah h;simp only[bu]at d;obtain⟨g,rfl,i⟩:=d;refine⟨g.toList, ?_, ?_⟩
   .have f:=bg.length _ _ i
    match hq:g.toList,f with
    |[],_=>simp_all [EI]
    |[x],f=>simp at f;omega
    |x::y::r,_=>simp only[EI];rw[<-hq]
   .have:Bl n (.tup l)=l:=by
     unfold Bl;split
     .exact absurd rfl h1
     .rename_i e;cases e;rfl
     .rename_i e;exact(e _ rfl).elim
    rw[this];exact i
  .cases h
theorem YK (e:c.Ok W0): ∀(rs:List Ty) (l:List bn) (z) (us:List Value),afE rs l c.hp=a6 z->bg c l us->mM c rs z us
 |[],[],z,[],_,_=>rfl
 |[],[],_,_::_,_,d=>by simp[bg]at d
 |[],_::_,_,_,h,_=>by simp[afE]at h
 |_::_,[],_,_,h,_=>by simp[afE]at h
 |t::rs,v::l,z,[],_,d=>by simp[bg]at d
 |t::rs,v::l,z,u::us,h,d=>by
  simp only[afE]at h;split at h
  .rename_i x y f g
   cases h;simp only[bg]at d;exact⟨u,us,rfl,VA (own:=true) (c':=c) rfl (fun b h=>h) (fun h=>by cases h) e f d.1,YK e rs l y us g d.2⟩
  .cases h
theorem Zc {E:Env} (N:eP E) {g:FuncId} {s:fF} (h: ∀x y z,s.f x y=a6 z->akf E g s.bt s.cs s.ps s.rs x y=a6 z):dJ E.P g s:=fun W0 c x y z O an S A U j V=>by
 have B:=h x y z V;unfold akf at B;obtain⟨us⟩:=U;cases us with
 |nil=>simp[bg]at j
 |cons u0 us=>
 have D:=j;simp only[bg]at D;obtain⟨G,_⟩:=D;have hr:gI W0 0 a7 c ⟨[.ptr 0 0],[],(0,.box s.bt (Di s.cs (iw s.cs 1) x))::qJ s.cs (iw s.cs 1) x,0⟩ ⟨#[u0],[]⟩ []:=
  ⟨A,S,O,by simp_all [bg],trivial,⟨[],rfl,List.nodup_nil,fun r hr=>by simp at hr⟩,fun l hl=>by cases hl⟩
 refine zY N 1000000 _ W0 g (.ptr 0 0::Fv s.ps y) _ _ z B 0 a7 c ⟨#[u0],[]⟩ [] ⟨u0::us⟩ hr j (aob W0 c s z) fun W v u X k1 k2 k3 k4=> ?_;split at k1<;>try (cases k1;done)
 rename_i Y
 replace k1:=bK k1;obtain⟨Z,k1⟩:=k1;split at k1<;>try (cases k1;done)
 rename_i ao ab
 split at k1<;>try (cases k1;done)
 rename_i l ad
 split at k1<;>try (cases k1;done)
 rename_i t cells o
 replace k1:=bK k1;obtain⟨I,k1⟩:=k1;simp only[af]at I;obtain⟨p,ag⟩:=I;have p:t=s.bt:=ah p;subst p;split at k1<;>try (cases k1;done)
 rename_i x' J
 split at k1<;>try (cases k1;done)
 rename_i z' K
 cases k1;obtain⟨e,rfl,h3⟩:=alA Z k3;have q:=k2.fr;rw[Y]at q;simp only[bg,and_true]at q;have ai:gI W0 0 a7 W {X with fr:=.ptr 0 0::Bl s.rs.length v} ⟨(u0::e).toArray,[]⟩ []:=
  ⟨k2.hp,k2.nxt,k2.ok,⟨q,h3⟩,k2.stk,k2.df,k2.rd⟩
 obtain⟨L,i,aj,ak⟩:=wB _ ai ab;have d:=i.fr;rw[ad]at d;have d:bg L (.ptr 0 0::l) (u0::e):=d;simp only[bg]at d;obtain⟨M,al⟩:=d;rw[<-i.hp]at o J K;refine⟨L,e,cells,rfl,ak,i.ok,k4.trans aj,o, ?_,AQ ag,J,YK i.ok s.rs l z' e K al⟩;simp only[bu]at M G;have e1:=M.2.2 _ _ o;have e2:=G.2.2 _ _ (by rw[A];simp[dG];exact⟨rfl,rfl⟩);simp_all
end
end
section
open Go.RowKit
def alp:Sum:=⟨[.str,.int .u8],[(.int .i64,false)],fun x=>some (Lib.indexByte x.1 x.2.1.toNat.toUInt8,())⟩
theorem L8 {w:World} {d:Nat->Prop} (e:Sj w) (hb: ∀b,d b->b<w.heap.size):(jF w d).Ok w:=(xk e hb).ok
theorem Zd {P:Program} {g:FuncId} {fn:Func} (hf:P.funcs[g]? =some fn) (e:(fn.name== "runtime.NumGoroutine")=false) (hb:fn.body.isNone=true) (f:Extern.findNext fn=none)
  (h:Extern.find fn=some Extern.BytealgIndexByte.indexByte):dO P g alp:=by
 intro w i j x y l o p q;obtain⟨u,I,J,s,v,K,z,A,d⟩:=p;simp only[mM]at d;subst d z;have B:j= #[u,v]:=by
  grind
 subst B;have D:=s.str_inv;have E:=A.int_inv;subst D E;have G:=Option.some.inj q;subst G;refine .inr ⟨_,by rw[run_callFunc_extern hf e hb f h,Lib.run_indexByteString];rfl,jF w i,[_],rfl,rfl,L8 l o,rfl,rfl,rfl, ?_⟩;simp_all [alp,mr,bg,bu,VD.int_mk]
def V3:Sum:=⟨[.str,.str],[(.int .i64,false)],fun x=>some (Lib.compareBytes x.1 x.2.1,())⟩
theorem RN {P:Program} {g:FuncId} {fn:Func} (hf:P.funcs[g]? =some fn) (e:(fn.name== "runtime.NumGoroutine")=false) (hb:fn.body.isNone=true) (f:Extern.findNext fn=none)
  (h:Extern.find fn=some Extern.BytealgCompare.compare):dO P g V3:=by
 intro w i j x y l o p q;obtain⟨u,I,J,s,v,K,z,A,d⟩:=p;simp only[mM]at d;subst d z;have B:j= #[u,v]:=by
  grind
 subst B;have D:=s.str_inv;have E:=A.str_inv;subst D E;have G:=Option.some.inj q;subst G;refine .inr ⟨_,by rw[run_callFunc_extern hf e hb f h,Lib.run_compareString];rfl,jF w i,[_],rfl,rfl,L8 l o,rfl,rfl,rfl, ?_⟩;simp_all [V3,mr,bg,bu,VD.int_mk]
end
section
open Option renaming some → a6, none → a7
open Bool renaming and_eq_true → af, false_eq_true → ag
open List renaming mem_cons_of_mem → ak, mem_cons_self → aA
open Nat renaming eq_of_beq_eq_true → ah
open Go.RowKit
inductive FK where
 |u
 |v (t:Ty)
 |slc (id:Nat)
 |ptr (id off:Nat)
 |nils
 |slf (id:Nat)
 |yld (id:Nat)
 |nilp
 |e
 |fn (f:FuncId) (caps:List (Nat×Nat))
 |cp (t:Ty)
 |mpv (id:Nat)
 |mfn (f:FuncId) (fst:List (Nat×Nat))
 |kb (b:Bool)
def us (l:List FK) (n:Nat):List FK:=l++List.replicate n .u
def FKs.den:List FK->Ty
 |[]=>.unit
 |.v t::l=>.pair t (FKs.den l)
 |.u::l=>FKs.den l
 |.slc _::l=>FKs.den l
 |.ptr _ _::l=>FKs.den l
 |.nils::l=>FKs.den l
 |.slf _::l=>FKs.den l
 |.mpv _::l=>FKs.den l
 |.mfn _ _::l=>FKs.den l
 |.kb _::l=>FKs.den l
 |.yld _::l=>FKs.den l
 |.nilp::l=>FKs.den l
 |.e::l=>FKs.den l
 |.fn _ _::l=>FKs.den l
 |.cp t::l=>.pair t (FKs.den l)
def IP:List (Nat×Nat)->List bn
 |[]=>[]
 |(i,o)::l=>.ptr i o::IP l
def Pq:(l:List FK)->(FKs.den l).den->List bn
 |[],_=>[]
 |.v t::l,y=>.val t y.1::Pq l y.2
 |.u::l,y=>.undef::Pq l y
 |.slc id::l,y=>.slc id 0 a7::Pq l y
 |.ptr id d::l,y=>.ptr id d::Pq l y
 |.nils::l,y=>.nils::Pq l y
 |.slf id::l,y=>.slf id::Pq l y
 |.mpv id::l,y=>.mpv id::Pq l y
 |.mfn f c::l,y=>.mfn f (IP c)::Pq l y
 |.kb b::l,y=>.val .bool b::Pq l y
 |.yld id::l,y=>.yld id::Pq l y
 |.nilp::l,y=>.nilp::Pq l y
 |.e::l,y=>.tup []::Pq l y
 |.fn f g::l,y=>.fn f (IP g)::Pq l y
 |.cp t::l,y=>.cellp t y.1::Pq l y.2
def adZ (t:Ty):bn->Option t.den
 |.val t' x=>iR t x
 |_=>a7
def alU (t:Ty):bn->Option t.den
 |.cellp t' x=>iR t x
 |_=>a7
def amw (b:Bool):bn->Bool
 |.val .bool c=>bif b then c else !c
 |_=>false
def isU:bn->Bool
 |.undef=>true
 |_=>false
def isNils:bn->Bool
 |.nils=>true
 |_=>false
def TP:bn->Bool
 |.nilp=>true
 |_=>false
def isE:bn->Bool
 |.tup l=>l.isEmpty
 |_=>false
def acg (id:Nat):bn->Bool
 |.slf i=>Nat.beq i id
 |_=>false
def acf (id:Nat):bn->Bool
 |.mpv i=>Nat.beq i id
 |_=>false
def ach (id:Nat):bn->Bool
 |.yld i=>Nat.beq i id
 |_=>false
def XD (id:Nat):bn->Bool
 |.slc i v w=>Nat.beq i id&&(Nat.beq v 0&&(match w with|none=>true|some _=>false))
 |_=>false
def isPtr (id off:Nat):bn->Bool
 |.ptr i o=>Nat.beq i id&&Nat.beq o off
 |_=>false
def Ef:List (Nat×Nat)->List bn->Bool
 |[],[]=>true
 |(i,o)::c,v::l=>isPtr i o v&&Ef c l
 |_,_=>false
def aiH (f:FuncId) (c:List (Nat×Nat)):bn->Bool
 |.fn g l=>Nat.beq g f&&Ef c l
 |_=>false
def XA (f:FuncId) (c:List (Nat×Nat)):bn->Bool
 |.mfn g l=>Nat.beq g f&&Ef c l
 |_=>false
theorem abl {t:Ty} {v:bn} {x:t.den} (h:adZ t v=a6 x):v=.val t x:=by
 cases v with
 |val t' z=>
  grind [adZ,fV,dY]
 |_=>simp[adZ]at h
theorem aee {t:Ty} {v:bn} {x:t.den} (h:alU t v=a6 x):v=.cellp t x:=by
 cases v with
 |cellp t' z=>
  grind [alU,fV,dY]
 |_=>simp[alU]at h
theorem aiJ {v:bn} (h:isU v=true):v=.undef:=by grind [isU]
theorem XC {v:bn} (h:isNils v=true):v=.nils:=by grind [isNils]
theorem Aq: ∀{c:List (Nat×Nat)} {l:List bn},Ef c l=true->l=IP c
 |[],[],_=>rfl
 |(i,o)::c,v::l,h=>by
  simp only[Ef,af]at h;have d:v=.ptr i o:=by
   have:=h.1;cases v<;>simp only[isPtr,ag]at this;simp_all
  rw[d,Aq h.2];rfl
 |[],_::_,h=>by simp[Ef]at h
 |_::_,[],h=>by simp[Ef]at h
theorem ae7 {f:FuncId} {c:List (Nat×Nat)} {v:bn} (h:aiH f c v=true):v=.fn f (IP c):=by
 cases v with
 |fn g l=>
  simp only[aiH,af]at h;rw[ah h.1,Aq h.2]
 |_=>simp[aiH]at h
theorem ae8 {b:Bool} {v:bn} (h:amw b v=true):v=.val .bool b:=by
 unfold amw at h;split at h
 .rename_i c
  cases b<;>cases c<;>first|rfl|exact absurd h (by decide)
 .exact absurd h (by decide)
theorem aam {f:FuncId} {c:List (Nat×Nat)} {v:bn} (h:XA f c v=true):v=.mfn f (IP c):=by
 cases v with
 |mfn g l=>
  simp only[XA,af]at h;rw[ah h.1,Aq h.2]
 |_=>simp[XA]at h
theorem XB {v:bn} (h:TP v=true):v=.nilp:=by grind [TP]
theorem aiG {v:bn} (h:isE v=true):v=.tup []:=by
 cases v with
 |tup l=>simp_all [isE]
 |_=>simp[isE]at h
theorem aaq {id:Nat} {v:bn} (h:acg id v=true):v=.slf id:=by
 cases v with
 |slf i=>rw[ah h]
 |_=>simp[acg]at h
theorem aan {id:Nat} {v:bn} (h:acf id v=true):v=.mpv id:=by
 cases v with
 |mpv i=>rw[ah h]
 |_=>simp[acf]at h
theorem aar {id:Nat} {v:bn} (h:ach id v=true):v=.yld id:=by
 cases v with
 |yld i=>rw[ah h]
 |_=>simp[ach]at h
theorem aao {id:Nat} {v:bn} (h:XD id v=true):v=.slc id 0 a7:=by
 cases v with
 |slc i k w=>
  simp only[XD,af]at h;obtain rfl:i=id:=ah h.1;obtain rfl:k=0:=ah h.2.1
  grind
 |_=>simp[XD]at h
theorem aap {id off:Nat} {v:bn} (h:isPtr id off v=true):v=.ptr id off:=by
 cases v with
 |ptr i o=>
  simp_all [isPtr]
 |_=>simp[isPtr]at h
def jv:(l:List FK)->List bn->Option (FKs.den l).den
 |[],d=>match d with
  |[]=>a6 ()
  |_=>a7
 |.v t::l,d=>match d with
  |v::d=>match adZ t v,jv l d with
   |some x,a6 y=>a6 (x,y)
   |_,_=>a7
  |[]=>a7
 |.u::l,d=>match d with
  |v::d=>bif isU v then jv l d else a7
  |[]=>a7
 |.slc id::l,d=>match d with
  |v::d=>bif XD id v then jv l d else a7
  |[]=>a7
 |.ptr id g::l,d=>match d with
  |v::d=>bif isPtr id g v then jv l d else a7
  |[]=>a7
 |.nils::l,d=>match d with
  |v::d=>bif isNils v then jv l d else a7
  |[]=>a7
 |.nilp::l,d=>match d with
  |v::d=>bif TP v then jv l d else a7
  |[]=>a7
 |.e::l,d=>match d with
  |v::d=>bif isE v then jv l d else a7
  |[]=>a7
 |.fn f c::l,d=>match d with
  |v::d=>bif aiH f c v then jv l d else a7
  |[]=>a7
 |.mfn f c::l,d=>match d with
  |v::d=>bif XA f c v then jv l d else a7
  |[]=>a7
 |.kb b::l,d=>match d with
  |v::d=>bif amw b v then jv l d else a7
  |[]=>a7
 |.slf id::l,d=>match d with
  |v::d=>bif acg id v then jv l d else a7
  |[]=>a7
 |.mpv id::l,d=>match d with
  |v::d=>bif acf id v then jv l d else a7
  |[]=>a7
 |.yld id::l,d=>match d with
  |v::d=>bif ach id v then jv l d else a7
  |[]=>a7
 |.cp t::l,d=>match d with
  |v::d=>match alU t v,jv l d with
   |some x,a6 y=>a6 (x,y)
   |_,_=>a7
  |[]=>a7
theorem gU: ∀(l:List FK) (fr:List bn) (y:(FKs.den l).den),jv l fr=a6 y->fr=Pq l y
 |[],fr,y,h=>by
  simp only[jv]at h;split at h
  .rfl
  .cases h
 |.v t::l,fr,y,h=>by
  simp only[jv]at h;split at h
  .split at h
   .rename_i x g i j
    cases h;rw[abl i,gU l _ g j];rfl
   .cases h
  .cases h
 |.u::l,fr,y,h=>by
  simp only[jv]at h;split at h
  .rename_i v fr
   obtain⟨d,h⟩:isU v=true/\jv l fr=a6 y:=bK h;rw[aiJ d,gU l fr y h];rfl
  .cases h
 |.slc id::l,fr,y,h=>by
  simp only[jv]at h;split at h
  .rename_i v fr
   obtain⟨d,h⟩:XD id v=true/\jv l fr=a6 y:=bK h;rw[aao d,gU l fr y h];rfl
  .cases h
 |.ptr id o::l,fr,y,h=>by
  simp only[jv]at h;split at h
  .rename_i v fr
   obtain⟨d,h⟩:isPtr id o v=true/\jv l fr=a6 y:=bK h;rw[aap d,gU l fr y h];rfl
  .cases h
 |.nils::l,fr,y,h=>by
  simp only[jv]at h;split at h
  .rename_i v fr
   obtain⟨d,h⟩:isNils v=true/\jv l fr=a6 y:=bK h;rw[XC d,gU l fr y h];rfl
  .cases h
 |.nilp::l,fr,y,h=>by
  simp only[jv]at h;split at h
  .rename_i v fr
   obtain⟨d,h⟩:TP v=true/\jv l fr=a6 y:=bK h;rw[XB d,gU l fr y h];rfl
  .cases h
 |.e::l,fr,y,h=>by
  simp only[jv]at h;split at h
  .rename_i v fr
   obtain⟨d,h⟩:isE v=true/\jv l fr=a6 y:=bK h;rw[aiG d,gU l fr y h];rfl
  .cases h
 |.fn f c::l,fr,y,h=>by
  simp only[jv]at h;split at h
  .rename_i v fr
   obtain⟨d,h⟩:aiH f c v=true/\jv l fr=a6 y:=bK h;rw[ae7 d,gU l fr y h];rfl
  .cases h
 |.mfn f c::l,fr,y,h=>by
  simp only[jv]at h;split at h
  .rename_i v fr
   obtain⟨d,h⟩:XA f c v=true/\jv l fr=a6 y:=bK h;rw[aam d,gU l fr y h];rfl
  .cases h
 |.kb b::l,fr,y,h=>by
  simp only[jv]at h;split at h
  .rename_i v fr
   obtain⟨d,h⟩:amw b v=true/\jv l fr=a6 y:=bK h;rw[ae8 d,gU l fr y h];rfl
  .cases h
 |.slf id::l,fr,y,h=>by
  simp only[jv]at h;split at h
  .rename_i v fr
   obtain⟨d,h⟩:acg id v=true/\jv l fr=a6 y:=bK h;rw[aaq d,gU l fr y h];rfl
  .cases h
 |.mpv id::l,fr,y,h=>by
  simp only[jv]at h;split at h
  .rename_i v fr
   obtain⟨d,h⟩:acf id v=true/\jv l fr=a6 y:=bK h;rw[aan d,gU l fr y h];rfl
  .cases h
 |.yld id::l,fr,y,h=>by
  simp only[jv]at h;split at h
  .rename_i v fr
   obtain⟨d,h⟩:ach id v=true/\jv l fr=a6 y:=bK h;rw[aar d,gU l fr y h];rfl
  .cases h
 |.cp t::l,fr,y,h=>by
  simp only[jv]at h;split at h
  .split at h
   .rename_i x g i j
    cases h;rw[aee i,gU l _ g j];rfl
   .cases h
  .cases h
noncomputable def rfA (f:FuncId) (k:Nat):Code:=match oO f k with
 |some (a,_)=>a
 |none=>.skip
noncomputable def rfB (f:FuncId) (k:Nat):Code:=match oO f k with
 |some (_,b)=>b
 |none=>.skip
inductive HK where
 |arr (id:Nat) (e:Ty)
 |box (id:Nat) (t:TypeId) (cs:List FK)
 |mp (id:Nat) (kk vk:IntKind)
 |lp (id:Nat) (f:FuncId) (fr:List FK) (ps:List Nat) (key:Nat) (n:Nat) (p:Option Ex)
def HKs.den:List HK->Ty
 |[]=>.unit
 |.arr _ e::l=>.pair (.list e) (HKs.den l)
 |.mp _ kk d::l=>.pair (.list (.pair (.int kk) (.int d))) (HKs.den l)
 |.box _ _ cs::l=>.pair (FKs.den cs) (HKs.den l)
 |.lp _ _ fr _ _ _ _::l=>.pair (FKs.den fr) (HKs.den l)
noncomputable def mkH:(l:List HK)->(HKs.den l).den->fD
 |[],_=>[]
 |.arr id e::l,y=>(id,.arr e 0 y.1)::mkH l y.2
 |.mp id kk d::l,y=>(id,.mp kk d y.1)::mkH l y.2
 |.box id t cs::l,y=>(id,.box t (Pq cs y.1))::mkH l y.2
 |.lp id f fr ps key n p::l,y=>(id,.lp f (Pq fr y.1) ps (rfA f key) (rfB f key) (a6 key) n p)::mkH l y.2
def abn (e:Ty):bY->Option (List e.den)
 |.arr e' v xs=>bif Nat.beq v 0 then iR (.list e) (t':=.list e') xs else a7
 |_=>a7
def ani (d e:IntKind):bY->Option (List (Int×Int))
 |.mp k v f=>bif decide (k=d)&&decide (v=e)then a6 f else a7
 |_=>a7
theorem afp {d e:IntKind} {o:bY} {x:List (Int×Int)} (h:ani d e o=a6 x):o=.mp d e x:=by
 cases o with
 |mp k v f=>
  simp only[ani]at h
  grind
 |_=>simp[ani]at h
def abr (t:TypeId) (cs:List FK):bY->Option (FKs.den cs).den
 |.box t' l=>bif Nat.beq t' t then jv cs l else a7
 |_=>a7
def apJ:Ex->Ex->Bool
 |.normal,.normal=>true
 |.exit i,.exit j=>Nat.beq i j
 |.goto i,.goto j=>Nat.beq i j
 |.ret,.ret=>true
 |_,_=>false
def aj0:Option Ex->Option Ex->Bool
 |none,a7=>true
 |some a,a6 b=>apJ a b
 |_,_=>false
def Iy:List Nat->List Nat->Bool
 |[],[]=>true
 |a::l,b::m=>Nat.beq a b&&Iy l m
 |_,_=>false
theorem aeP {a b:Ex} (h:apJ a b=true):a=b:=by
 cases a<;>cases b<;>simp only[apJ,ag]at h<;>first|rfl|simp_all
theorem aa1 {a b:Option Ex} (h:aj0 a b=true):a=b:=by
 cases a<;>cases b<;>simp only[aj0,ag]at h<;>first|rfl|rw[aeP h]
theorem JQ: ∀{l m:List Nat},Iy l m=true->l=m
 |[],[],_=>rfl
 |a::l,b::m,h=>by
  simp only[Iy,af]at h;rw[ah h.1,JQ h.2]
 |[],_::_,h=>by simp[Iy]at h
 |_::_,[],h=>by simp[Iy]at h
def ajp (f:FuncId) (fr:List FK) (d:List Nat) (key n:Nat) (p:Option Ex):bY->Option (FKs.den fr).den
 |.lp f' fr' ps' _ _ (a6 e) n' g=>bif Nat.beq f' f&&(Iy ps' d&&(Nat.beq e key&&(Nat.beq n' n&&aj0 g p)))then jv fr fr' else a7
 |_=>a7
theorem Zw {e:Ty} {o:bY} {x:List e.den} (h:abn e o=a6 x):o=.arr e 0 x:=by
 cases o with
 |arr e' v xs=>
  simp only[abn]at h;rw[cond_eq_ite]at h;split at h
  .rename_i d
   obtain rfl:v=0:=ah d
   grind [fV,dY]
  .cases h
 |_=>simp[abn]at h
theorem ZE {t:TypeId} {cs:List FK} {o:bY} {x:(FKs.den cs).den} (h:abr t cs o=a6 x):o=.box t (Pq cs x):=by
 cases o with
 |box t' l=>
  simp only[abr]at h;obtain⟨d,h⟩:=bK h;rw[gU cs l x h,ah d]
 |_=>simp[abr]at h
theorem afj {f:FuncId} {fr:List FK} {q:List Nat} {key n:Nat} {p:Option Ex} {o:bY} {x:(FKs.den fr).den} (v:WfO o) (h:ajp f fr q key n p o=a6 x):o=.lp f (Pq fr x) q (rfA f key) (rfB f key) (a6 key) n p:=by
 cases o with
 |lp f' fr' ps' iK bd ky n' y=>
  cases ky with
  |none=>simp[ajp]at h
  |some d=>
   simp only[ajp]at h;replace h:=bK h;obtain⟨s,h⟩:=h;simp only[af]at s;obtain⟨e,g,i,j,l⟩:=s;have e:=ah e;have g:=JQ g;have i:=ah i;have j:=ah j;have l:=aa1 l;subst e g i j l;have u:oO f' d=a6 (iK,bd):=v;have z:rfA f' d=iK:=by unfold rfA;rw[u]
   have A:rfB f' d=bd:=by unfold rfB;rw[u]
   grind [gU]
 |_=>simp[ajp]at h
def Kw:(l:List HK)->fD->Option (HKs.den l).den
 |[],d=>match d with
  |[]=>a6 ()
  |_=>a7
 |.arr id e::l,d=>match d with
  |(j,o)::d=>bif Nat.beq j id then(match abn e o,Kw l d with
   |some x,a6 y=>a6 (x,y)
   |_,_=>a7)else a7
  |[]=>a7
 |.mp id kk g::l,d=>match d with
  |(j,o)::d=>bif Nat.beq j id then(match ani kk g o,Kw l d with
   |some x,a6 y=>a6 (x,y)
   |_,_=>a7)else a7
  |[]=>a7
 |.box id t cs::l,d=>match d with
  |(j,o)::d=>bif Nat.beq j id then(match abr t cs o,Kw l d with
   |some x,a6 y=>a6 (x,y)
   |_,_=>a7)else a7
  |[]=>a7
 |.lp id f fr ps key n p::l,d=>match d with
  |(j,o)::d=>bif Nat.beq j id then(match ajp f fr ps key n p o,Kw l d with
   |some x,a6 y=>a6 (x,y)
   |_,_=>a7)else a7
  |[]=>a7
theorem tC: ∀(l:List HK) (hp:fD) (y:(HKs.den l).den),(∀e∈hp,WfO e.2)->Kw l hp=a6 y->hp=mkH l y
 |[],hp,y,_,h=>by
  simp only[Kw]at h;split at h
  .rfl
  .cases h
 |.arr id e::l,hp,y,d,h=>by
  simp only[Kw]at h;split at h
  .rw[cond_eq_ite]at h;split at h
   .rename_i g
    split at h
    .rename_i x i j o
     cases h;rw[Zw j,tC l _ i (fun e q=>d e (ak _ q)) o,ah g];rfl
    .cases h
   .cases h
  .cases h
 |.mp id kk u::l,hp,y,d,h=>by
  simp only[Kw]at h;split at h
  .rw[cond_eq_ite]at h;split at h
   .rename_i g
    split at h
    .rename_i x i j o
     cases h;rw[afp j,tC l _ i (fun e q=>d e (ak _ q)) o,ah g];rfl
    .cases h
   .cases h
  .cases h
 |.box id t cs::l,hp,y,d,h=>by
  simp only[Kw]at h;split at h
  .rw[cond_eq_ite]at h;split at h
   .rename_i g
    split at h
    .rename_i x i j o
     cases h;rw[ZE j,tC l _ i (fun e q=>d e (ak _ q)) o,ah g];rfl
    .cases h
   .cases h
  .cases h
 |.lp id f fr ps key n p::l,hp,y,d,h=>by
  simp only[Kw]at h;split at h
  .rw[cond_eq_ite]at h;split at h
   .rename_i g
    split at h
    .rename_i x i j o
     cases h;have s:=d _ aA;dsimp only at s;rw[afj s j,tC l _ i (fun e q=>d e (ak _ q)) o,ah g];rfl
    .cases h
   .cases h
  .cases h
structure SP where
 fr:List FK
 hp:List HK
def SP.den (p:SP):Type:=(FKs.den p.fr).den×(HKs.den p.hp).den
noncomputable def jR (p:SP) (y:p.den):St:=⟨Pq p.fr y.1,[[]],mkH p.hp y.2,0⟩
def aiu (p:SP) (st:St):Option p.den:=
 match st.stk,st.nxt with
 |[[]],0=>match jv p.fr st.fr,Kw p.hp st.hp with
  |some x,a6 y=>bif qj st.hp then a6 (x,y)else a7
  |_,_=>a7
 |_,_=>a7
theorem Nu {p:SP} {st:St} {y:p.den} (d:Zp st.hp) (h:aiu p st=a6 y):st=jR p y:=by
 obtain⟨l,o,hp,q⟩:=st;unfold aiu at h;split at h
 .rename_i e f
  subst e f;split at h
  .rename_i x s g i
   replace h:=bK h;obtain⟨j,h⟩:=h;cases h;have u:=gU _ _ _ g;have v:=tC _ _ _ (Jg _ j d) i;simp_all [jR]
  .cases h
 .cases h
def Bo {R:Type} (E:Env) (d:Nat) (f:FuncId) (c:Code):St->(Ex->St->Option R)->Option R:=run (E.at d) (jK E d) (Qu E d) f c
noncomputable def jb (k:dW) (l d e:SP) (g:Ex) (h:l.den->Option (d.den⊕e.den)) (f:Nat:=0) (i:Ex:=.ret):dA:={
 V:=l.den
 A:=fun _=>d.den
 B:=fun _=>e.den
 get:=fun st=>match Hm k.slots k.owns st with
  |some st=>aiu l st
  |none=>a7
 spec:=h
 exA:=fun _=>g
 stA:=fun _ _ a=>jR d a
 stB:=fun _ _ b=>jR e b
 dep:=f
 exB:=fun _=>i}
theorem afh {E:Env} {f:FuncId} {c:Code} {k:dW} {l g i:SP} {q:Ex} {j:l.den->Option (g.den⊕i.den)} {s:Nat} {u:Ex} (hk:E.kp f (bM c)=a6 k)
  (h: ∀(R:Type) (d:Nat) (K:Ex->St->Option R) (v:l.den) o,j v=a6 o->
   ∃m,iter (a6 k) (Bo E (d+s) f c) m (jR l v) K=dB o (fun a=>K q (jR g a)) fun b=>K u (jR i b)):dU E f c (jb k l g i q j s u):=by
 intro R d r st v K z p hr;simp only[jb]at p;split at p
 .rename_i B x
  have e:=Nu (z _ _ _ x) p;subst e;simp only[jb]at hr;cases ho:j v with
  |none=>rw[ho]at hr;cases hr
  |some o=>
   rw[ho]at hr;obtain⟨m,A⟩:=h R d K v o ho;have y:(E.at (d+(jb k l g i q j s u).dep)).kp f (bM c)=a6 k:=hk;refine⟨m,jR l v,by rw[y];exact x, ?_⟩;rw[y];exact A.trans hr
 .cases p
theorem Fj {E:Env} {f:FuncId} {c:Code} {k:dW} {l g i:SP} {q:Ex} {j:l.den->Option (g.den⊕i.den)} {s:Nat} {u:Ex} (hk:E.kp f (800000+bM c)=a6 k)
  (h: ∀(R:Type) (d:Nat) (K:Ex->St->Option R) (v:l.den) o,j v=a6 o->
   ∃m,iter (a6 k) (Fp (Bo E (d+s) f c)) m (jR l v) K=dB o (fun a=>K q (jR g a)) fun b=>K u (jR i b)):zO E f c (jb k l g i q j s u):=by
 intro R d r st v K z p hr;simp only[jb]at p;split at p
 .rename_i B x
  have e:=Nu (z _ _ _ x) p;subst e;simp only[jb]at hr;cases ho:j v with
  |none=>rw[ho]at hr;cases hr
  |some o=>
   rw[ho]at hr;obtain⟨m,A⟩:=h R d K v o ho;have y:(E.at (d+(jb k l g i q j s u).dep)).kp f (800000+bM c)=a6 k:=hk;refine⟨m,jR l v,by rw[y];exact x, ?_⟩;rw[y];exact A.trans hr
 .cases p
def FKss.den:List (List FK)->Type
 |[]=>Unit
 |l::d=>(FKs.den l).den×FKss.den d
def mkK:(l:List (List FK))->FKss.den l->List (List bn)
 |[],_=>[]
 |l::d,y=>Pq l y.1::mkK d y.2
def ais:(l:List (List FK))->List (List bn)->Option (FKss.den l)
 |[],st=>match st with
  |[]=>a6 ()
  |_=>a7
 |l::d,st=>match st with
  |e::st=>match jv l e,ais d st with
   |some x,a6 y=>a6 (x,y)
   |_,_=>a7
  |[]=>a7
theorem QC: ∀(l:List (List FK)) (st:List (List bn)) (y:FKss.den l),ais l st=a6 y->st=mkK l y
 |[],st,y,h=>by
  simp only[ais]at h;split at h
  .rfl
  .cases h
 |l::d,st,y,h=>by
  simp only[ais]at h;split at h
  .split at h
   .rename_i x e f g
    cases h;rw[gU _ _ _ f,QC d _ e g];rfl
   .cases h
  .cases h
structure SQ where
 fr:List FK
 stk:List (List FK)
 hp:List HK
def SQ.den (p:SQ):Type:=(FKs.den p.fr).den×(FKss.den p.stk×(HKs.den p.hp).den)
noncomputable def uz (p:SQ) (y:p.den):St:=⟨Pq p.fr y.1,mkK p.stk y.2.1,mkH p.hp y.2.2,0⟩
def aal (p:SQ) (st:St):Option p.den:=
 match st.nxt with
 |0=>match jv p.fr st.fr,ais p.stk st.stk,Kw p.hp st.hp with
  |some x,a6 k,a6 y=>bif qj st.hp then a6 (x,k,y)else a7
  |_,_,_=>a7
 |_=>a7
theorem Xu {p:SQ} {st:St} {y:p.den} (d:Zp st.hp) (h:aal p st=a6 y):st=uz p y:=by
 obtain⟨j,l,hp,o⟩:=st;unfold aal at h;split at h
 .rename_i e
  subst e;split at h
  .rename_i x k q f hk g
   replace h:=bK h;obtain⟨i,h⟩:=h;cases h;have s:=gU _ _ _ f;have u:=tC _ _ _ (Jg _ i d) g
   grind [QC,uz]
  .cases h
 .cases h
noncomputable def eH (k:dW) (l d e:SQ) (g:Ex) (h:l.den->Option (d.den⊕e.den)) (f:Nat:=0) (i:Ex:=.ret):dA:={
 V:=l.den
 A:=fun _=>d.den
 B:=fun _=>e.den
 get:=fun st=>match Hm k.slots k.owns st with
  |some st=>aal l st
  |none=>a7
 spec:=h
 exA:=fun _=>g
 stA:=fun _ _ a=>uz d a
 stB:=fun _ _ b=>uz e b
 dep:=f
 exB:=fun _=>i}
theorem aaE {E:Env} {f:FuncId} {c:Code} {k:dW} {l g i:SQ} {q:Ex} {j:l.den->Option (g.den⊕i.den)} {s:Nat} {u:Ex} (hk:E.kp f (bM c)=a6 k)
  (h: ∀(R:Type) (d:Nat) (K:Ex->St->Option R) (v:l.den) o,j v=a6 o->
   ∃m,iter (a6 k) (Bo E (d+s) f c) m (uz l v) K=dB o (fun a=>K q (uz g a)) fun b=>K u (uz i b)):dU E f c (eH k l g i q j s u):=by
 intro R d r st v K z p hr;simp only[eH]at p;split at p
 .rename_i B x
  have e:=Xu (z _ _ _ x) p;subst e;simp only[eH]at hr;cases ho:j v with
  |none=>rw[ho]at hr;cases hr
  |some o=>
   rw[ho]at hr;obtain⟨m,A⟩:=h R d K v o ho;have y:(E.at (d+(eH k l g i q j s u).dep)).kp f (bM c)=a6 k:=hk;refine⟨m,uz l v,by rw[y];exact x, ?_⟩;rw[y];exact A.trans hr
 .cases p
def ku (L M:dA):dA:={
 V:=L.V⊕M.V
 A:=fun v=>match v with|.inl v=>L.A v|.inr v=>M.A v
 B:=fun v=>match v with|.inl v=>L.B v|.inr v=>M.B v
 get:=fun st=>match L.get st with
  |some v=>a6 (.inl v)
  |none=>match M.get st with
   |some v=>a6 (.inr v)
   |none=>a7
 spec:=fun v=>match v with|.inl v=>L.spec v|.inr v=>M.spec v
 exA:=fun v=>match v with|.inl v=>L.exA v|.inr v=>M.exA v
 stA:=fun st v=>match v with|.inl v=>L.stA st v|.inr v=>M.stA st v
 stB:=fun st v=>match v with|.inl v=>L.stB st v|.inr v=>M.stB st v
 dep:=L.dep+M.dep
 exB:=fun v=>match v with|.inl v=>L.exB v|.inr v=>M.exB v}
theorem nV {E:Env} {f:FuncId} {c:Code} {L M:dA} (j:dU E f c L) (h2:dU E f c M):dU E f c (ku L M):=fun R m r st v K i d hr=>by
 simp only[ku]at d;split at d
 .rename_i g h
  cases d;have e:m+(ku L M).dep=(m+M.dep)+L.dep:=by show m+(L.dep+M.dep)=_;omega
  rw[e];exact j R _ r st g K i h hr
 .split at d
  .rename_i g h
   cases d;have e:m+(ku L M).dep=(m+L.dep)+M.dep:=by show m+(L.dep+M.dep)=_;omega
   rw[e];exact h2 R _ r st g K i h hr
  .cases d
end
end Go.Proofs.YtlhpdcadgbjhiaaGreatDoor
