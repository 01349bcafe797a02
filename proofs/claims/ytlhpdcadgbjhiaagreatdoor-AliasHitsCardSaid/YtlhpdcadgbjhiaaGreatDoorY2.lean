/- Parts of the proof, joined and shortened by a program: the plain machine, the functions as it prints them, and the mathematics over them. -/
import Derived.Stop.Looks
import Derived.RangeFuncNested
import Derived.RangeFuncRecord
import Derived.Sort.LoopGhostIn
import Derived.Laws.Externs
import Derived.Lib.Bytealg
import Derived.Test.YtlhpdcadgbjhiaaGreatDoorY1
set_option linter.unusedVariables false
set_option linter.unusedSimpArgs false
set_option maxRecDepth 100000
set_option maxHeartbeats 4000000
namespace Go.Proofs.YtlhpdcadgbjhiaaGreatDoor
section
open Option renaming some → a6, none → a7
open Bool renaming and_eq_true → af
open List renaming mem_append_right → bz, eq_nil_of_length_eq_zero → bD
open Nat renaming le_refl → ae, eq_of_beq_eq_true → aj
open Go.RowKit
section
variable {P:Program} {T:TT} {W0:World} {b0 n:Nat} {rd:Option Nat} {c:Cx} {R:Type} {r:R} {st:St} {a:Act} {ats:List (Array Value)}
theorem OY (hr:iM W0 b0 rd c st a ats) {s:Nat} {t:Ty} {D:St} (h:yc s t st=a6 D): ∃c',iM W0 b0 rd c' D a ats/\c.Mono c'/\c'.w=c.w:=by
 have i: ∀j:s<a.tmps.toList.length,bU c (st.fr.getD s .undef) a.tmps.toList[s]:=fun j=>by
  have:=hr.fr.getD s;rwa [Array.getD,dif_pos (by simpa using j)]at this
 obtain⟨N,E,O,q⟩:=st;simp only[yc]at h;split at h
 .rename_i x
  simp only at i;rw[x]at i;split at h
  .cases h
  .rename_i d
   rw[cond_eq_ite]at h;split at h
   .rename_i f
    cases h;simp only[af]at f;have z:q<=1000000*E.length+800000+s:=by simp_all
    have A:0<t.size:=by simp_all
    obtain⟨c',hd,S,o⟩:=qZ hr.ok (st:=⟨N,E,O,q⟩) hr.hp hr.nxt d z (ae q) (y:=t) A (xs:=[]) (v:=.slice a7 0 0) (w:=c.w) (Below.refl _ _) nH [] ⟨by simp,.inl ⟨rfl,rfl⟩⟩ (by simp[fP]) rfl (fun _=>rfl);have g:=hr.did hd;refine⟨c',⟨g.hp,g.nxt,g.ok,bJ.setL _ _ _ g.fr fun j=> ?_,g.stk,g.df,g.rd⟩,hd.le.mono,S⟩
    grind [bU]
   .cases h
 .rename_i id U vw x
  simp only at i;rw[x]at i;split at h
  .rename_i u w xs d
   rw[cond_eq_ite]at h;split at h
   .rename_i B
    have B:w=U:=by simpa using B
    subst B;split at h
    .cases h;exact⟨c,hr,Cx.Mono.refl c,rfl⟩
    .rename_i lo l
     rw[cond_eq_ite]at h;split at h
     .rename_i f
      cases h;simp only[beq_iff_eq]at f;subst f;have G:=hr.hp;simp only at G;subst G;have V:=hr.ok.obj id _ d;obtain⟨W,e,X,I,hL,Y⟩:=V;by_cases j:s<a.tmps.toList.length
      .have o:=i j;simp only[bU]at o;have J:=(o.2.2 _ _ _ d).2 rfl;have⟨Z,ab⟩:0<=l/\l<=bI xs:=by
        obtain⟨a1,n1,c1,K,_,p2,p3,_⟩:=J;obtain⟨a2,c2,e2,_⟩:=ry I;rw[e2]at K;cases K;exact⟨p2,p3⟩
       obtain⟨ah,M⟩:=G7 I Z ab J;have hk:(dL.arr u w xs).like (c.mu id) (.arr u (w+1) (xs.take l.toNat)) ⟨(c.mu id).blk,a.tmps.toList[s]⟩:=⟨by omega,fun e=>by omega⟩;have p:=Cx.Le.put (w:=c.w) hr.ok d hk (ae _) (fun _ _ _=>rfl) (fun b f=>.inl (M b f)) (fun b L _ hL=>⟨L,hL⟩);have ad:=Cx.Ok.put (w:=c.w) hr.ok d hk hr.ok.bel (ae _) (fun _ _ _=>rfl) (fun b f=>.inl (M b f)) (fun b L _ hL=>⟨L,hL⟩) (by
        refine⟨W,e,X.take (l.toNat*u.size), ?_,fP.take _ _ _ (fP.mono (eY.mono p.free u) _ _ hL),Y⟩;simp_all [bI,Cx.put,upd_same])
       refine⟨c.put id (dL.arr u (w+1) (List.take l.toNat xs)) ⟨(c.mu id).blk,a.tmps.toList[s]⟩ c.w,⟨rfl,hr.nxt,ad,bJ.setL _ _ _ (bJ.le p _ _ hr.fr) fun _=> ?_,CS.le p _ _ hr.stk, ?_, ?_⟩,p.mono,rfl⟩
       .simp only[bU];refine⟨o.1,.inl ⟨_,Cx.put_get d⟩,fun t' u' ai ag=> ?_⟩;rw[Cx.put_get d]at ag;simp_all [ja,Cx.put,upd_same]
       .obtain⟨ds,z,A,h3⟩:=hr.df;exact⟨ds,z,A,h3⟩
       .exact hr.rd
      .exfalso;have hl:=bJ.length _ _ hr.fr;simp_all
     .cases h
   .cases h
  .cases h
 .cases h
theorem JK (hr:iM W0 b0 rd c st a ats) {s:Nat} {t:Ty} {D:St} (h:DJ s t st=a6 D): ∃c',iM W0 b0 rd c' D a ats/\c.Mono c'/\c'.w=c.w:=by
 have E: ∀d:s<a.tmps.toList.length,bU c (st.fr.getD s .undef) a.tmps.toList[s]:=fun d=>by
  have:=hr.fr.getD s;rwa [Array.getD,dif_pos (by simpa using d)]at this
 have ad: ∀(q: ∀d:s<a.tmps.toList.length,∃A,a.tmps.toList[s]=.slice A 0 0),∃c',iM W0 b0 rd c' {st with fr:=st.fr.set s (.val (.list t) [])} a ats/\c.Mono c'/\c'.w=c.w:=fun q=>
  ⟨c,⟨hr.hp,hr.nxt,hr.ok,bJ.setL _ _ _ hr.fr fun d=>by
   obtain⟨A,U⟩:=q d;rw[U];simp only[bU];exact(VD.leaf rfl).2 ⟨A,0,[],rfl,ae _,rfl,.inl rfl⟩,hr.stk,hr.df,hr.rd⟩,Cx.Mono.refl c,rfl⟩
 unfold DJ at h;split at h
 .simp_all [bU]
 .simp_all [bU]
 .rename_i id ag G
  rw[G]at E;split at h
  .rename_i u w xs v
   replace h:=dG h;obtain⟨y,h⟩:=h;simp only[af,beq_iff_eq]at y;obtain⟨rfl,I⟩:=y;cases h;obtain⟨B,V,J,W⟩:=st;have K:=hr.hp;simp only at K v I G;subst K;have X:bJ c (B.set s .undef) a.tmps.toList:=bJ.setL _ _ _ hr.fr fun _=>by simp[bU]
   have hk:=Cx.keeps_filter (c:=c) (p:=fun i=> !Nat.beq i id) (uC I);have Y:=hr.ok.filter (p:=fun i=> !Nat.beq i id) hk.right;have f:iM W0 b0 rd {c with hp:=c.hp.filter fun e=> !Nat.beq e.1 id} ⟨B.set s .undef,V,c.hp.filter fun e=> !Nat.beq e.1 id,W⟩ a ats:=
    ⟨rfl,hr.nxt,Y,bJ.keeps _ _ hk.left.left X,CS.keeps _ _ hk.left.right hr.stk,hr.df,hr.rd⟩
   refine⟨{c with hp:=c.hp.filter fun e=> !Nat.beq e.1 id},⟨rfl,f.nxt,f.ok, ?_,f.stk,f.df,f.rd⟩,⟨fun _ h=>h,fun b L h=>⟨L,h⟩,ae _,rfl,Ue c fun i=> !Nat.beq i id⟩,rfl⟩;have iV:=bJ.setL (z:=.val (.list u) xs) s _ _ f.fr fun d=>by
    have q:=E d;simp only[bU]at q ⊢;have M:=(q.2.2 _ _ _ v).2 rfl;simp only[ja]at M;obtain⟨ah,e,Z,N,hL,ai⟩:=hr.ok.obj id _ v;rw[M];have ab:=fP.mono (eY.mono hk.free u) _ _ hL;rcases N.2 with ⟨l,O⟩|⟨g,ak,al,l,O,e3,e4,e5,e6,e7⟩
    .have hx:xs=[]:=bD O;subst hx;rw[l];exact(VD.leaf rfl).2 ⟨a7,0,[],rfl,ae _,rfl,.inl rfl⟩
    .obtain⟨a2,an,S,f2,f3⟩:=F7 N;rw[l]at S;cases S;rw[l];refine(VD.leaf rfl).2 ⟨_,_,Z,rfl,e4,ab,f3.imp (fun h=>h) fun⟨g',q1,q2,q4,q3⟩=> ?_⟩;cases q1;refine⟨g,0,rfl,⟨q2, ?_, ?_,fun y=>(hr.ok.bar _ y).2.1 ⟨id,_,v,by simp[dL.blk,l,Value.ownBlock]⟩⟩,q3⟩
     .rintro ⟨j,o,x,h2⟩;simp only at x;rw[jS (fun i=> !Nat.beq i id)]at x;split at x
      .rename_i hj
       have:=hr.ok.inj j id o _ g x v h2 (by simp[dL.blk,l,Value.ownBlock]);simp_all
      .cases x
     .intro hm;obtain⟨_,hd⟩:=hr.ok.mks g hm;simp_all
   simp_all
  .cases h
 .cases h
 .cases h;exact⟨c,hr,Cx.Mono.refl c,rfl⟩
theorem Zk (hr:iM W0 b0 rd c st a ats) {id off:Nat} {t:Ty} {p:St} (h:Uf id off t st=a6 p): ∃c',iM W0 b0 rd c' p a ats/\c.Mono c'/\c'.w=c.w:=by
 have same:a6 st=a6 p-> ∃c',iM W0 b0 rd c' p a ats/\c.Mono c'/\c'.w=c.w:=fun h=>by cases h;exact⟨c,hr,Cx.Mono.refl c,rfl⟩
 obtain⟨M,N,O,s⟩:=st;simp only[Uf]at h;split at h
 .rename_i g cs S
  split at h
  .rename_i I
   split at h
   .rename_i J
    cases h;have j:dO c.hp id=a6 (.box g cs):=by rw[hr.hp];exact S
    obtain⟨u,us,x,q,z⟩:=hr.ok.obj id _ j;have K: ∀l:off<us.toList.length,us.toList[off]=.slice a7 0 0:=fun l=>by
     have:=bJ.getD q off;rw[I,Array.getD,dif_pos (by simpa using l)]at this
     assumption
    have o:(dL.box g cs).like (c.mu id) (.box g (cs.set off (.val (.list J) []))) (c.mu id):=rfl;have i:=Cx.Le.put (w:=c.w) hr.ok j o (ae _) (fun _ _ _=>rfl) (fun b d=>.inl d) (fun b L _ hL=>⟨L,hL⟩);have A:=Cx.Ok.put (w:=c.w) hr.ok j o hr.ok.bel (ae _) (fun _ _ _=>rfl) (fun b d=>.inl d) (fun b L _ hL=>⟨L,hL⟩) (by
     refine⟨by simp only[Cx.put,upd_same];exact u,us,by simp only[Cx.put,upd_same];exact x, ?_,z⟩;exact bJ.le i _ _ (bJ.setL off _ _ q fun l=>by
      rw[K l];simp only[bU];exact(VD.leaf rfl).2 ⟨a7,0,[],rfl,ae _,rfl,.inl rfl⟩))
    refine⟨c.put id (.box g (cs.set off (.val (.list J) []))) (c.mu id) c.w,⟨?_,hr.nxt,A,bJ.le i _ _ hr.fr,CS.le i _ _ hr.stk, ?_, ?_⟩,i.mono,rfl⟩
    .simp only[Cx.put];rw[hr.hp]
    .obtain⟨B,D,E,G⟩:=hr.df;exact⟨B,D,E,G⟩
    .exact hr.rd
   generalize id+500000+2000*off=nm at h;split at h
   .cases h
   .rename_i U
    rw[cond_eq_ite]at h;split at h
    .rename_i d
     cases h;simp only[af]at d;have V:s<=nm:=by simpa [Nat.ble_eq] using d.1
     have W:0<t.size:=by have:=d.2;simp[Nat.blt]at this;omega
     have Y:nm≠id:=fun e=>by simp_all
     obtain⟨c',hd,X,Z⟩:=qZ hr.ok (st:=⟨M,N,O,s⟩) hr.hp hr.nxt U V (ae s) (y:=t) W (xs:=[]) (v:=.slice a7 0 0) (w:=c.w) (Below.refl _ _) nH [] ⟨by simp,.inl ⟨rfl,rfl⟩⟩ (by simp[fP]) rfl (fun _=>rfl);have f:=hr.did hd;have j:dO c'.hp id=a6 (.box g cs):=by
      rw[hd.hp];simp only[ed]
      grind
     obtain⟨u,us,x,q,z⟩:=f.ok.obj id _ j;have K: ∀l:off<us.toList.length,us.toList[off]=.slice a7 0 0:=fun l=>by
      have:=bJ.getD q off;rw[I,Array.getD,dif_pos (by simpa using l)]at this
      assumption
     have o:(dL.box g cs).like (c'.mu id) (.box g (cs.set off (.slc nm 0 a7))) (c'.mu id):=rfl;have i:=Cx.Le.put (w:=c'.w) f.ok j o (ae _) (fun _ _ _=>rfl) (fun b d=>.inl d) (fun b L _ hL=>⟨L,hL⟩);have A:=Cx.Ok.put (w:=c'.w) f.ok j o f.ok.bel (ae _) (fun _ _ _=>rfl) (fun b d=>.inl d) (fun b L _ hL=>⟨L,hL⟩) (by
      refine⟨by simp only[Cx.put,upd_same];exact u,us,by simp only[Cx.put,upd_same];exact x, ?_,z⟩
      grind [bJ.le,bJ.setL])
     refine⟨c'.put id (.box g (cs.set off (.slc nm 0 a7))) (c'.mu id) c'.w,⟨?_,f.nxt,A,bJ.le i _ _ f.fr,CS.le i _ _ f.stk, ?_, ?_⟩,hd.le.mono.trans i.mono,X⟩
     .simp only[Cx.put];rw[hd.hp]
     .obtain⟨B,D,E,G⟩:=f.df;exact⟨B,D,E,G⟩
     .exact f.rd
    .cases h
  .exact same h
 .exact same h
theorem WF (k:Nat) (o:dL) (i:Nat): ∀h:gK,dO (as6 k o h) i=if k=i then a6 o else dO h i
 |[]=>by simp[as6,ed]
 |(j,p)::h=>by
  simp only[as6];rw[cond_eq_ite];split
  .rw[ed]
  .rename_i d
   have f:j≠k:=fun e=>d (by simp_all);rw[ed,WF k o i h,ed]
   grind
theorem xe (i:Nat): ∀h:gK,dO (lF h) i=dO h i
 |[]=>rfl
 |(k,o)::h=>by simp only[lF];rw[WF,xe i h,ed]
theorem iM.sorted (hr:iM W0 b0 rd c st a ats): ∃c',iM W0 b0 rd c' {st with hp:=lF st.hp} a ats/\c.Mono c'/\c'.w=c.w:=by
 have f: ∀i,dO (lF c.hp) i=dO c.hp i:=fun i=>xe i _;have q: ∀(o:dL) (l:Loc),o.like l o l:=fun o l=>by
  cases o<;>simp[dL.like]
 have d:c.Le {c with hp:=lF c.hp}:=by
  refine⟨fun b e=>⟨⟨e.1,fun⟨j,o,s,g⟩=>e.2.1 ⟨j,o,by simp_all,g⟩,e.2.2⟩,rfl⟩,fun id hk=> ?_,fun id u _ h=>⟨u,by rw[<-f];exact h,q _ _⟩,fun _ h=>h,fun b L h=>⟨L,h⟩,ae _,rfl⟩;rcases hk with ⟨o,h⟩|h
  .exact .inl ⟨o,by simp_all⟩
  .exact .inr h
 have v:({c with hp:=lF c.hp}:Cx).Ok W0:=by
  refine⟨hr.ok.bel,fun id o h=> ?_,fun i j o p b s g=>hr.ok.inj i j o p b (by simp_all) (by simp_all),hr.ok.mks,fun b e=>(d.out b (hr.ok.bar b e)).1,hr.ok.phi⟩;exact(hr.ok.obj id o (by rw[<-f];exact h)).le d rfl fun b _=>rfl
 exact⟨{c with hp:=lF c.hp},⟨by show lF c.hp=lF st.hp;rw[hr.hp],hr.nxt,v,bJ.le d _ _ hr.fr,CS.le d _ _ hr.stk,hr.df,hr.rd⟩,d.mono,rfl⟩
theorem aeQ (hr:iM W0 b0 rd c st a ats) {id off:Nat} {t:Ty} {d:St} (h:PW id off t st=a6 d): ∃c',iM W0 b0 rd c' d a ats/\c.Mono c'/\c'.w=c.w:=by
 simp only[PW]at h;split at h
 .rename_i q e
  cases h;obtain⟨s,f,g,i⟩:=Zk hr e;obtain⟨j,l,o,p⟩:=f.sorted;exact⟨j,l,g.trans o,p.trans i⟩
 .cases h
theorem ah3 (hr:iM W0 b0 rd c st a ats) {s id N:Nat} {u:TypeId} {xs:List bQ} (hn:st.fr.getD s .undef=.ptr id 0) (J:dO st.hp id=a6 (.box u xs)) (aF:id≠N)
  (ab:st.nxt.ble N=true) (ad:Eb [id,N] (lD (st.fr.set s .undef)++su st.stk++(lD xs++xu (st.hp.filter fun e=> !(Nat.beq e.1 id||Nat.beq e.1 N))))=true):
  ∃c',iM W0 b0 rd c' {st with fr:=st.fr.set s (.ptr N 0),hp:=lF ((N,.box u xs)::st.hp.filter fun e=> !(Nat.beq e.1 id||Nat.beq e.1 N))} a ats/\c.Mono c'/\c'.w=c.w:=by
 have au: ∀S:s<a.tmps.toList.length,bU c (.ptr id 0) a.tmps.toList[s]:=fun S=>by
  have:=hr.fr.getD s;rw[hn]at this;rwa [Array.getD,dif_pos (by simpa using S)]at this
 obtain⟨fr,stk,hp,nxt⟩:=st;have ag:=hr.hp;have ah:=hr.nxt;simp only at ag J ad hn ab ah;subst ag;subst ah;have ab:c.nxt<=N:=by simp_all
 have W: ∀i∈lD (fr.set s .undef)++su stk++(lD xs++xu (c.hp.filter fun e=> !(Nat.beq e.1 id||Nat.beq e.1 N))),i≠id/\i≠N:=fun i A=>by
  have:=uC ad i A;simp_all
 have U: ∀i,dO (lF ((N,.box u xs)::c.hp.filter fun e=> !(Nat.beq e.1 id||Nat.beq e.1 N))) i=if N=i then a6 (.box u xs)else if i=id then a7 else dO c.hp i:=fun i=>by
  rw[xe,ed];split
  .rfl
  .rename_i av
   rw[jS (fun i=> !(Nat.beq i id||Nat.beq i N))];have d:Nat.beq i N=false:=Bool.eq_false_iff.2 fun h=>av (aj h).symm;simp_all [Bool.eq_false_iff]
 generalize hH:lF ((N,.box u xs)::c.hp.filter fun e=> !(Nat.beq e.1 id||Nat.beq e.1 N))=H at*;generalize E:({c with mu:=Go.Proofs.YtlhpdcadgbjhiaaGreatDoor.upd c.mu N (c.mu id),hp:=H}:Cx)=c2;have K:c2.hp=H:=by rw[<-E]
 have B:c2.w=c.w:=by rw[<-E]
 have ai:c2.nxt=c.nxt:=by rw[<-E]
 have V:c2.mks=c.mks:=by rw[<-E]
 have ak:c2.bar=c.bar:=by rw[<-E]
 have M:c2.mu N=c.mu id:=by rw[<-E];exact upd_same ..
 have I: ∀i,i≠N->c2.mu i=c.mu i:=fun i A=>by rw[<-E];simp[Go.Proofs.YtlhpdcadgbjhiaaGreatDoor.upd,A]
 have al: ∀b,(∃i o,dO c2.hp i=a6 o/\o.blk (c2.mu i)=a6 b)-> ∃i o,dO c.hp i=a6 o/\o.blk (c.mu i)=a6 b:=fun b ⟨i,o,d,g⟩=>by
  grind
 have an: ∀b,c.out b->c2.out b:=fun b D=>⟨by rw[B];exact D.1,fun h=>D.2.1 (al b h),by rw[V];exact D.2.2⟩;have aw: ∀b,c.free b->c2.free b/\c2.w.heap[b]? =c.w.heap[b]? :=fun b D=>⟨⟨by rw[B];exact D.1,fun h=>D.2.1 (al b h),by rw[V,ak];exact D.2.2⟩,by rw[B]⟩;have keeps: ∀l:List Nat,(∀i∈l,i≠id/\i≠N)->c.Keeps c2 l:=fun l hl=>by
  refine⟨aw,fun i A hk=> ?_,fun i A o' x=> ?_⟩
  .rcases hk with ⟨o,x⟩|hk
   .left
    grind
   .right;rw[ai];exact hk
  .rw[K,U,aq (fun e=>(hl i A).2 e.symm),aq (hl i A).1]at x;refine⟨o',x, ?_⟩;rw[I i (hl i A).2];exact o'.like_refl _
 have ax: ∀i o,i≠id->i≠N->dO c.hp i=a6 o->(i,o)∈c.hp.filter fun e=> !(Nat.beq e.1 id||Nat.beq e.1 N):=fun i o A ay x=>List.mem_filter.2 ⟨wZ _ _ _ x,by
  have d:Nat.beq i N=false:=Bool.eq_false_iff.2 fun h=>ay (aj h);have g:Nat.beq i id=false:=Bool.eq_false_iff.2 fun h=>A (aj h);simp_all⟩
 have az:c2.Ok W0:=by
  refine⟨by rw[B];exact hr.ok.bel,fun i o x=> ?_,fun i j o q b d g v y=> ?_,fun r aG=>by rw[B];exact hr.ok.mks r (by simp_all),fun b D=>an b (hr.ok.bar b (by simp_all)),hr.ok.phi⟩
  .rw[K,U]at x;split at x
   .rename_i e;subst e;cases x
    obtain⟨d,X,g,v,y⟩:=hr.ok.obj id _ J;exact⟨by rw[M];exact d,X,by rw[B,M];exact g,bJ.keeps _ _ (keeps _ fun j Y=>W j (bz _ (List.mem_append_left _ Y))) v,y⟩
   .rename_i e
    split at x
    .cases x
    .rename_i G
     have h0:=hr.ok.obj i o x;have hm:=ax i o G (fun q=>e q.symm) x;have hk:=fun j Y=>W j (bz _ (bz _ (Aj _ _ hm j Y)));have ao:=I i (fun q=>e q.symm);cases o with
     |box e cs=>
      obtain⟨d,X,g,v,y⟩:=h0;refine⟨by rw[ao];exact d,X,by simp_all,bJ.keeps _ _ (keeps _ hk) v,y⟩
     |arr t ver xs=>
      obtain⟨h0,e,zs,d,g,v⟩:=h0;refine⟨h0,e,zs,by simp_all, ?_,v⟩
      grind [fP.mono,eY.mono]
     |lp f fr ps jo bd ky n p=>
      obtain⟨h0,d,L,g,v,y⟩:=h0;refine⟨h0,by rw[ao];exact d,L,by simp_all,bJ.keeps _ _ (keeps _ hk) v,y⟩
     |dead=>trivial
     |mp kk vk es=>
      simp_all [Cx.ORel]
  .rw[K,U]at d g;split at d<;>split at g
   .omega
   .rename_i O G
    split at g
    .cases g
    .rename_i Z
     subst O;cases d;rw[M]at v;rw[I j (fun q=>G q.symm)]at y;exact absurd (hr.ok.inj id j _ q b J g v y).symm Z
   .rename_i O G
    split at d
    .cases d
    .rename_i Z
     subst G;cases g;rw[M]at y;rw[I i (fun q=>O q.symm)]at v;exact absurd (hr.ok.inj i id o _ b d J v y) Z
   .rename_i O G
    split at d
    .cases d
    .split at g
     .cases g
     .rw[I i (fun q=>O q.symm)]at v;rw[I j (fun q=>G q.symm)]at y;exact hr.ok.inj i j o q b d g v y
 have aA:bJ c (fr.set s .undef) a.tmps.toList:=bJ.setL _ _ _ hr.fr fun _=>by simp[bU]
 have kl:=keeps _ W;have aB:=bJ.keeps _ _ kl.left.left aA;have iV:=bJ.setL (z:=.ptr N 0) s _ _ aB fun S=>by
  have hv:=au S;simp only[bU]at hv ⊢;exact⟨hv.1,.inl ⟨_,by rw[K,U,am rfl]⟩,fun _ _ _=>by rw[M];exact hv.2.2 _ _ J⟩
 rw[List.set_set]at iV;exact⟨c2,⟨by rw[K],ai,az,iV,CS.keeps _ _ kl.left.right hr.stk,by rw[V];exact hr.df,by rw[B];exact hr.rd⟩,
  ⟨fun _ h=>by rw[V];exact h,fun b L h=>⟨L,by rw[B];exact h⟩,by simp_all,ak,fun b D=>⟨an b D,by rw[B]⟩⟩,B⟩
theorem aeX (hr:iM W0 b0 rd c st a ats) {s:Nat} {t:Ty} {ab:St} (h:Qk s t st=a6 ab): ∃c',iM W0 b0 rd c' ab a ats/\c.Mono c'/\c'.w=c.w:=by
 have ad: ∀U:s<a.tmps.toList.length,bU c (st.fr.getD s .undef) a.tmps.toList[s]:=fun U=>by
  have:=hr.fr.getD s;rwa [Array.getD,dif_pos (by simpa using U)]at this
 unfold Qk at h;generalize hN:1000000*st.stk.length+800000+s=N at h;split at h
 .rename_i id ag V
  rw[V]at ad;rw[cond_eq_ite]at h;split at h
  .cases h;exact hr.sorted
  .rename_i J
   have J:id≠N:=fun e=>J (by simp[e]);split at h
   .rename_i u w xs K
    obtain⟨d,h⟩:=dG h;simp only[af]at d;obtain⟨ah,ai⟩:=d;cases h;obtain⟨Y,az,hp,aX⟩:=st;have ak:=hr.hp;have al:=hr.nxt;simp only at ak K ai V ah al;subst ak;subst al;have ah:c.nxt<=N:=by simp_all
    have an: ∀i∈lD (Y.set s .undef)++su az++xu (c.hp.filter fun e=> !(Nat.beq e.1 id||Nat.beq e.1 N)),i≠id/\i≠N:=fun i B=>by
     have:=uC ai i B;simp_all
    have W: ∀i,dO (lF ((N,.arr u w xs)::c.hp.filter fun e=> !(Nat.beq e.1 id||Nat.beq e.1 N))) i=if N=i then a6 (.arr u w xs)else if i=id then a7 else dO c.hp i:=fun i=>by
     rw[xe,ed];split
     .rfl
     .rename_i aA
      rw[jS (fun i=> !(Nat.beq i id||Nat.beq i N))];have g:Nat.beq i N=false:=Bool.eq_false_iff.2 fun h=>aA (aj h).symm;simp_all [Bool.eq_false_iff]
    generalize hH:lF ((N,.arr u w xs)::c.hp.filter fun e=> !(Nat.beq e.1 id||Nat.beq e.1 N))=H at*;generalize G:({c with mu:=Go.Proofs.YtlhpdcadgbjhiaaGreatDoor.upd c.mu N (c.mu id),hp:=H}:Cx)=v;have O:v.hp=H:=by rw[<-G]
    have E:v.w=c.w:=by rw[<-G]
    have ao:v.nxt=c.nxt:=by rw[<-G]
    have X:v.mks=c.mks:=by rw[<-G]
    have au:v.bar=c.bar:=by rw[<-G]
    have av:v.mu N=c.mu id:=by rw[<-G];exact upd_same ..
    have M: ∀i,i≠N->v.mu i=c.mu i:=fun i B=>by rw[<-G];simp[Go.Proofs.YtlhpdcadgbjhiaaGreatDoor.upd,B]
    have aw: ∀b,(∃i o,dO v.hp i=a6 o/\o.blk (v.mu i)=a6 b)-> ∃i o,dO c.hp i=a6 o/\o.blk (c.mu i)=a6 b:=fun b ⟨i,o,g,y⟩=>by
     grind
    have ax: ∀b,c.out b->v.out b:=fun b d=>⟨by rw[E];exact d.1,fun h=>d.2.1 (aw b h),by rw[X];exact d.2.2⟩;have aB: ∀b,c.free b->v.free b/\v.w.heap[b]? =c.w.heap[b]? :=fun b d=>⟨⟨by rw[E];exact d.1,fun h=>d.2.1 (aw b h),by rw[X,au];exact d.2.2⟩,by rw[E]⟩;have keeps: ∀l:List Nat,(∀i∈l,i≠id/\i≠N)->c.Keeps v l:=fun l hl=>by
     refine⟨aB,fun i B hk=> ?_,fun i B o' x=> ?_⟩
     .rcases hk with ⟨o,x⟩|hk
      .left
       grind
      .right;rw[ao];exact hk
     .rw[O,W,aq (fun e=>(hl i B).2 e.symm),aq (hl i B).1]at x;refine⟨o',x, ?_⟩;rw[M i (hl i B).2];exact o'.like_refl _
    have aF: ∀i o,i≠id->i≠N->dO c.hp i=a6 o->(i,o)∈c.hp.filter fun e=> !(Nat.beq e.1 id||Nat.beq e.1 N):=fun i o B aG x=>List.mem_filter.2 ⟨wZ _ _ _ x,by
     have g:Nat.beq i N=false:=Bool.eq_false_iff.2 fun h=>aG (aj h);have y:Nat.beq i id=false:=Bool.eq_false_iff.2 fun h=>B (aj h);simp_all⟩
    have aH:v.Ok W0:=by
     refine⟨by rw[E];exact hr.ok.bel,fun i o x=> ?_,fun i j o q b g y A D=> ?_,fun r aY=>by rw[E];exact hr.ok.mks r (by simp_all),fun b d=>ax b (hr.ok.bar b (by simp_all)),hr.ok.phi⟩
     .rw[O,W]at x;split at x
      .rename_i e;subst e;cases x
       obtain⟨aI,e,Z,aZ,hL,aJ⟩:=hr.ok.obj id _ K;refine⟨aI,e,Z, ?_, ?_,aJ⟩
       .simp_all
       grind [fP.mono,eY.mono]
      .rename_i e
       split at x
       .cases x
       .rename_i I
        have h0:=hr.ok.obj i o x;have hm:=aF i o I (fun q=>e q.symm) x;have hk:=fun j hj=>an j (bz _ (Aj _ _ hm j hj));have ay:=M i (fun q=>e q.symm);cases o with
        |box e cs=>
         obtain⟨g,vs,y,A,D⟩:=h0;refine⟨by rw[ay];exact g,vs,by simp_all,bJ.keeps _ _ (keeps _ hk) A,D⟩
        |arr t ag xs=>
         obtain⟨h0,e,Z,g,y,A⟩:=h0;refine⟨h0,e,Z,by simp_all, ?_,A⟩
         grind [fP.mono,eY.mono]
        |lp f Y ps jo bd ky n p=>
         obtain⟨h0,g,L,y,A,D⟩:=h0;refine⟨h0,by rw[ay];exact g,L,by simp_all,bJ.keeps _ _ (keeps _ hk) A,D⟩
        |dead=>trivial
        |mp kk vk es=>
         simp_all [Cx.ORel]
     .rw[O,W]at g y;split at g<;>split at y
      .omega
      .rename_i S I
       split at y
       .cases y
       .rename_i e3
        subst S;cases g;rw[av]at A;rw[M j (fun q=>I q.symm)]at D;exact absurd (hr.ok.inj id j _ q b K y A D).symm e3
      .rename_i S I
       split at g
       .cases g
       .rename_i e3
        subst I;cases y;rw[av]at D;rw[M i (fun q=>S q.symm)]at A;exact absurd (hr.ok.inj i id o _ b g K A D) e3
      .rename_i S I
       split at g
       .cases g
       .split at y
        .cases y
        .rw[M i (fun q=>S q.symm)]at A;rw[M j (fun q=>I q.symm)]at D;exact hr.ok.inj i j o q b g y A D
    have aK:bJ c (Y.set s .undef) a.tmps.toList:=bJ.setL _ _ _ hr.fr fun _=>by simp[bU]
    have kl:=keeps _ an;have aO:=bJ.keeps _ _ kl.left.left aK;have iV:=bJ.setL (z:=.slc N ag a7) s _ _ aO fun U=>by
     have hv:=ad U;simp only[bU]at hv ⊢;refine⟨hv.1,.inl ⟨_,by rw[O,W,am rfl]⟩,fun t' u' bf bg=> ?_⟩
     grind
    rw[List.set_set]at iV;exact⟨v,⟨by rw[O],ao,aH,iV,CS.keeps _ _ kl.left.right hr.stk,by rw[X];exact hr.df,by rw[E];exact hr.rd⟩,
     ⟨fun _ h=>by rw[X];exact h,fun b L h=>⟨L,by rw[E];exact h⟩,by simp_all,au,fun b d=>⟨ax b d,by rw[E]⟩⟩,E⟩
   .cases h
 .rename_i id V
  rw[cond_eq_ite]at h;split at h
  .cases h;exact hr.sorted
  .rename_i J
   have J:id≠N:=fun e=>J (by simp[e]);split at h
   .rename_i u xs K
    obtain⟨d,h⟩:=dG h;simp only[af]at d;cases h;exact ah3 hr V K J d.1 d.2
   .cases h
 .cases x:yc s t st with
  |none=>simp_all
  |some bi=>
   rw[x]at h;cases h;obtain⟨c1,aP,aQ,aS⟩:=OY hr x;obtain⟨v,aU,aV,aW⟩:=aP.sorted;exact⟨v,aU,aQ.trans aV,aW.trans aS⟩
theorem VI {s:Nat} {t:Ty} {l:List (Nat×Ty)} {st d:St} (h:jE ((s,t)::l) st=a6 d):(∃t' st1,DJ s t' st=a6 st1/\jE l st1=a6 d)\/(∃t' st1,PW (s/100) (s %100) t' st=a6 st1/\jE l st1=a6 d)\/(∃t' st1,Qk s t' st=a6 st1/\jE l st1=a6 d)\/ ∃st1,yc s t st=a6 st1/\jE l st1=a6 d:=by
 have own:(match yc s t st with|some st=>jE l st|none=>a7)=a6 d-> ∃st1,yc s t st=a6 st1/\jE l st1=a6 d:=fun h=>by
  grind
 cases t with
 |pair x y=>
  cases x with
  |unit=>
   grind [jE]
  |list z=>
   cases z with
   |unit=>
    grind [jE]
   |bool=>
    grind [jE]
   |_=>right;right;right;exact own h
  |_=>right;right;right;exact own h
 |_=>right;right;right;exact own h
theorem rq: ∀(l:List (Nat×Ty)) {c:Cx} {st:St},iM W0 b0 rd c st a ats-> ∀{u:St},jE l st=a6 u-> ∃c',iM W0 b0 rd c' u a ats/\c.Mono c'/\c'.w=c.w
 |[],c,st,hr,u,h=>by cases h;exact⟨c,hr,Cx.Mono.refl c,rfl⟩
 |(s,t)::l,c,st,hr,u,h=>by
  rcases VI h with ⟨y,v,d,e⟩|⟨y,v,d,e⟩|⟨y,v,d,e⟩|⟨v,d,e⟩
  .obtain⟨x,f,g,i⟩:=JK hr d;obtain⟨j,o,p,q⟩:=rq l f e;exact⟨j,o,g.trans p,q.trans i⟩
  .obtain⟨x,f,g,i⟩:=aeQ hr d;obtain⟨j,o,p,q⟩:=rq l f e;exact⟨j,o,g.trans p,q.trans i⟩
  .obtain⟨x,f,g,i⟩:=aeX hr d;obtain⟨j,o,p,q⟩:=rq l f e;exact⟨j,o,g.trans p,q.trans i⟩
  .obtain⟨x,f,g,i⟩:=OY hr d;obtain⟨j,o,p,q⟩:=rq l f e;exact⟨j,o,g.trans p,q.trans i⟩
theorem qg (hr:iM W0 b0 rd c st a ats) {y:List Nat} {g:List (Nat×Ty)} {d:St} (h:Lt y g st=a6 d): ∃c',iM W0 b0 rd c' d a ats/\c.Mono c'/\c'.w=c.w:=by
 have i:iM W0 b0 rd c {st with fr:=GZ y 0 st.fr} a ats:=⟨hr.hp,hr.nxt,hr.ok,zW 0 _ _ hr.fr,hr.stk,hr.df,hr.rd⟩;have go: ∀{e:Cx} {j:St},iM W0 b0 rd e j a ats->(match jE g j with
   |some st=>match gc (1000000*st.stk.length) .undef st with
    |some st=>a6 (X3 st)
    |none=>a7
   |none=>a7)=a6 d-> ∃c',iM W0 b0 rd c' d a ats/\e.Mono c'/\c'.w=e.w:=fun {e j} i h=>by
  split at h
  .rename_i A f
   obtain⟨B,l,o,p⟩:=rq g i f;split at h
   .rename_i K D
    cases h;obtain⟨z,q,_,s,x,_,_⟩:=l.gc (v:=.undef) (u:=undef) (by simp[bU]) D;obtain⟨E,G,I,J⟩:=q.anew;exact⟨E,G,(o.trans s).trans I,J.trans (x.trans p)⟩
   .cases h
  .cases h
 unfold Lt at h;split at h
 .rename_i A f
  split at f
  .grind
  .obtain⟨B,l,_,o,p,_,_⟩:=i.gc (v:=.undef) (u:=undef) (by simp[bU]) f;obtain⟨z,q,s,x⟩:=go l h;exact⟨z,q,o.trans s,x.trans p⟩
 .cases h
theorem yP: ∀(l:List (Nat×Ty)) {c:Cx} {st:St},iM W0 b0 rd c st a ats-> ∀{d:St},zT l st=a6 d-> ∃c',iM W0 b0 rd c' d a ats/\c.Mono c'/\c'.w=c.w
 |[],c,st,hr,d,h=>by cases h;exact⟨c,hr,Cx.Mono.refl c,rfl⟩
 |(s,t)::l,c,st,hr,d,h=>by
  simp only[zT]at h;split at h
  .rename_i u e
   obtain⟨v,f,g,i⟩:=JK hr e;obtain⟨j,o,p,q⟩:=yP l f h;exact⟨j,o,g.trans p,q.trans i⟩
  .cases h
theorem XQ (hr:iM W0 b0 rd c st a ats) {k:eQ} {d:St} (h:axI k st=a6 d): ∃c',iM W0 b0 rd c' d a ats/\c.Mono c'/\c'.w=c.w:=by
 simp only[axI]at h;split at h
 .rename_i A e
  have f:iM W0 b0 rd c {st with fr:=GZ k.rets 0 st.fr} a ats:=⟨hr.hp,hr.nxt,hr.ok,zW 0 _ _ hr.fr,hr.stk,hr.df,hr.rd⟩;obtain⟨B,g,i,j⟩:=yP k.give f e;split at h
  .rename_i D l
   cases h;obtain⟨E,o,_,p,q,_,_⟩:=g.gc (v:=.undef) (u:=undef) (by simp[bU]) l;obtain⟨s,x,y,z⟩:=o.anew;exact⟨s,x,(i.trans p).trans y,z.trans (q.trans j)⟩
  .cases h
 .cases h
end
end
section
open Option renaming some → a6, none → a7
open Bool renaming and_eq_true → af, false_eq_true → ah
open List renaming mem_cons_of_mem → ak
open Nat renaming le_refl → ae, lt_or_ge → aI
open Go.RowKit
def nN {R:Type} (P:Program) (call:gz R):Prop:=
 ∀(W0:World) (b0:Nat) (rd:Option Nat) (j:bQ) (l:List bQ) (p:Option Nat) (st:St) (K:bQ->St->Option R) (r:R),call j l p st K=a6 r->
  ∀(c:Cx) (a:Act) (ats:List (Array Value)) (h:Value) (i:Array Value),iM W0 b0 rd c st a ats->bU c j h->bJ c l i.toList->
   ∃z v,K z st=a6 r/\bU c z v/\ ∀f,Gw c f->(∃g o,(do let d<-Deferred.ofValue h i;invoke d.target d.args:Sem Next).run P f=.ok (.enter g o) f/\
    Calls P g o f (fun e q=>e=.returned v/\Gw c q))\/(do let d<-Deferred.ofValue h i;invoke d.target d.args:Sem Next).run P f=.ok (.value v) f
section
variable {P:Program} {T:TT} {W0:World} {b0 n:Nat} {rd:Option Nat} {c:Cx} {R:Type} {r:R} {st:St} {a:Act} {ats:List (Array Value)}
theorem iM.ext (h:iM W0 b0 rd c st a ats) {w:World} (e:Gw c w):iM W0 b0 rd (c.at_ w) st a ats:=by
 have d:=Cx.Le.ext e;exact⟨h.hp,h.nxt,h.ok.ext e,bJ.le d _ _ h.fr,CS.le d _ _ h.stk,let⟨f,g,i,j⟩:=h.df;⟨f,g,i,j⟩,fun l hl=>let⟨L,hL⟩:=h.rd l hl;d.lp l L hL⟩
theorem aeO (hT:TOk P T) {cl:Bool} {call:gz R} (J:nN P call) {o:Oper} (B:jK o.op=true) {K:bQ->St->Option R} (h:eF T cl call o st K=a6 r) (hr:iM W0 b0 rd c st a ats):
  ∃z v,K z st=a6 r/\bU c z v/\ ∀w',Gw c w'->o.quietAtIn (FW rd) n P a (Gw c) w' v:=by
 by_cases hq2:iD o.op=true
 .obtain⟨z,u,i,j,l⟩:=Ai hT hr.ok hq2 hr.hp hr.fr h;refine⟨z,u,i,j,fun w' p=> ?_⟩;unfold Oper.quietAtIn;rw[l w' p];exact⟨rfl,rfl⟩
 .obtain⟨q,M,D,E,G,I⟩:=o;cases M<;>simp only[jK,ah]at B<;>(try (exact absurd rfl hq2))
  case call cc=>
   obtain⟨s,d,e⟩:=cc;cases s with
   |builtin b=>cases b<;>simp only[ah]at B<;>exact absurd rfl hq2
   |invoke x m=>simp_all
   |value f=>
    simp only[eF]at h;obtain⟨z,v,i,j,l⟩:=J W0 b0 rd _ _ q st K r h c a ats (a.eval f) (d.map a.eval) hr (dR hr.fr f) (by
     have:=bJ.map_eval (c:=c) hr.fr d.toList;simpa using this)
    refine⟨z,v,i,j,fun w' p=> ?_⟩;unfold Oper.quietAtIn;rcases l w' p with ⟨g,N,y,O⟩|y
    .have A:(execOp a.eval ⟨q,.call {callee:=.value f,args:=d,argTypes:=e},D,E,G,I⟩).run P w'=.ok (.enter g N) w':=y;rw[A];exact⟨rfl,pG rd,(callsIn_wide (n:=n-1)).2 O⟩
    .have A:(execOp a.eval ⟨q,.call {callee:=.value f,args:=d,argTypes:=e},D,E,G,I⟩).run P w'=.ok (.value v) w':=y;rw[A];exact⟨rfl,rfl⟩
theorem Nb (hT:TOk P T) {cl:Bool} {call:gz R} (s:nN P call) (ops:Array Oper) {K:St->Option R}: ∀(l:List Oper) (st:St) (a:Act),(∀o∈l,jK o.op=true)->iq T cl call ops K l st=a6 r->iM W0 b0 rd c st a ats->
  wpQuietIn (FW rd) n P ops (Gw c) (fun i=> ∃e,K e=a6 r/\iM W0 b0 rd c e i ats) l a
 |[],st,a,u,h,hr=>by
  simp only[iq]at h;exact⟨st,h,hr⟩
 |o::l,st,a,u,h,hr=>by
  simp only[iq]at h;have D: ∀o∈l,jK o.op=true:=fun G I=>u G (ak _ I);have y: ∀(st:St) (a:Act),iM W0 b0 rd c st a ats->eF T cl call o st (fun v st=>iq T cl call ops K l (st.put o.dst v))=a6 r->
    o.quietIn (FW rd) n P a (Gw c) (wpQuietIn (FW rd) n P ops (Gw c) (fun i=> ∃e,K e=a6 r/\iM W0 b0 rd c e i ats) l):=fun st a hr h=>by
   obtain⟨z,v,p,J,M⟩:=aeO (n:=n) hT s (u o (by simp)) h hr;exact⟨v,M,Nb hT s ops l _ _ D p (hr.put J)⟩
  have A: ∀(st:St),iM W0 b0 rd c st a ats->iq T cl call ops K l (st.put o.dst (.tup []))=a6 r->wpQuietIn (FW rd) n P ops (Gw c) (fun i=> ∃e,K e=a6 r/\iM W0 b0 rd c e i ats) l (a.put o.dst undef):=fun st hr h=>
   Nb hT s ops l (st.put o.dst (.tup [])) (a.put o.dst undef) D h (hr.put (by simp only[bU];exact⟨#[],rfl,by simp[bJ]⟩))
  simp only[wpQuietIn];refine⟨fun _ _ _ _=>trivial, ?_⟩;cases hg:o.guard with
  |none=>
   rw[hg]at h;rw[am (by simp[Region.wanted,hg])];exact y st a hr h
  |some N=>
   obtain⟨j,O⟩:=N;rw[hg]at h;simp only at h;split at h
   .cases h
   .rename_i d hd
    have f:=Ja ops j d hd a.tmps;have g:=hr.fr.getD d;split at h
    .rename_i b B
     rw[B]at g;simp only[bU]at g;have S:=g.bool_inv;have W:d<a.tmps.size:=by
      rcases aI d a.tmps.size with p|p
      .exact p
      simp_all [undef]
     have E:a.tmps[d]? =a6 (.bool b):=by
      simp_all
     rw[E]at f;simp only at f;have U:a.put (a6 d) (.bool b)=a:=by
      simp only[Act.put];obtain⟨X,Y⟩:=Array.getElem?_eq_some_iff.1 E;have:a.tmps.setIfInBounds d (.bool b)=a.tmps:=by
       grind
      rw[this]
     have q:iM W0 b0 rd c (st.put (a6 d) (.val .bool b)) a ats:=by
      have:=hr.put (dst:=a6 d) (z:=.val .bool b) (v:=.bool b) (by simp_all [bU]);rwa [U]at this
     cases b<;>cases O<;>(try simp only[aa,ac]at h)
     .rw[am (by simp[Region.wanted,hg,f])];exact y _ a q h
     .rw[aq (by simp[Region.wanted,hg,f])];exact A _ q h
     .rw[aq (by simp[Region.wanted,hg,f])];exact A _ q h
     .rw[am (by simp[Region.wanted,hg,f])];exact y _ a q h
    .rename_i B
     rw[B]at g;simp only[bU]at g;obtain⟨Z,S,_⟩:=g;have V:yielded ops a.tmps j=a7:=by
      rw[f];cases he:a.tmps[d]? with
      |none=>rfl
      |some x=>
       simp_all
     rw[aq (by simp[Region.wanted,hg,V])];exact A st hr h
    .cases h
section
variable {ops:Array Oper} {md:Region.Mode} {C:World->Prop} {F:Fence}
theorem Vk {o:Oper} (hd:qV o.op=false) {a:Act} {K:Act->Prop} {g:Act->World->Prop} {j:Exit->Act->World->Prop} {w:World} (i:C w) (h: ∀a w',C w'->K a->g a w')
  (l:o.askedIn F P a C) (p:o.quietIn F n P a C K):o.wpIn F n P a w g j:=by
 obtain⟨v,q,z⟩:=p;have d:=q w i;unfold Oper.quietAtIn at d;unfold Oper.wpIn;refine⟨l w i, ?_⟩;rw[xw hd];generalize (execOp a.eval o).run P w=r at*;cases r with
 |ok x w'=>
  cases x<;>simp only[Oper.quietUponIn]at d<;>simp only[Oper.uponIn]
  case value u=>
   simp_all
  case skip=>
   simp_all
  case enter f args=>
   obtain⟨s,hd,y⟩:=d;rw[s];exact⟨hd,y.mono fun e A ⟨B,D⟩=>by simp_all⟩
 |halt x w'=>simp only[Oper.quietUponIn]at d
theorem Oa {i:Nat} (hd: ∀(i:Nat) (o:Oper),ops[i]? =a6 o->qV o.op=false) {a:Act} {K:Act->Prop} {f:Act->World->Prop} {j:Exit->Act->World->Prop} {w:World} (g:C w) (h: ∀a w',C w'->K a->f a w')
  (d:qOpIn F n P ops C i K a):wpOpIn F n P ops j i f a w:=by
 unfold qOpIn at d;unfold wpOpIn;split
 .simp_all
 .rename_i o l
  simp only[l]at d;obtain⟨p,d⟩:=d;split
  .rename_i e;simp only[e,if_true]at d;grind [Vk]
  .rename_i e;simp only[e]at d;exact⟨p w g,h _ _ g d⟩
theorem yL {Q:Act->Prop} {g:Exit->Act->World->Prop} (hd: ∀(i:Nat) (o:Oper),ops[i]? =a6 o->qV o.op=false) (f: ∀a w,C w->Q a->g .normal a w): ∀(d:Nat) (j:Array Bool) (a:Act) (w:World),C w->
  wpAnyQIn F n P md ops C Q d j a->wpAnyIn F n P md ops g d j a w
 |0,_,_,_,e,h=>⟨h.1,f _ _ e h.2⟩
 |d+1,_,_,_,e,h=>⟨fun h0=>f _ _ e (h.1 h0),fun i l=>Oa hd e (fun p q s=>yL hd f d _ p q s) (h.2 i l)⟩
theorem I9 {id:Nat} {Q:Exit->Act->World->Prop} {a:Act} {w:World} (hd: ∀(i:Nat) (o:Oper),ops[i]? =a6 o->qV o.op=false) (f:P.follows .mixedOrders=true) (d:Region.lexB .any ops=true) (g:C {w with drawn:=w.drawn+1})
  (h:wpQuietIn F n P ops C (fun e=> ∀w',C w'->Q .normal e w') ops.toList a):(Code.region id ops true).wpIn F n P Q a w:=by
 simp only[Region.lexB,af]at d;refine wpIn_region_any f (yL (Q:=fun e=> ∀w',C w'->Q .normal e w') hd (fun _ w' j h=>h w' j) _ _ _ _ g ?_);have:=wpAnyQIn_lex (F:=F) (n:=n) (C:=C) (md:=.any) d.1 ops.toList 0 (Array.replicate ops.size false) a (by simp) (by simpa using d.2) h;simpa using this
end
theorem xH {F:Fence} {ops:Array Oper} {C:World->Prop} {Q g:Act->Prop} (h: ∀a,Q a->g a): ∀(l:List Oper) (a:Act),wpQuietIn F n P ops C Q l a->wpQuietIn F n P ops C g l a
 |[],a,d=>h a d
 |o::l,a,d=>by
  simp only[wpQuietIn]at d ⊢;refine⟨d.1, ?_⟩;have e:=d.2;split
  .rename_i f
   rw[am f]at e;exact Oper.quietIn_mono (xH h l) e
  .rename_i f
   rw[aq f]at e;exact xH h l _ e
theorem VK {d:Op} (h:jK d=true):qV d=false:=by cases d<;>first|rfl|(simp[jK]at h)
theorem Og (hT:TOk P T) (l:P.follows .mixedOrders=true) {cl:Bool} {call:gz R} (p:nN P call) {id:Nat} {ops:Array Oper} (f:KI ops=true) {K:St->Option R} {Q:Exit->Act->World->Prop}
  (h:iq T cl call ops K ops.toList st=a6 r) (hr:iM W0 b0 rd c st a ats) (q: ∀c' d e,K d=a6 r->iM W0 b0 rd c' d e ats->c.Mono c'->Q .normal e c'.w):
  (Code.region id ops true).wpIn (FW rd) n P Q a c.w:=by
 simp only[KI,af]at f;have g: ∀o∈ops.toList,jK o.op=true:=List.all_eq_true.1 f.1;refine I9 (C:=Gw c) (fun i o y=>VK (g o (by grind))) l f.2 ⟨rfl,rfl,rfl,ae _,fun _ _=>rfl⟩ ?_;refine xH (fun e s u j=> ?_) _ _ (Nb (n:=n) hT p ops ops.toList st a g h hr);obtain⟨d,v,x⟩:=s;exact q (c.at_ u) d e v (x.ext j) (Cx.Le.ext j).mono
end
end
section
open Option renaming some → a6, none → a7
open Bool renaming and_eq_true → af, false_eq_true → ah
open List renaming map_cons → ax
open Nat renaming le_refl → ae
open Go.RowKit
section
variable {P:Program} {T:TT} {W0:World} {b0 n:Nat} {rd:Option Nat} {c:Cx} {R:Type} {r:R} {st:St} {a:Act} {ats:List (Array Value)} {t:TypeId}
theorem aAN (hT:TOk P T) (V:c.Ok W0) {cl:Bool} {call:gz R} {o:Oper} {st:St} {a:Act} {K:bQ->St->Option R} (N:IP o.op=true) (I:c.hp=st.hp) (p:bJ c st.fr a.tmps.toList)
  (h:eF T cl call o st K=a6 r): ∃z u,K z st=a6 r/\bU c z u/\ ∀w',(execOp a.eval o).run P w'=.ok (.value u) w':=by
 have G: ∀{s:Sem Value} {u:Value} {w':World},s.run P w'=.ok u w'->(do pure (Next.value (<-s)):Sem Next).run P w'=.ok (.value u) w':=fun W=>by
  simp[Sem.run_bind,W]
 obtain⟨aw,X,ty,ay,az,aA⟩:=o;simp only at N;cases X<;>simp only[IP,ah]at N
 case move x=>exact⟨_,_,h,dR p x,fun w'=>rfl⟩
 case assign x=>exact⟨_,_,h,dR p x,fun w'=>rfl⟩
 case pick x y z=>
  simp only[eF]at h;have Y:=dR p x;split at h
  .rename_i b B
   rw[B]at Y;simp only[bU]at Y;have ad:=Y.bool_inv;cases b
   .exact⟨_,_,h,dR p z,fun w'=>by simp[execOp,ad,asBool]⟩
   .exact⟨_,_,h,dR p y,fun w'=>by simp[execOp,ad,asBool]⟩
  .cases h
 case nilCheck x=>
  simp only[eF]at h;have d:=dR p x;split at h
  .rename_i id ak J
   rw[J]at d;split at h
   .rename_i bt cs ag
    have O:=d;simp only[bU]at d;rw[<-I]at ag;have E:=d.2.2 _ _ ag;exact⟨_,_,h,O,fun w'=>by simp[execOp,E]⟩
   .cases h
  .rename_i y e J
   rw[J]at d;have O:=d;simp only[bU]at d;obtain⟨b,o,zs,E,_⟩:=d;exact⟨_,_,h,O,fun w'=>by simp[execOp,E]⟩
  .rename_i id an i ak J
   rw[J]at d;split at h
   .rename_i e u xs ai
    replace h:=dG h;obtain⟨h0,h⟩:=h;have h0:u=an:=by simpa using h0
    subst h0;have O:=d;simp only[bU]at d;rw[<-I]at ai;obtain⟨g,n,cp,_,E⟩:=(d.2.2 _ _ _ ai).2 rfl;exact⟨_,_,h,O,fun w'=>by simp[execOp,E]⟩
   .cases h
  .cases h
 case binOp X t x y yt=>
  simp only[eF]at h;rw[<-I]at h;obtain⟨z,u,j,q,A⟩:=avo (P:=P) (ox:=x) (oy:=y) (K:=fun v=>K v st) hT V h (dR p x) (dR p y);exact⟨z,u,j,q,fun w'=>G (A w')⟩
 case unOp X t x=>
  simp only[eF]at h;obtain⟨z,u,j,q,A⟩:=aID (P:=P) (K:=fun v=>K v st) h (dR p x);exact⟨z,u,j,q,fun w'=>G (A w')⟩
 case slice t x lo hi mx=>
  simp only[eF]at h;rw[<-I]at h;obtain⟨z,u,j,q,A⟩:=ak5 (P:=P) (K:=fun v=>K v st) hT V h (dR p x) (lL.map p lo) (lL.map p hi) (lL.map p mx);exact⟨z,u,j,q,fun w'=>G (A w')⟩
 case fieldAddr t x f=>
  simp only[eF]at h;rw[<-I]at h;obtain⟨z,u,j,q,A⟩:=O1 (P:=P) (K:=fun v=>K v st) hT h (dR p x);exact⟨z,u,j,q,fun w'=>G (A w')⟩
 case field t x f=>
  simp only[eF]at h;obtain⟨z,u,j,q,A⟩:=ak3 (P:=P) (K:=fun v=>K v st) hT h (dR p x);exact⟨z,u,j,q,fun w'=>G (A w')⟩
 case indexAddr t x i=>
  simp only[eF]at h;rw[<-I]at h;obtain⟨z,u,j,q,A⟩:=O3 (P:=P) (K:=fun v=>K v st) hT V h (dR p x) (dR p i);exact⟨z,u,j,q,fun w'=>G (A w')⟩
 case index t x i=>
  simp only[eF]at h;split at h
  .rename_i s n W Z
   replace h:=gy h;obtain⟨j,h⟩:=h;have d:=dR p x;rw[W]at d;obtain⟨q,A⟩:=ak4 (P:=P) hT d (dR p i) Z j;exact⟨_,_,h,q,fun w'=>G (A w')⟩
  .cases h
 case extract x n=>
  simp only[eF]at h;have d:=dR p x;split at h
  .rename_i l hl
   rw[hl]at d;split at h
   .rename_i v E
    simp only[bU]at d;obtain⟨vs,J,aj⟩:=d;obtain⟨Z,E⟩:=List.getElem?_eq_some_iff.1 E;have ao:=bJ.length _ _ aj;simp at ao;have j:=bJ.get _ _ aj n Z (by simp;omega);rw[E]at j;simp only[Array.getElem_toList]at j;refine⟨_,_,h,j,fun w'=>G ?_⟩;rw[J];have:vs[n]? =a6 vs[n]:=Array.getElem?_eq_getElem (by omega);simp[Instr.extract,this]
   .cases h
  .cases h
 case call cc=>
  obtain⟨aB,S,au⟩:=cc;simp only at N;have D:=bJ.map_eval (c:=c) p S.toList;split at N
  all_goals try (cases N;done)
  .
   simp only[eF,jZ]at h;split at h<;>try (cases h;done)
   .rename_i x B d
    split at h<;>try (cases h;done)
    rename_i t ht
    rw[<-I]at h;obtain⟨M,av⟩: ∃M,S= #[M]:=by
     obtain⟨l⟩:=S
     match l,d with
     |[M],_=>exact⟨M,rfl⟩
    subst av;obtain⟨t0⟩:=au;simp only at ht;subst ht;simp only[ax,List.map_nil,List.cons.injEq,and_true]at d;subst d;obtain⟨z,u,j,q,A⟩:=q_len (P:=P) (K:=fun v=>K v st) hT V h (dR p M) (ty:=ty);exact⟨z,u,j,q,fun w'=>by simp[execOp,resolve,invoke,builtin,Sem.run_bind,A w']⟩
   all_goals (rename_i B _;cases B)
  .
   simp only[eF,jZ]at h;split at h<;>try (cases h;done)
   all_goals try (rename_i B _;cases B;done)
   rename_i k n l B d
   split at h<;>try (cases h;done)
   rename_i ns ab
   rw[d]at D;obtain⟨U⟩:=S;cases U with
   |nil=>simp[bJ]at D
   |cons M U=>
    simp only[ax,bJ]at D;have h0:=D.1;simp only[bU]at h0;have j:=h0.int_inv;have q:=uf _ _ _ ab D.2;exact⟨_,_,h,by simp only[bU];exact VD.int_mk,fun w'=>by simp[execOp,resolve,invoke,builtin,Sem.run_bind,Builtin.min_,j,q,UE]⟩
  .
   simp only[eF,jZ]at h;split at h<;>try (cases h;done)
   all_goals try (rename_i B _;cases B;done)
   rename_i k n l B d
   split at h<;>try (cases h;done)
   rename_i ns ab
   rw[d]at D;obtain⟨U⟩:=S;cases U with
   |nil=>simp[bJ]at D
   |cons M U=>
    simp only[ax,bJ]at D;have h0:=D.1;simp only[bU]at h0;have j:=h0.int_inv;have q:=uf _ _ _ ab D.2;exact⟨_,_,h,by simp only[bU];exact VD.int_mk,fun w'=>by simp[execOp,resolve,invoke,builtin,Sem.run_bind,Builtin.max_,j,q,UD]⟩
def iU {e:Type} (x:Sem e):Prop:= ∀P w v d,x.run P w=.ok v d->Below w.heap.size w d
theorem iU.pure {d:Type} (v:d):iU (pure v:Sem d):=fun P w v e h=>by simp_all [Below.refl]
theorem iU.looks {d:Type} {x:Sem d} (h:x.Looks):iU x:=fun P w v e hr=>by rw[h.ok hr];exact Below.refl _ _
theorem iU.bind {g j:Type} {x:Sem g} {f:g->Sem j} (hx:iU x) (hf: ∀a,iU (f a)):iU (x>>=f):=fun P w v l h=>by
 rw[Sem.run_bind]at h;cases hr:x.run P w with
 |halt e d=>simp_all
 |ok u d=>
  rw[hr,Result.andThen_ok]at h;have i:=hx P w u d hr;exact i.trans ((hf u P d v l h).mono i.size)
theorem iU.never {d:Type} {x:Sem d} (h: ∀P w v w',x.run P w≠ .ok v w'):iU x:=fun P w v w' hr=>absurd hr (h P w v w')
theorem iU.new (o:Obj):iU (newObj o):=fun P w v d h=>by
 have e:(newObj o).run P w=.ok w.heap.size (w.alloc o):=rfl;rw[e]at h;cases h;exact(Below.refl _ _).alloc (ae _) o
theorem vg (t:TypeId):iU (underlying t):=.looks (underlying_looks t)
theorem agL (t:TypeId):iU (typeInfo t):=.looks (typeInfo_looks t)
theorem SX (t:TypeId):iU (sizeOf t):=.looks (sizeOf_looks t)
theorem qj {d:Type} (s:String):iU (stuck s:Sem d):=.looks (stuck_looks s)
theorem GR {d:Type} (u:Unsupported):iU (unsupported u:Sem d):=.looks (unsupported_looks u)
theorem ajs (t:TypeId):iU (isAgg t):=by
 unfold isAgg;refine(vg t).bind fun d=> ?_;split<;>exact .pure _
theorem adC (t:TypeId):iU (zeroValue t):=by
 unfold zeroValue;refine(agL t).bind fun d=> ?_;split
 .exact .pure _
 .exact GR _
theorem agK (v:Value):iU (Instr.sureAddr v):=by
 unfold Instr.sureAddr;split
 .exact .pure _
 .exact qj _
theorem anT (t:TypeId) (a:Addr):iU (loadVar t a):=by
 unfold loadVar;refine(ajs t).bind fun d=> ?_;split
 .exact(SX t).bind fun k=>(iU.looks (loadCells_looks a k)).bind fun _=>.pure _
 .exact .looks (load_looks _ _)
theorem anR (v:Value):iU (asIntOf v):=by
 unfold asIntOf;split
 .exact .pure _
 .exact GR _
 .exact qj _
theorem asX (v:Value):iU (asBool v):=by
 unfold asBool;split
 .exact .pure _
 .exact qj _
theorem TV {d g:Type} {x:Sem d} {f:d->Sem g} (hf: ∀a P w v w',(f a).run P w≠ .ok v w'): ∀P w v w',(x>>=f).run P w≠ .ok v w':=fun P w v w' h=>by
 rw[Sem.run_bind]at h;cases hr:x.run P w with
 |halt e i=>simp_all
 |ok u i=>simp_all
theorem VA {d:Type} (v:Value): ∀P w u w',(goPanic v:Sem d).run P w≠ .ok u w':=fun P w u w' h=>by cases h
theorem IA {d:Type} (e:RuntimeError): ∀P w u w',(runtimePanic e:Sem d).run P w≠ .ok u w':=by
 grind [runtimePanic,TV,VA]
theorem Vt {d:Type} (k:IntKind) (x y:Int) (code:BoundsCode):iU (boundsPanic k x y code:Sem d):=by
 unfold boundsPanic;dsimp only;split<;>exact .never (TV fun _=>IA _)
theorem adA (e:TypeId) (cs:Array Value):iU (newRow e cs):=by
 unfold newRow;exact(iU.new _).bind fun _=>.pure _
theorem aDS (t:TypeId) (cs:Array Value) (off:Nat):iU (part t cs off):=by
 unfold part;refine(ajs t).bind fun b=> ?_;split
 .exact(SX t).bind fun _=>.pure _
 .split
  .exact .pure _
  .exact qj _
theorem asZ (t:TypeId) (v:Value):iU (Instr.loadAt t v):=by
 unfold Instr.loadAt;exact(agK v).bind fun a=>anT t a
theorem anS (t:Value) (i:Nat):iU (Instr.extract t i):=by
 unfold Instr.extract;split
 .split
  .exact .pure _
  .exact qj _
 .exact qj _
theorem ayG (t:TypeId) (x i:Value):iU (Instr.index t x i):=by
 unfold Instr.index;refine(anR i).bind fun e=> ?_;refine(vg t).bind fun d=> ?_
 repeat' first
  |exact Vt _ _ _ _
  |exact qj _
  |exact .pure _
  |exact(SX _).bind fun _=>aDS _ _ _
  |split
  |dsimp only
theorem aHI (t:TypeId) (v:Value):iU (Instr.box t v):=by
 unfold Instr.box newVar;exact(adA _ _).bind fun _=>.pure _
theorem ayF (t:TypeId):iU (Instr.alloc t true (.tuple #[])):=by
 unfold Instr.alloc;refine(adC t).bind fun z=> ?_;dsimp only;unfold newVar;exact(adA _ _).bind fun _=>.pure _
theorem YP (r:Nat):(getObj r).Looks:=fun _=>trivial
theorem adz (r:Nat):iU (getObj r):=.looks (YP r)
theorem ayH (r:Nat):iU (Go.shape r):=.looks (fun _=>trivial)
theorem as1 (r:Nat):iU (viewAt r):=by
 unfold viewAt
 repeat' first
  |exact .pure _
  |exact ayH _
  |exact adz _
  |(refine iU.bind ?_ fun _=> ?_)
  |split
  |dsimp only
theorem asY (t:TypeId):iU (elemOf t):=by
 unfold elemOf;refine(vg t).bind fun d=> ?_;split
 .exact .pure _
 .exact qj _
theorem aHJ (d:Array TypeId) (ty:TypeId) (args:Array Value):iU (Builtin.len_ d ty args):=by
 unfold Builtin.len_
 repeat' first
  |exact .pure _
  |exact qj _
  |exact vg _
  |exact adz _
  |(refine iU.bind ?_ fun _=> ?_)
  |split
  |dsimp only
theorem adB (d:Array TypeId) (ty:TypeId) (args:Array Value):iU (Builtin.unsafeSliceData_ d ty args):=by
 obtain⟨l⟩:=args
 match l with
 |[]=>exact qj _
 |_::_::_=>exact qj _
 |[v]=>
  cases v with
  |slice a n c=>
   cases a with
   |none=>exact iU.pure _
   |some a=>
    have e:Builtin.unsafeSliceData_ d ty #[.slice (a6 a) n c]=(do
      if c≠0 then pure (.pointer (a6 a))
      else if(<-viewAt a.block).isSome then pure (.pointer (a6 a))
      else pure (.pointer (a6 ⟨<-newObj (.view a (<-elemOf ty)),0,a7⟩))):=rfl
    rw[e]
    repeat' first
     |exact .pure _
     |exact as1 _
     |exact asY _
     |exact iU.new _
     |(refine iU.bind ?_ fun _=> ?_)
     |split
     |dsimp only
  |_=>exact qj _
theorem agU {o:Oper} (hk:PP o.op=true) (d:Operand->Value) (P:Program) (w:World) (v:Next) (w':World) (h:(execOp d o).run P w=.ok v w'):(∃u,v=.value u)/\Below w.heap.size w w':=by
 have f: ∀{s:Sem Value},iU s->(do pure (Next.value (<-s)):Sem Next).run P w=.ok v w'->(∃u,v=.value u)/\Below w.heap.size w w':=fun {s} E h=>by
  rw[Sem.run_bind]at h;cases hr:s.run P w with
  |halt e G=>simp_all
  |ok u G=>
   rw[hr,Result.andThen_ok,Sem.run_pure]at h;cases h;exact⟨⟨u,rfl⟩,E P w u w' hr⟩
 obtain⟨l,I,g,p,q,A⟩:=o;simp only at hk;cases I<;>simp only[PP,ah]at hk
 case move x=>cases h;exact⟨⟨_,rfl⟩,Below.refl _ _⟩
 case assign x=>cases h;exact⟨⟨_,rfl⟩,Below.refl _ _⟩
 case pick x y z=>
  have e:execOp d ⟨l,.pick x y z,g,p,q,A⟩=(do pure (Next.value (<-(do pure (if<-asBool (d x)then d y else d z):Sem Value))):Sem Next):=by
   simp[execOp,bind_assoc]
  rw[e]at h;exact f ((asX _).bind fun _=>.pure _) h
 case load t x=>exact f (asZ t (d x)) h
 case index t x i=>exact f (ayG t (d x) (d i)) h
 case extract x i=>exact f (anS (d x) i) h
 case box t x=>exact f (aHI t (d x)) h
 case alloc t=>exact f (ayF t) h
 case call cc=>
  obtain⟨B,j,D⟩:=cc;cases B with
  |builtin b=>
   cases b<;>simp only[ah]at hk
   case len=>
    grind [execOp,builtin,resolve,invoke,aHJ]
   case unsafeSliceData=>
    have e:execOp d ⟨l,.call {callee:=.builtin .unsafeSliceData,args:=j,argTypes:=D},g,p,q,A⟩=(do pure (Next.value (<-Builtin.unsafeSliceData_ D g (j.map d))):Sem Next):=by
     rfl
    grind [adB]
  |_=>simp at hk
theorem oP {ops:Array Oper} (h:mP ops=true) (i:Nat) (o:Oper) (d:ops[i]? =a6 o):qV o.op=false/\ ∀cs b,o.op≠ .select cs b:=by
 have:=List.all_eq_true.1 h o (by grind)
 grind [qV]
def qh (P:Program) (ops:Array Oper) (C:World->Prop) (o:Oper) (v:Value) (a:Act):Prop:=
 (Region.wanted o (yielded ops a.tmps)=true/\ ∀w,C w->(execOp a.eval o).run P w=.ok (.value v) w)\/(Region.wanted o (yielded ops a.tmps)=false/\v=undef)
def XW (P:Program) (C:World->Prop) (o:Oper):Prop:=(∀w,C w)\/ ∀e w v d,C w->(execOp e o).run P w=.ok v d->(∃u,v=.value u)/\C d
variable {ops:Array Oper} {C:World->Prop} {Q:Exit->Act->World->Prop}
theorem qh.of_same {o:Oper} {v:Value} {a d:Act} (h:qh P ops C o v a) (i:execOp d.eval o=execOp a.eval o)
  (f:Region.wanted o (yielded ops d.tmps)=Region.wanted o (yielded ops a.tmps)):qh P ops C o v d:=by
 rcases h with ⟨e,g⟩|⟨e,g⟩
 .exact .inl ⟨by rw[f];exact e,fun w j=>by simp_all⟩
 .exact .inr ⟨by rw[f];exact e,g⟩
theorem qh.wpOpIn {i:Nat} {o:Oper} {v:Value} {a:Act} (hd:mP ops=true) (hi:ops[i]? =a6 o) (e:qh P ops C o v a) {K:Act->World->Prop} {w:World} (f:C w) (h:K (a.put o.dst v) w):wpOpIn (FW rd) n P ops Q i K a w:=by
 unfold Go.wpOpIn;simp only[hi];rcases e with ⟨d,g⟩|⟨d,rfl⟩
 .rw[am d];refine⟨qO o w _, ?_⟩;rw[xw (oP hd i o hi).1,g w f];exact h
 .rw[aq (by rw[d];simp)]
  grind [qO]
theorem afE {j:Nat} {e g:Oper} {v:Value} (hd:mP ops=true) (hi: ∃i:Nat,ops[i]? =a6 e) (p:ops[j]? =a6 g) (A:e.apart ops g=true) (B:XW P C g) (I: ∀c a w,¬Q (.panic c) a w) {K:Act->World->Prop} {a:Act} {w:World} (J:C w)
  (l:qh P ops C e v a) (h:wpOpIn (FW rd) n P ops Q j K (a.put e.dst v) w):wpOpIn (FW rd) n P ops Q j (fun q w'=>C w'/\qh P ops C e v q/\K (q.put e.dst v) w') a w:=by
 obtain⟨s,M,y⟩:=Oper.apart_spec A;obtain⟨i,hi⟩:=hi;have D:=(oP hd i e hi).2;obtain⟨z,E⟩:=oP hd j g p;have N: ∀(a:Act),qh P ops C e v a-> ∀u,qh P ops C e v (a.put g.dst u):=fun a l u=>l.of_same (execOp_put e D a g.dst u y) (wanted_put e a g.dst u y);unfold wpOpIn at*;simp only[p]at*;rw[wanted_put g a e.dst v s]at h;split
 .rename_i o
  rw[am o]at h;unfold Oper.wpIn at*;refine⟨qO g w _, ?_⟩;have h:=h.2;rw[xw z,execOp_put g E a e.dst v s]at h;rw[xw z];have hk:(∀w,C w)\/ ∀x w',(execOp a.eval g).run P w=.ok x w'->(∃u,x=.value u)/\C w':=by
   rcases B with hk|hk
   all_goals grind
  generalize (execOp a.eval g).run P w=r at*;cases r with
  |ok x w'=>
   have G:(∀w,C w)\/((∃u,x=.value u)/\C w'):=by
    simp_all
   cases x<;>simp only[Oper.uponIn]at h ⊢
   case value u=>
    grind [Act.put_comm]
   case skip=>
    grind [Act.put_comm]
   case defer d=>
    rcases G with hk|hk
    .have O: ∀d,qh P ops C e v {a with defers:=d::a.defers}:=fun d=>l.of_same rfl rfl
     grind [Act.put_comm,Act.put_defers]
    simp_all
   case enter f args=>
    grind [Act.put_comm]
   case row row args=>
    grind [Act.put_comm]
   grind [Act.put_comm]
  |halt x w'=>
   cases x<;>simp only[Oper.uponIn]at h ⊢;simp_all
 .rename_i o
  rw[aq o]at h
  grind [qO,Act.put_comm]
theorem MS {l:List Nat} {i:Nat}:WR l i=true↔i∈l:=by
 simp_all [WR]
theorem EQ {i:Nat} {p:Oper} {v:Value} (hd:mP ops=true) (hi:ops[i]? =a6 p) (B: ∀c a w,¬Q (.panic c) a w) (D:List Nat) (E: ∀j∈D,j≠i->EP ops j D=true):
  ∀(q:Nat) (d:Array Bool) (a:Act) (w:World),C w->(∀j∈D,d.getD j true=false)->
   (∀j o,ops[j]? =a6 o->j∉D->d.getD j true=false->p.apart ops o=true/\XW P C o)->i∈D->
   i∈Region.ready .any ops d->qh P ops C p v a->
   wpAnyIn (FW rd) n P .any ops Q q (d.setIfInBounds i true) (a.put p.dst v) w->wpAnyIn (FW rd) n P .any ops Q (q+1) d a w:=by
 have G: ∀(d:Array Bool) (j:Nat),(∀j∈D,d.getD j true=false)->j∈Region.ready .any ops d->j≠i->j∉D:=fun d j hl l f s=>by
  have g:=E j s f;unfold EP at g;obtain⟨_,o,u,I⟩:=mem_ready.1 l;rw[u]at g;obtain⟨e,he,J⟩:=Array.any_eq_true'.1 g;simp only[af]at J
  grind [MS]
 intro q
 induction q with
 |zero=>
  intro d a w g hl _ y hr x H;refine⟨fun h=>(by simp_all),fun j l=> ?_⟩;by_cases f:j=i
  .subst f;exact x.wpOpIn hd hi g H
  .have:=ready_mono l f;rw[H.1]at this;cases this
 |succ q K=>
  intro d a w g hl z y hr x H;refine⟨fun h=>(by simp_all),fun j l=> ?_⟩;by_cases f:j=i
  .subst f;exact x.wpOpIn hd hi g H
  .have M:=H.2 j (ready_mono l f);have s:=G d j hl l f;obtain⟨N,o,u,I⟩:=mem_ready.1 l;obtain⟨O,S⟩:=z j o u s N;have U:=afE hd ⟨i,hi⟩ u O S B g x M;have V: ∀k∈D,(d.setIfInBounds j true).getD k true=false:=fun k hk=>by
    rw[getD_set_ne true (fun e=>s (by rw[e];exact hk))];exact hl k hk
   have W: ∀k ok,ops[k]? =a6 ok->k∉D->(d.setIfInBounds j true).getD k true=false->p.apart ops ok=true/\XW P C ok:=fun k ok hk X ab=>by
    refine z k ok hk X ?_;by_cases hjk:j=k
    all_goals simp_all
   refine wpOpIn_mono (fun Y Z A=>K (d.setIfInBounds j true) Y Z A.1 V W y (ready_mono hr (Ne.symm f)) A.2.1 ?_) U;simp_all [Array.setIfInBounds_comm]
theorem JC {cl:Bool} {call:gz R} {K:St->Option R} (o:Oper) (l:List Oper) (st:St):iq T cl call ops K (o::l) st=iq T cl call ops (iq T cl call ops K l) [o] st:=by
 simp only[iq]
theorem aeN {cl:Bool} {call:gz R} {K:St->Option R} {o:Oper} (h:iq T cl call ops K [o] st=a6 r) (hr:iM W0 b0 rd c st a ats):
  (Region.wanted o (yielded ops a.tmps)=true/\ ∃st1,iM W0 b0 rd c st1 a ats/\eF T cl call o st1 (fun v st=>K (st.put o.dst v))=a6 r)\/
  (Region.wanted o (yielded ops a.tmps)=false/\ ∃st1,iM W0 b0 rd c st1 (a.put o.dst undef) ats/\K st1=a6 r):=by
 simp only[iq]at h;have y: ∀(st:St),iM W0 b0 rd c st a ats->iM W0 b0 rd c (st.put o.dst (.tup [])) (a.put o.dst undef) ats:=fun st hr=>hr.put (by simp only[bU];exact⟨#[],rfl,by simp[bJ]⟩);cases hg:o.guard with
 |none=>
  grind [Region.wanted]
 |some l=>
  obtain⟨j,p⟩:=l;rw[hg]at h;simp only at h;split at h
  .cases h
  .rename_i d hd
   have f:=Ja ops j d hd a.tmps;have e:=hr.fr.getD d;have q:=bJ.length _ _ hr.fr;rw[Array.length_toList]at q;split at h
   .rename_i b g
    rw[g]at e;simp only[bU]at e;have s:=e.bool_inv;have A:d<a.tmps.size:=by
     grind
    have i:a.tmps[d]? =a6 (.bool b):=by
     simp_all
    rw[i]at f;simp only at f;have u:a.put (a6 d) (.bool b)=a:=by
     simp only[Act.put];obtain⟨B,D⟩:=Array.getElem?_eq_some_iff.1 i;have:a.tmps.setIfInBounds d (.bool b)=a.tmps:=by
      grind
     rw[this]
    have E:iM W0 b0 rd c (st.put (a6 d) (.val .bool b)) a ats:=by
     have:=hr.put (dst:=a6 d) (z:=.val .bool b) (v:=.bool b) (by simp_all [bU]);rwa [u]at this
    cases b<;>cases p<;>(try simp only[aa,ac]at h)
    .grind [Region.wanted]
    .grind [Region.wanted]
    .grind [Region.wanted]
    grind [Region.wanted]
   .rename_i g
    rw[g]at e;simp only[bU]at e;obtain⟨G,s,_⟩:=e;have I:yielded ops a.tmps j=a7:=by
     rw[f];cases he:a.tmps[d]? with
     |none=>rfl
     |some x=>
      simp_all
    grind [Region.wanted]
   .cases h
theorem afx {e:Array Bool} {i:Nat} {pure:Bool} {f:Oper} (hi:ops[i]? =a6 f) (h:U3 ops e i pure=true): ∃D:List Nat,i∈D/\(∀j∈D,e.getD j true=false)/\(∀j∈D,j≠i->EP ops j D=true)/\
  ∀j d,ops[j]? =a6 d->j∉D->e.getD j true=false->f.apart ops d=true/\(pure=true\/PP d.op=true):=by
 unfold U3 at h;rw[hi]at h;simp only[af]at h;obtain⟨l,o,p⟩:=h;refine⟨_,MS.1 l,fun j g=> ?_,fun j g s=> ?_,fun j d q u hl=> ?_⟩
 .simp_all
 .have:=List.all_eq_true.1 o j g;simp_all
 .have:=List.all_eq_true.1 p j (List.mem_range.2 (Array.getElem?_eq_some_iff.1 q).1);simp_all [MS]
theorem WY {f:Op->Bool} {i:Nat} (h:ahe ops f i=true): ∃o,ops[i]? =a6 o/\f o.op=true:=by
 grind [ahe]
theorem ah2 {d:Op} (h:IP d=true):iD d=true:=by
 cases d<;>simp_all [IP,iD,jK]
theorem Et (hT:TOk P T) {cl:Bool} {call:gz R} (G:mg P W0 n call) (hd:mP ops=true) {K:St->Option R} {Q:Act->World->Prop}:
  ∀(o:Nat) (g:Array Bool) (l:List Nat) (c:Cx) (st:St) (a:Act),uG ops o g=a6 l->iq T cl call ops K (l.filterMap fun i=>ops[i]?) st=a6 r->iM W0 b0 rd c st a ats->
   (∀c' N U,K N=a6 r->iM W0 b0 rd c' N U ats->c.Mono c'->Q U c'.w)->wpAnyIn (FW rd) n P .any ops (fun e a w=>e=.normal/\Q a w) o g a c.w
 |0,g,l,c,st,a,d,h,hr,A=>by
  simp only[uG]at d;rw[cond_eq_ite]at d;split at d
  .rename_i he
   cases d;simp only[List.filterMap_nil,iq]at h;exact⟨by simpa using he,rfl,A c st a h hr (Cx.Mono.refl c)⟩
  .cases d
 |o+1,g,l,c,st,a,d,h,hr,A=>by
  have V: ∀c (a:Act) (w:World),¬(Exit.panic c=.normal/\Q a w):=fun c a w h=>by cases h.1
  have take: ∀(i:Nat) (s:Bool) (q:List Nat),i∈Region.ready .any ops g->(if s then ahe ops IP i=true else ahe ops iD i=true)->U3 ops g i s=true->uG ops o (g.setIfInBounds i true)=a6 q->
    iq T cl call ops K ((i::q).filterMap fun i=>ops[i]?) st=a6 r->wpAnyIn (FW rd) n P .any ops (fun e a w=>e=.normal/\Q a w) (o+1) g a c.w:=fun i s q W av ai I h=>by
   obtain⟨p,O,hq,aj⟩: ∃p,ops[i]? =a6 p/\iD p.op=true/\(s=true->IP p.op=true):=by
    grind [WY,ah2]
   obtain⟨D,X,Y,Z,d4⟩:=afx O ai;simp only[List.filterMap_cons,O]at h;rw[JC]at h;have ab: ∀j J,ops[j]? =a6 J->j∉D->g.getD j true=false->p.apart ops J=true/\XW P (fun w=>s=true\/Gw c w) J:=fun j J ak al hl=>by
    obtain⟨e1,M⟩:=d4 j J ak al hl;refine⟨e1, ?_⟩;rcases M with M|M
    .exact .inl fun w=>.inl M
    .refine .inr fun ρ w v w' E hx=> ?_;obtain⟨hu,hb⟩:=agU M ρ P w v w' hx;exact⟨hu,E.imp (fun h=>h) fun E=>E.trans (hb.mono E.size)⟩
   have ad:s=true\/Gw c c.w:=.inr (Below.refl _ _);rcases aeN h hr with ⟨x,B,f,y⟩|⟨x,B,f,y⟩
   .have hy: ∃z u,iq T cl call ops K (q.filterMap fun i=>ops[i]?) (B.put p.dst z)=a6 r/\bU c z u/\qh P ops (fun w=>s=true\/Gw c w) p u a:=by
     cases s with
     |true=>
      obtain⟨z,u,k1,k2,k3⟩:=aAN hT f.ok (aj rfl) f.hp f.fr y;exact⟨z,u,k1,k2,.inl ⟨x,fun w _=>k3 w⟩⟩
     |false=>
      obtain⟨z,u,k1,k2,k3⟩:=Ai hT f.ok hq f.hp f.fr y;exact⟨z,u,k1,k2,.inl ⟨x,fun w E=>k3 w (E.resolve_left (by simp))⟩⟩
    obtain⟨z,u,k1,k2,k3⟩:=hy;exact EQ hd O V D Z o g a c.w ad Y ab X W k3 (Et hT G hd o _ q c (B.put p.dst z) (a.put p.dst u) I k1 (f.put k2) A)
   .exact EQ hd O V D Z o g a c.w ad Y ab X W (.inr ⟨x,rfl⟩) (Et hT G hd o _ q c B (a.put p.dst undef) I y f A)
  simp only[uG]at d;split at d
  .rename_i S
   cases d;simp only[List.filterMap_nil,iq]at h;exact⟨fun _=>⟨rfl,A c st a h hr (Cx.Mono.refl c)⟩,by rw[S];simp⟩
  .rename_i k rs S
   split at d
   .grind
   .split at d
    .grind
    .split at d
     .split at d
      .rename_i q I
       cases d;obtain⟨_,ok,ag,_⟩:=mem_ready.1 (show k∈Region.ready .any ops g by rw[S];simp);simp only[List.filterMap_cons,ag]at h;rw[JC]at h;refine wpAnyIn_all S (by simp) fun j hj=> ?_;obtain rfl:j=k:=by simpa using hj
       unfold wpOpIn;simp only[ag];rcases aeN h hr with ⟨x,B,f,y⟩|⟨x,B,f,y⟩
       .rw[am x];exact Uc hT G y f fun c' z u N k1 k2 k3 k4=>Et hT G hd o _ q c' (N.put ok.dst z) (a.put ok.dst u) I k1 (k2.put k3) fun an ao au q1 q2 q3=>A an ao au q1 q2 (k4.trans q3)
       .rw[aq (by rw[x];simp)];exact⟨qO ok c.w _,Et hT G hd o _ q c B (a.put ok.dst undef) I y f A⟩
      .cases d
     .cases d
theorem VJ (hT:TOk P T) (i:P.follows .mixedOrders=true) {cl:Bool} {call:gz R} (j:mg P W0 n call) {id:Nat} {l:List Oper} (hp:ahY ops=a6 l) {K:St->Option R} {Q:Exit->Act->World->Prop}
  (h:iq T cl call ops K l st=a6 r) (hr:iM W0 b0 rd c st a ats) (o: ∀c' d f,K d=a6 r->iM W0 b0 rd c' d f ats->c.Mono c'->Q .normal f c'.w):
  (Code.region id ops true).wpIn (FW rd) n P Q a c.w:=by
 unfold ahY at hp;rw[cond_eq_ite]at hp;split at hp
 .rename_i hd
  split at hp
  .rename_i p q
   cases hp;have g:Gw c {c.w with drawn:=c.w.drawn+1}:=⟨rfl,rfl,rfl,ae _,fun _ _=>rfl⟩;have s:=Et (Q:=fun a w=>Q .normal a w) hT j hd ops.size _ p (c.at_ {c.w with drawn:=c.w.drawn+1}) st a q h (hr.ext g) fun c' d f k1 k2 k3=>o c' d f k1 k2 ((Cx.Le.ext g).mono.trans k3);exact Code.wpIn_mono (fun e a w u=>by simp_all) (wpIn_region_any i s)
  .cases hp
 .cases hp
end
end
section
open Option renaming some → a6, none → a7
open List renaming mem_cons_of_mem → ak
open Nat renaming lt_of_lt_of_le → bi
open Go.RowKit
def uX {R:Type} (P:Program) (W0:World) (j:nG R):Prop:=
 ∀(f:FuncId) (g:List bQ) (st:St) (K:bQ->St->Option R) (r:R),j (.call f g) st K=a6 r->
  ∀(b0:Nat) (rd:Option Nat) (c:Cx) (a:Act) (ats:List (Array Value)) (d:Array Value),iM W0 b0 rd c st a ats->bJ c g d.toList->
   ∀h:Ending->World->Prop,(∀e z u i,K z i=a6 r->iM W0 b0 rd e i a ats->bU e z u->c.Mono e->h (.returned u) e.w)->
    (callFunc f d).run P c.w=.ok (.enter f d) c.w/\Calls P f d c.w h
section
variable {P:Program} {T:TT} {W0:World} {b0 n:Nat} {rd:Option Nat} {c:Cx} {R:Type} {r:R} {st:St} {a:Act} {ats:List (Array Value)}
def Ex.xt:Ex->Exit
 |.normal=>.normal
 |.exit i=>.exit i
 |.goto l=>.goto l
 |.ret=>.ret
section
variable {F:Fence} {b:Frame} {k:List Item} {cs:List Frame} {w:World} {Q:Exit->Act->World->Prop}
theorem qL {x:Code}:step P (lone (b.atR a (.code (.scope x)::k)) cs w)=.next (lone (b.atR a (.code x:: .inScope x::k)) cs w):=
 step_lone_go (by rfl)
theorem VR {x:Code}:step P (lone (b.atR a (.inScope x::k)) cs w)=.next (lone (b.atR a k) cs w):=
 step_lone_go (by rfl)
theorem aip {x:Code} (h:x.wpIn F n P (fun e a w=>(∀l,e≠ .goto l)/\Q e a w) a w):(Code.scope x).wpIn F n P Q a w:=by
 intro b k cs q j hr;have h0:(lone (b.atR a (.code (.scope x)::k)) cs w).fenced P F:=fenced_calm j hr rfl;obtain⟨e,f,g,⟨A,i⟩,d⟩:=h b (.inScope x::k) cs q j hr;cases e with
 |normal=>exact⟨.normal,f,g,i,.head h0 qL (StepsIn.trans d (.one (fenced_calm j hr rfl) VR))⟩
 |exit o=>
  have p:exitTo o (.inScope x::k)=exitTo o k:=by simp[exitTo]
  exact⟨.exit o,f,g,i,fun s hk=>.head h0 qL (d.1 s (by rw[p];exact hk)),
   fun u hk=>let⟨v,y,z⟩:=d.2 u (by rw[p];exact hk);⟨v,y,.head h0 qL z⟩⟩
 |goto l=>simp_all
 |ret=>exact⟨_,f,g,i,.of_steps (.one h0 qL) d⟩
 |panic B=>exact⟨_,f,g,i,.of_steps (.one h0 qL) d⟩
 |outgrown=>exact⟨_,f,g,i,.of_steps (.one h0 qL) d⟩
end
theorem auR (d:c.Ok W0):c.Le {c with w:=c.w.alloc (.deferred (a6 [])),mks:=c.w.heap.size::c.mks}/\({c with w:=c.w.alloc (.deferred (a6 [])),mks:=c.w.heap.size::c.mks}:Cx).Ok W0:=by
 have f:=nX c.w (.deferred (a6 []));have j:c.Le {c with w:=c.w.alloc (.deferred (a6 [])),mks:=c.w.heap.size::c.mks}:=
  ⟨fun b g=>⟨⟨bi g.1 f.size,g.2.1,by
    intro l;rcases List.mem_cons.1 l with e|e
    .have:=g.1;omega
    .exact g.2.2 e⟩,f.block b g.1⟩,fun _ h=>h,fun id o _ i=>⟨o,i,o.like_refl _⟩,fun r hr=>ak _ hr,fun b L hL=>⟨L,(f.block b (Array.getElem?_eq_some_iff.1 hL).1).trans hL⟩,f.size,rfl⟩
 refine⟨j,⟨d.bel.trans (f.mono d.size),fun id o i=>(d.obj id o i).le j rfl fun b p=>f.block b ((d.obj id o i).lt p).2,d.inj,fun r hr=> ?_,fun b f=>(j.out b (d.bar b f)).1,d.phi⟩⟩;rcases List.mem_cons.1 hr with e|e
 .subst e;exact⟨d.size,World.alloc_heap_new _ _⟩
 .exact⟨(d.mks r e).1,(f.block r (d.mark_lt e)).trans (d.mks r e).2⟩
theorem aFe (g:c.Ok W0) {st:St} (h:c.hp=st.hp) (h2:c.nxt=st.nxt) {id n':Nat} (j:dO st.hp id=a7) (p:st.nxt<=id) (x:st.nxt<=n') {f:FuncId} {fr:List bQ} {L:Loop} (q:bJ c fr L.tmps.toList) (s:L.state=.ready) (hp:L.pending=a7) {d:Option Nat} (u: ∀k,d=a6 k->rH f k=a6 (L.assign,L.body)):
  ∃c',AQ W0 c st c' {st with hp:=(id,.lp f fr L.params.toList L.assign L.body d 0 a7)::st.hp,nxt:=n'}/\c'.w=c.w.alloc (.loop L)/\bU c' (.yld id) (.func (.yield c.w.heap.size) #[] #[])/\c'.mks=c.mks:=by
 have hk:=Ag h h2 j p;have e:=nX c.w (.loop L);have hl: ∀b,dL.blk (.lp f fr L.params.toList L.assign L.body d 0 a7) ⟨c.w.heap.size,undef⟩=a6 b->c.w.heap.size<=b:=fun b e=>by
  simp_all [dL.blk]
 have i:=Cx.Le.push (o:=.lp f fr L.params.toList L.assign L.body d 0 a7) (l:=⟨c.w.heap.size,undef⟩) (nxt:=n') (w:=c.w.alloc (.loop L)) hk (by omega) e.size e.block hl;have v:(c.push id (.lp f fr L.params.toList L.assign L.body d 0 a7) ⟨c.w.heap.size,undef⟩ n' (c.w.alloc (.loop L))).ORel W0.heap.size id (.lp f fr L.params.toList L.assign L.body d 0 a7):=by
  refine⟨u,by simp[Cx.push,upd_same];exact g.size,L, ?_,bJ.le i _ _ q,rfl,rfl,rfl,s,hp⟩;simp only[Cx.push,upd_same];exact World.alloc_heap_new c.w _
 refine⟨_,⟨?_,rfl,rfl,rfl,g.push hk (by omega) e hl v,i⟩,rfl, ?_,rfl⟩
 .simp[Cx.push,h]
 .simp only[bU];refine⟨rfl,.inl ⟨_,by simp[Cx.push,ed];rfl⟩,fun _ _ _ _ _ _ _ _ _=>by simp[Cx.push,upd_same]⟩
theorem IY (g:c.Ok W0) {id:Nat} {f:FuncId} {fr:List bQ} {h:List Nat} {jo i:Code} {l:Option Nat} {k:Nat} {p:Option Ex} (u:dO c.hp id=a6 (.lp f fr h jo i l k p)) {L:Loop} (hL:c.w.heap[(c.mu id).blk]? =a6 (.loop L)) (d:Loop)
  {o':dL} (v:o'=.dead\/(∃q s,o'=.lp f fr h jo i l q s/\apW q s d/\d.tmps=L.tmps/\d.params=L.params/\d.assign=L.assign/\d.body=L.body)):
  ∃c',c'.hp=iV c.hp id o'/\c'.nxt=c.nxt/\c.Le c'/\c'.Ok W0/\c'.w=c.w.putObj (c.mu id).blk (.loop d)/\c'.mks=c.mks:=by
 have D:(c.mu id).blk<c.w.heap.size:=(Array.getElem?_eq_some_iff.1 hL).1;obtain⟨E,G,I,x,J,K,M,N,e4⟩:=g.obj id _ u;rw[hL]at x;have O:I=L:=by cases x;rfl
 subst O;have hk:(dL.lp f fr h jo i l k p).like (c.mu id) o' (c.mu id):=by
  rcases v with rfl|⟨q,s,rfl,_⟩<;>simp[dL.like]
 have y:c.w.heap.size<=(c.w.putObj (c.mu id).blk (.loop d)).heap.size:=by simp
 have o: ∀b,b<c.w.heap.size->(dL.lp f fr h jo i l k p).blk (c.mu id)≠a6 b->(c.w.putObj (c.mu id).blk (.loop d)).heap[b]? =c.w.heap[b]? :=fun b _ S=>
  World.putObj_heap_other fun e=>S (by rw[e];rfl)
 have hl: ∀b,o'.blk (c.mu id)=a6 b->(dL.lp f fr h jo i l k p).blk (c.mu id)=a6 b\/c.w.heap.size<=b:=fun b o=>by
  rcases v with rfl|⟨q,s,rfl,_⟩
  .cases o
  .exact .inl o
 have z: ∀(b:Nat) (A:Loop),(dL.lp f fr h jo i l k p).blk (c.mu id)=a6 b->c.w.heap[b]? =a6 (Obj.loop A)-> ∃U:Loop,(c.w.putObj (c.mu id).blk (.loop d)).heap[b]? =a6 (Obj.loop U):=fun b A o _=>by
  grind [dL.blk,World.putObj_heap_same]
 have V:Below W0.heap.size W0 (c.w.putObj (c.mu id).blk (.loop d)):=
  ⟨g.bel.os,g.bel.tape,g.bel.output,by omega,fun j W=>(World.putObj_heap_other (by omega)).trans (g.bel.block j W)⟩
 have B:=Cx.Le.put g u hk y o hl z;refine⟨c.put id o' (c.mu id) (c.w.putObj (c.mu id).blk (.loop d)),rfl,rfl,B,Cx.Ok.put g u hk V y o hl z ?_,rfl,rfl⟩;rcases v with rfl|⟨q,s,rfl,X,Y,Z,h4,h5⟩
 .trivial
 .refine⟨E,by simp only[Cx.put,upd_same];exact G,d, ?_,bJ.le B _ _ (by rw[Y];exact J),by rw[Z];exact K,by rw[h4];exact M,by rw[h5];exact N,X⟩;simp only[Cx.put,upd_same];exact World.putObj_heap_same D
end
end
section
open Option renaming some → a6, none → a7
open Go.RowKit
section
variable {T:TT} {cl:Bool} {R:Type} {r:R} {sg:FuncId->Option Sum}
theorem zN {dst:Option Nat} {o:dL} {st:St} {K:Nat->St->Option R} (h:alloc cl dst o st K=a6 r): ∃i d,K i d=a6 r:=by
 unfold alloc at h
 grind
theorem aDH {d:BinOp} {t:TypeId} {x y:bQ} {K:bQ->Option R} (h:ac4 T d t x y K=a6 r): ∃z,K z=a6 r:=by
 unfold ac4 at h;simp only[mO,cond_eq_ite]at h
 grind
theorem ayj {hp:gK} {d:BinOp} {t:TypeId} {x y:bQ} {K:bQ->Option R} (h:Sj T hp d t x y K=a6 r): ∃z,K z=a6 r:=by
 unfold Sj at h;simp only[cond_eq_ite]at h
 grind [aDH]
theorem aHE {d:UnOp} {x:bQ} {K:bQ->Option R} (h:asf d x K=a6 r): ∃z,K z=a6 r:=by
 unfold asf at h
 grind
theorem ayk {hp:gK} {t:TypeId} {a:bQ} {K:bQ->Option R} (h:LX T hp t a K=a6 r): ∃z,K z=a6 r:=by
 unfold LX at h
 grind
theorem aDI {d:gK} {st:St} {a v:bQ} {K:St->Option R} (h:ac5 d st a v K=a6 r): ∃z,K z=a6 r:=by
 unfold ac5 at h;simp only[cond_eq_ite]at h
 repeat' split at h
 all_goals first|cases h;done|exact⟨_,h⟩
theorem asj {st:St} {t:TypeId} {a v:bQ} {K:St->Option R} (h:JB T st t a v K=a6 r): ∃z,K z=a6 r:=by
 unfold JB at h;simp only[cond_eq_ite]at h
 repeat' split at h
 all_goals first|cases h;done|exact⟨_,h⟩
theorem agw {s d:TypeId} {x:bQ} {hp:gK} {K:bQ->Option R} (h:zM T s d x hp K=a6 r): ∃z,K z=a6 r:=by
 unfold zM at h;simp only[mO,cond_eq_ite]at h
 grind
theorem asi {hp:gK} {t:TypeId} {x:bQ} {lo hi d:Option bQ} {K:bQ->Option R} (h:JA T hp t x lo hi d K=a6 r): ∃z,K z=a6 r:=by
 unfold JA at h;simp only[mO,cond_eq_ite]at h
 grind
theorem Yv {hp:gK} {t:TypeId} {x:bQ} {f:Nat} {K:bQ->Option R} (h:uq T hp t x f K=a6 r): ∃z,K z=a6 r:=by
 unfold uq at h;simp only[cond_eq_ite]at h
 repeat' split at h
 all_goals first|cases h;done|exact⟨_,h⟩
theorem ash {t:TypeId} {x:bQ} {f:Nat} {K:bQ->Option R} (h:Jy T t x f K=a6 r): ∃z,K z=a6 r:=by
 unfold Jy at h
 repeat' split at h
 all_goals first|cases h;done|exact⟨_,h⟩
theorem Yw {hp:gK} {t:TypeId} {x i:bQ} {K:bQ->Option R} (h:ut T hp t x i K=a6 r): ∃z,K z=a6 r:=by
 unfold ut at h;simp only[mO,cond_eq_ite]at h
 repeat' split at h
 all_goals first|cases h;done|exact⟨_,h⟩
theorem aDJ {hp:gK} {t:TypeId} {x:bQ} {K:bQ->Option R} (h:ac6 T hp t x K=a6 r): ∃z,K z=a6 r:=by
 unfold ac6 at h;simp only[mO,cond_eq_ite]at h
 grind
theorem anJ {dst:Option Nat} {t:TypeId} {s x:bQ} {st:St} {K:bQ->St->Option R} (h:Jv T cl dst t s x st K=a6 r): ∃z d,K z d=a6 r:=by
 unfold Jv at h;simp only[mO,cond_eq_ite]at h
 repeat' split at h
 all_goals first|cases h;done|exact⟨_,_,h⟩|grind [zN]
theorem agu {dst:Option Nat} {t t':TypeId} {s x:bQ} {st:St} {K:bQ->St->Option R} (h:zL T cl dst t t' s x st K=a6 r): ∃z d,K z d=a6 r:=by
 unfold zL at h;simp only[mO,cond_eq_ite]at h
 repeat' split at h
 all_goals first|cases h;done|exact⟨_,_,h⟩|grind [zN]
theorem agv {o:Oper} {b:Builtin} {d:List TypeId} {args:List bQ} {st:St} {K:bQ->St->Option R} (h:jZ T cl o b d args st K=a6 r): ∃z e,K z e=a6 r:=by
 unfold jZ at h;simp only[mO,cond_eq_ite]at h
 grind [aDJ,anJ,agu]
def xM (sg:FuncId->Option Sum) (call:gz R):Prop:= ∀g s d e st (K:bQ->St->Option R) r,sg g=a6 s->call (.fn g []) d e st K=a6 r-> ∃z f,K z f=a6 r
theorem asl {s:Sum} {args:List bQ} {dst:Option Nat} {st:St} {K:bQ->St->Option R} (h:s.call cl args dst st K=a6 r): ∃z d,K z d=a6 r:=by
 unfold Sum.call at h;simp only[cond_eq_ite]at h;split at h
 .split at h
  .rename_i x e
   cases hf:s.f x with
   |none=>simp_all [bH]
   |some y=>
    grind [bH,zN]
  .cases h
 .cases h
theorem aiQ {call:gz R} (hx:xM sg call) {o:Oper} {st:St} {K:bQ->St->Option R} (hp:vP sg o.op=true) (h:eF T cl call o st K=a6 r): ∃z d,K z d=a6 r:=by
 obtain⟨j,e,l,p,q,u⟩:=o;cases e with
 |call c=>
  simp only[eF]at h;simp only[vP]at hp;split at h
  .exact agv h
  .rename_i f i
   rw[i]at hp;cases f with
   |func g=>
    simp only at hp;cases hs:sg g with
    |none=>simp_all
    |some s=>exact hx g s _ _ _ _ _ hs h
   |_=>simp at hp
  .cases h
 |store t x y=>
  grind [eF,asj,aDI]
 |_=>
  simp only[eF,mO,cond_eq_ite]at h
  repeat' split at h
  all_goals first
   |cases h;done
   |exact⟨_,_,h⟩
   |(obtain⟨_,_,h⟩:=zN h;exact⟨_,_,h⟩)
   |(obtain⟨_,_,h⟩:=zN h;obtain⟨_,_,h⟩:=zN h;exact⟨_,_,h⟩)
   |(obtain⟨_,h⟩:=ayk h;exact⟨_,_,h⟩)
   |(obtain⟨_,h⟩:=ayj h;exact⟨_,_,h⟩)
   |(obtain⟨_,h⟩:=aHE h;exact⟨_,_,h⟩)
   |(obtain⟨_,h⟩:=agw h;exact⟨_,_,h⟩)
   |(obtain⟨_,h⟩:=asi h;exact⟨_,_,h⟩)
   |(obtain⟨_,h⟩:=Yv h;exact⟨_,_,h⟩)
   |(obtain⟨_,h⟩:=ash h;exact⟨_,_,h⟩)
   |grind [Yw]
theorem Yc {E:Env} {d:nG R}:xM E.sg (wM E d):=fun g s e f st K r i h=>by
 grind [wM,asl]
theorem aGF:xM (R:=R) sg (GG sg cl):=fun g s e f st K r d h=>by
 simp only[GG,d]at h;exact asl (dG h).2
theorem aot {o:Op} (h:iD o=true):vP sg o=true:=by
 cases o with
 |call c=>
  grind [iD,vP]
 |_=>rfl
theorem Ih {call:gz R} (hx:xM sg call) {ops:Array Oper} {d:List bQ}: ∀(l:List Nat) {st:St} {K:St->Option R},yB T cl call ops d l st K=a6 r-> ∃e,K e=a6 r
 |[],st,K,h=>⟨st,h⟩
 |i::l,st,K,h=>by
  simp only[yB]at h;split at h
  .rw[cond_eq_ite]at h;split at h
   .rename_i f
    obtain⟨_,_,h⟩:=aiQ hx (aot f) h;exact Ih hx l (dG h).2
   .exact Ih hx l (dG h).2
  .cases h
theorem Yx {call:gz R} (hx:xM sg call) {ops:Array Oper} (hp: ∀o∈ops.toList,vP sg o.op=true) {j:Nat} {log:List Nat} {st:St} {K:St->Option R} (h:uy T cl call ops j log st K=a6 r): ∃d,K d=a6 r:=by
 unfold uy at h;split at h
 .rename_i e f
  obtain⟨_,_,h⟩:=aiQ hx (hp e (by grind)) (dG h).2
  grind [Ih]
 .cases h
theorem VB {d e:Type} {o:Option d} {k:d->Option e} {y:e} (h:bH o k=a6 y): ∃x,o=a6 x/\k x=a6 y:=by
 cases o with
 |none=>simp[bH]at h
 |some x=>exact⟨x,rfl,h⟩
theorem yK {k:Option R} {r:R}: ∀(l:List (Option Unit)),Q3 l k=a6 r->k=a6 r/\ ∀x∈l,x=a6 ()
 |[],h=>⟨h,fun _ d=>by cases d⟩
 |o::l,h=>by
  simp only[Q3]at h;obtain⟨⟨⟩,f,e⟩:=VB h;obtain⟨g,i⟩:=yK l e
  grind
theorem Sl {ops:Array Oper} (hp: ∀o∈ops.toList,vP sg o.op=true) {p:gz St} {q:gz Unit} (e:xM sg p) (f:xM sg q): ∀(n:Nat) {R:Type} {r:R} {call:gz R},xM sg call-> ∀(l:Array Bool) (log:List Nat) (st:St) (K:St->Option R),
  mD T cl sg p q ops n call l log st K=a6 r-> ∃u,K u=a6 r
 |0,R,r,call,d,l,log,st,K,h=>by simp[mD]at h
 |n+1,R,r,call,d,l,log,st,K,h=>by
  have s: ∀{i:Nat} {g:Oper},ops[i]? =a6 g->vP sg g.op=true:=fun {i g} j=>hp g (by grind);simp only[mD]at h;split at h
  .exact⟨st,h⟩
  .split at h
   .split at h
    .rename_i j
     obtain⟨_,_,h⟩:=aiQ d (s j) (dG h).2;exact Sl hp e f n d _ _ _ _ h
    .cases h
   .split at h
    .split at h
     .rename_i j
      obtain⟨_,_,h⟩:=aiQ (aGF (sg:=sg)) (s j) (dG h).2;exact Sl hp e f n d _ _ _ _ h
     .cases h
    .split at h
     .obtain⟨_,h⟩:=Yx d hp h;exact Sl hp e f n d _ _ _ _ h
     .rw[cond_eq_ite]at h;split at h
      .grind
      .obtain⟨_,h⟩:=Yx d hp h;obtain⟨_,h⟩:=Sl hp e f n d _ _ _ _ h;replace h:=(dG h).2
       grind [yK]
end
end
section
open Option renaming some → a6, none → a7
open Bool renaming and_eq_true → af, false_eq_true → ah, and_true → ay, not_false → az, true_and → aS, not_eq_true → aY
open List renaming mem_cons_of_mem → ak, map_cons → ax, mem_cons_self → aF, length_map → aK, all_cons → aW
open Nat renaming le_refl → ae, eq_of_beq_eq_true → aj
open Go.RowKit
section
variable {P:Program} {T:TT} {W0:World} {b0 n:Nat} {rd:Option Nat} {c:Cx} {st:St} {a:Act} {sg:FuncId->Option Sum} {cl:Bool} {ats:List (Array Value)} {ops:Array Oper}
def rO:(t:Ty)->t.den->List Value
 |.unit,_=>[]
 |.bool,x=>[.bool x]
 |.int k,x=>[.int k x]
 |.str,x=>[.string ⟨x.toArray⟩]
 |.list _,_=>[]
 |.pair a b,x=>rO a x.1++rO b x.2
theorem uI {w:World} {fr:Nat->Prop}: ∀(t:Ty) (x:t.den),t.rigid=true-> ∀cs,eY w fr t x cs↔cs=rO t x
 |.unit,x,_,cs=>by rfl
 |.bool,x,_,cs=>by rfl
 |.int k,x,_,cs=>by rfl
 |.str,x,_,cs=>by rfl
 |.list t,x,h,cs=>by simp[Ty.rigid]at h
 |.pair a b,x,h,cs=>by
  simp only[Ty.rigid,af]at h;simp only[eY,rO,uI a x.1 h.1,uI b x.2 h.2];simp
def Js (t:Ty) (x:t.den):Value:=if t.isAgg then .agg (rO t x).toArray else(rO t x).headD undef
theorem VD.rigid {t:Ty} {x:t.den} (h:t.rigid=true) (v:Value):VD c t x v↔v=Js t x:=by
 cases ha:t.isAgg with
 |true=>
  rw[VD.agg ha];simp only[Js,ha,if_true,uI t x h];constructor
  .rintro ⟨cs,rfl,d⟩;rw[<-d]
  simp_all
 |false=>
  rw[VD.leaf ha,uI t x h];have: ∃u,rO t x=[u]:=by cases t<;>first|exact⟨_,rfl⟩|(simp[Ty.rigid]at h;done)|grind [Ty.isAgg]
  grind [Js]
def rv1:bQ->Value
 |.val t x=>Js t x
 |_=>undef
def rv:bQ->Value
 |.tup l=>.tuple (l.map rv1).toArray
 |v=>rv1 v
theorem ala {v:bQ} (h:v.rigid=true) (u:Value):bU c v u↔u=rv1 v:=by
 cases v<;>simp only[bQ.rigid,ah]at h;simp_all [bU,rv1,VD.rigid]
theorem alb: ∀(l:List bQ),l.all bQ.rigid=true-> ∀us,bJ c l us↔us=l.map rv1
 |[],_,[]=>by simp[bJ]
 |[],_,u::us=>by simp[bJ]
 |v::l,_,[]=>by simp[bJ]
 |v::l,h,u::us=>by
  simp only[aW,af]at h;simp only[bJ,ala h.1,alb l h.2,ax,List.cons.injEq]
theorem IX {v:bQ} (h:v.rigidR=true) (u:Value):bU c v u↔u=rv v:=by
 cases v with
 |tup l=>
  simp only[bQ.rigidR]at h;simp only[bU,rv,alb l h];constructor
  .rintro ⟨e,rfl,d⟩;rw[<-d]
  simp_all
 |val t x=>exact ala (v:=.val t x) h u
 |_=>simp[bQ.rigidR,bQ.rigid]at h
theorem I7 (id:Nat): ∀(rs:List (Ty×Bool)) y,(rs.all fun r=> !r.2&&r.1.rigid)=true->(oZ id rs y).all bQ.rigid=true
 |[],_,_=>rfl
 |(t,true)::rs,y,h=>by simp at h
 |(t,false)::rs,y,h=>by
  simp only[aW,az,aS,af]at h;simp only[oZ,aW,bQ.rigid,h.1,aS];exact I7 id rs y.2 h.2
theorem UB: ∀(l:List bQ),l.all bQ.rigid=true->(Nv l).rigidR=true
 |[],_=>rfl
 |[v],h=>by
  simp only[aW,List.all_nil,ay]at h;cases v<;>simp only[bQ.rigid,ah]at h;exact h
 |v::d::l,h=>h
theorem bJ.mk {c:Cx}: ∀(l:List bQ) (xs:List Value),l.length=xs.length->(∀(i:Nat) (h:i<l.length) (e:i<xs.length),bU c l[i] xs[i])->bJ c l xs
 |[],[],_,_=>by simp[bJ]
 |[],_::_,h,_=>by simp at h
 |_::_,[],h,_=>by simp at h
 |v::l,x::xs,h,d=>by
  simp only[bJ];exact⟨d 0 (by simp) (by simp),bJ.mk l xs (by simpa using h) fun i f g=>by
   have:=d (i+1) (by simp;omega) (by simp;omega);simpa using this⟩
def uS (ops:Array Oper) (k:Nat):Option Nat:=(ops[k]?).bind (·.dst)
def gq (ops:Array Oper) (a:Act):List (Nat×Value)->Act
 |[]=>a
 |(k,v)::l=>(gq ops a l).put (uS ops k) v
theorem zq (a:Act): ∀(q l:List (Nat×Value)),gq ops a (q++l)=gq ops (gq ops a l) q
 |[],l=>rfl
 |(k,v)::q,l=>by simp only[List.cons_append,gq];rw[zq a q l]
theorem zt (a:Act): ∀l,(gq ops a l).defers=a.defers
 |[]=>rfl
 |(k,v)::l=>by rw[gq,put_defers,zt a l]
theorem uH (a:Act): ∀l,(gq ops a l).tmps.size=a.tmps.size
 |[]=>rfl
 |(k,v)::l=>by
  rw[gq];cases uS ops k with
  |none=>exact uH a l
  |some d=>simp only[Act.put,Array.size_setIfInBounds];exact uH a l
def apT (ops:Array Oper) (x y:Oper):Prop:= ∀d,y.dst=a6 d->d∉x.looksAt ops/\x.dst≠a6 d
theorem Mc {x y:Oper} (h:Fe ops x y=true):apT ops x y:=fun d hd=>by
 simp_all [Fe]
theorem xq (a:Act) {d:Option Nat} {v:Value}: ∀(l:List (Nat×Value)),(∀m∈l.map (·.1),∀e,uS ops m=a6 e->d≠a6 e)->gq ops (a.put d v) l=(gq ops a l).put d v
 |[],_=>rfl
 |(k,u)::l,h=>by
  rw[gq,gq,xq a l fun m f=>h m (ak _ f)];simp_all [Act.put_comm]
theorem Dy (a:Act) {o:Oper} (d: ∀cs b,o.op≠ .select cs b): ∀(l:List (Nat×Value)),(∀m∈l.map (·.1),∀e,uS ops m=a6 e->e∉o.looksAt ops)->execOp (gq ops a l).eval o=execOp a.eval o
 |[],_=>rfl
 |(k,u)::l,h=>by
  rw[gq,execOp_put (ops:=ops) o d _ _ _ (h k aF)];exact Dy a d l fun m f=>h m (ak _ f)
def iK (ops:Array Oper) (lA:Array Bool) (log:List Nat):List Nat->Prop
 |[]=>True
 |k::l=>iK ops lA log l/\lA.getD k true=false/\k∈log/\k∉l/\ ∃ok,ops[k]? =a6 ok/\jK ok.op=true/\ok.guard=a7/\(∀d,ok.dst=a6 d->d∉ok.looksAt ops)/\
   (∀e∈ok.after,Region.binds .any e=true->lA.getD e.on false=true\/e.on∈l)/\
   (∀m∈l,∃f,ops[m]? =a6 f/\apT ops f ok/\(tX ops k m=false->f.apart ops ok=true))
def H5 (rd:Option Nat) (n:Nat) (P:Program) (c:Cx) (a:Act) (o:Oper) (v:Value):Prop:= ∀d,Gw c d->o.quietAtIn (FW rd) n P a (Gw (c.at_ d)) d v
theorem H5.congr {a d:Act} {o:Oper} {v:Value} (h:execOp d.eval o=execOp a.eval o) (e:H5 rd n P c a o v):H5 rd n P c d o v:=fun f g=>by
 have:=e f g;simp_all [Oper.quietAtIn]
theorem H5.of_run {a:Act} {o:Oper} {v:Value} (h: ∀w',Gw c w'->(execOp a.eval o).run P w'=.ok (.value v) w'):H5 rd n P c a o v:=fun w' d=>by
 unfold Oper.quietAtIn;rw[h w' d];exact⟨rfl,rfl⟩
theorem H5.ext {a:Act} {o:Oper} {v:Value} {w:World} (d:Gw c w) (h:H5 rd n P c a o v):H5 rd n P (c.at_ w) a o v:=fun e f=>h e (Below.trans d (f.mono d.size))
theorem H5.wpOp {a:Act} {i:Nat} {o:Oper} {v:Value} (hd:mP ops=true) (hi:ops[i]? =a6 o) (p:o.guard=a7) (h:H5 rd n P c a o v) {Q:Exit->Act->World->Prop} {K:Act->World->Prop} (l: ∀w',Gw c w'->K (a.put o.dst v) w'):wpOpIn (FW rd) n P ops Q i K a c.w:=by
 unfold Go.wpOpIn;simp only[hi];rw[am (by simp[Region.wanted,p])];refine⟨qO o c.w _, ?_⟩;rw[xw (oP hd i o hi).1];have d:=h c.w (Below.refl _ _);unfold Oper.quietAtIn at d;generalize (execOp a.eval o).run P c.w=x at d ⊢
 match x,d with
 |.ok (.value u) w',d=>
  obtain⟨g,j⟩:=d;subst g j;exact l _ (Below.refl _ _)
 |.ok .skip w',d=>
  obtain⟨g,j⟩:=d;subst g j;exact l _ (Below.refl _ _)
 |.ok (.enter f A) w',d=>
  obtain⟨g,j,q⟩:=d;subst g;refine⟨j,CallsIn.mono q fun e B s=> ?_⟩;obtain⟨y,z⟩:=s;subst y;exact l _ z
def kK (rd:Option Nat) (n:Nat) (P:Program) (ops:Array Oper) (c:Cx) (a:Act):List (Nat×Value)->Prop
 |[]=>True
 |(k,v)::l=>kK rd n P ops c a l/\ ∃ok,ops[k]? =a6 ok/\H5 rd n P c (gq ops a l) ok v
theorem kK.ext {w:World} (d:Gw c w) {a:Act}: ∀{l:List (Nat×Value)},kK rd n P ops c a l->kK rd n P ops (c.at_ w) a l
 |[],_=>trivial
 |(k,v)::l,h=>⟨kK.ext d h.1,let⟨ok,e,f⟩:=h.2;⟨ok,e,f.ext d⟩⟩
def tZ (sg:FuncId->Option Sum) (cl:Bool) (o:Oper) (fr:List bQ) (z:bQ):Prop:=
 jK o.op=true/\(∃e i,o.op=.call e/\e.callee=.value i)/\z.rigidR=true/\(∀d,o.dst=a6 d->z=fr.getD d .undef)/\
  ∃f g,jC o fr=f::g/\ ∀(j:Option Nat) (h:St) (K:bQ->St->Option Unit),GG sg cl f g j h K=K z h
theorem Q5 (hT:TOk P T) (g:nN (R:=Unit) P (GG sg cl)) {o:Oper} {z:bQ} {e:List bQ} (i:tZ sg cl o e z) (j:jC o e=jC o st.fr) {a:Act} (hr:iM W0 b0 rd c st a ats):bU c z (rv z)/\H5 rd n P c a o (rv z):=by
 obtain⟨l,⟨x,y,A,B⟩,f,_,D,E,p,G⟩:=i;rw[j]at p;refine⟨(IX f _).2 rfl,fun q s=> ?_⟩
 classical
 have h:eF T cl (GG sg cl) o st (fun d _=>if d=z then a6 ()else a7)=a6 ():=by
  simp_all [jC,eF]
 obtain⟨d,v,g1,g2,g3⟩:=aeO (n:=n) hT g l h (hr.ext s);have u:d=z:=by
  simp_all
 rw[u]at g2;rw[<-(IX f v).1 g2];exact g3 q (Below.refl _ _)
def LG (sg:FuncId->Option Sum) (cl:Bool) (ops:Array Oper) (fr:List bQ) (l:List Nat):Prop:= ∀k∈l,∀ok,ops[k]? =a6 ok->iD ok.op=false-> ∃z,tZ sg cl ok fr z
theorem MG {l:Array Bool} {m:Nat} (d:l.getD m false=true) (h2:l.getD m true=false):False:=by
 grind
theorem afD {lA:Array Bool} {j m:Nat} (f:j∈Region.ready .any ops lA) (i:lA.getD m true=false):tX ops j m=false:=by
 obtain⟨_,g,h,l⟩:=mem_ready.1 f;unfold tX;rw[h];cases d:g.after.any fun e=>Region.binds .any e&&Nat.beq e.on m with
 |false=>exact d
 |true=>
  obtain⟨e,o,d⟩:=Array.any_eq_true'.1 d;simp only[af]at d
  grind [aj]
theorem iK.un {lA:Array Bool} {log:List Nat}: ∀{l:List Nat},iK ops lA log l-> ∀k∈l,lA.getD k true=false
 |k::l,h,m,d=>by
  rcases List.mem_cons.1 d with e|d
  .rw[e];exact h.2.1
  .exact iK.un h.1 m d
theorem iK.log {lA:Array Bool} {log:List Nat}: ∀{l:List Nat},iK ops lA log l-> ∀k∈l,k∈log
 |k::l,h,m,d=>by
  rcases List.mem_cons.1 d with e|d
  .rw[e];exact h.2.2.1
  .exact iK.log h.1 m d
theorem iK.mono {lA:Array Bool} {log d:List Nat} (hl: ∀k∈log,k∈d): ∀{l:List Nat},iK ops lA log l->iK ops lA d l
 |[],_=>trivial
 |k::l,h=>⟨iK.mono hl h.1,h.2.1,hl _ h.2.2.1,h.2.2.2⟩
theorem iK.set {lA:Array Bool} {log:List Nat} {j:Nat}: ∀{l:List Nat},iK ops lA log l->j∉l->iK ops (lA.setIfInBounds j true) log l
 |[],_,_=>trivial
 |k::l,h,d=>by
  obtain⟨f,g,i,o,ok,p,q,s,u,v,x⟩:=h;refine⟨iK.set f fun h=>d (ak _ h), ?_,i,o,ok,p,q,s,u,fun e y z=> ?_,x⟩
  .rw[getD_set_ne true (fun e=>d (by rw[e];exact aF))];exact g
  .exact(v e y z).imp getD_set_true fun h=>h
theorem xx {lA:Array Bool} {j:Nat} (d:j<lA.size):(lA.setIfInBounds j true).getD j false=true:=by simp[d]
theorem iK.take {lA:Array Bool} {log:List Nat} {k:Nat} (hk:k<lA.size): ∀{l:List Nat},iK ops lA log l->k∈l->iK ops (lA.setIfInBounds k true) log (l.erase k)
 |m::l,h,d=>by
  obtain⟨f,g,i,j,ok,o,p,q,s,z,u⟩:=h;by_cases e:m=k
  .simp_all [iK.set]
  .rw[List.erase_cons_tail (by simpa using e)];have v:k∈l:=(List.mem_cons.1 d).resolve_left fun h=>e h.symm;refine⟨iK.take hk f v, ?_,i,fun h=>j (List.mem_of_mem_erase h),ok,o,p,q,s,fun A B D=> ?_,fun x y=>u x (List.mem_of_mem_erase y)⟩
   .rw[getD_set_ne true (fun h=>e h.symm)];exact g
   grind [getD_set_true,xx]
theorem uo {k:Nat} {o:Oper} (h:ops[k]? =a6 o):uS ops k=o.dst:=by simp[uS,h]
theorem kK.put {a:Act} {c:Cx} (hd:mP ops=true) {d:Option Nat} {v:Value}: ∀{l:List (Nat×Value)},kK rd n P ops c a l->
  (∀m∈l.map (·.1),∃f,ops[m]? =a6 f/\(∀e,f.dst=a6 e->d≠a6 e)/\(∀e,d=a6 e->e∉f.looksAt ops))->kK rd n P ops c (a.put d v) l
 |[],_,_=>trivial
 |(k,u)::l,h,i=>by
  obtain⟨o,ok,g,p⟩:=h;refine⟨kK.put hd o fun m j=>i m (ak _ j),ok,g,p.congr ?_⟩;obtain⟨f,g1,g2,g3⟩:=i k aF;rw[g]at g1;cases g1;rw[xq a l fun m j e q=> ?_,execOp_put (ops:=ops) ok (oP hd k ok g).2 _ _ _ g3]
  grind [uo]
theorem Xd {a:Act} {c:Cx} (hd:mP ops=true) {lA:Array Bool} {log:List Nat} {k:Nat} {ok:Oper} (g:ops[k]? =a6 ok) (hk:k∈Region.ready .any ops lA):
  ∀{l:List (Nat×Value)},iK ops lA log (l.map (·.1))->kK rd n P ops c a l->k∈l.map (·.1)->
   ∃v d,H5 rd n P c a ok v/\d.map (·.1)=(l.map (·.1)).erase k/\kK rd n P ops c (a.put ok.dst v) d/\gq ops (a.put ok.dst v) d=gq ops a l
 |(m,u)::l,s,hr,y=>by
  obtain⟨z,I,J,K,A,f,M,N,O,S,U⟩:=s;obtain⟨i,V,j,o⟩:=hr;rw[f]at j;cases j;by_cases e:m=k
  .subst e;rw[g]at f;cases f;have W: ∀x∈l.map (·.1),∃p,ops[x]? =a6 p/\p.apart ops ok=true:=fun x B=>by
    grind [afD,iK.un]
   refine⟨u,l,o.congr ?_,by simp,kK.put hd i fun x B=> ?_, ?_⟩
   .grind [Dy,oP,Oper.apart_spec,uo]
   .grind [Oper.apart_spec]
   grind [gq,uo,xq,Oper.apart_spec]
  .have D:k∈l.map (·.1):=(List.mem_cons.1 y).resolve_left fun h=>e h.symm;obtain⟨v,d,E,X,G,q⟩:=Xd hd g hk z i D;refine⟨v,(m,u)::d,E, ?_,⟨G,A,f,by rw[q];exact o⟩,by rw[gq,gq,q]⟩;simp_all
theorem zK {d:Type} {f:d->d->Bool} (hf: ∀x y,f x y=true->x=y): ∀(a b:List d),wQ f a b=true->a=b
 |[],[],_=>rfl
 |[],_::_,h=>by simp[wQ]at h
 |_::_,[],h=>by simp[wQ]at h
 |x::l,y::m,h=>by
  simp only[wQ,af]at h;rw[hf x y h.1,zK hf l m h.2]
theorem LW: ∀(t:Ty) (x y:t.den),Yu t x y=true->x=y
 |.unit,(),(),_=>rfl
 |.bool,x,y,h=>by simpa [Yu] using h
 |.int _,x,y,h=>by simpa [Yu,bP] using h
 |.str,x,y,h=>by simpa [Yu,gG] using h
 |.list t,x,y,h=>zK (LW t) x y h
 |.pair a b,x,y,h=>by
  simp only[Yu,af]at h;exact Prod.ext (LW a _ _ h.1) (LW b _ _ h.2)
theorem ar8 {t u:Ty} {x:t.den} {y:u.den} (h:(match jD t y with|some y=>Yu t x y|none=>false)=true): ∃e:u=t,x=cast (congrArg Ty.den e) y:=by
 grind [lW,LW]
theorem anF {a b:Option (Int×Int)} (h:agt a b=true):a=b:=by
 cases a<;>cases b<;>simp_all [agt,bP,Prod.ext_iff]
theorem kG {a b:Nat} (h:Nat.beq a b=true):a=b:=aj h
mutual
theorem asc: ∀(a b:bQ),Vl a b=true->a=b
 |.undef,b,h=>by grind [Vl]
 |.val t x,b,h=>by
  cases b<;>simp only[Vl,ah]at h;obtain⟨e,h⟩:=ar8 h;simp_all
 |.nils,b,h=>by grind [Vl]
 |.nilp,b,h=>by grind [Vl]
 |.nilfn,b,h=>by grind [Vl]
 |.emp,b,h=>by grind [Vl]
 |.tup l,b,h=>by
  cases b<;>simp only[Vl,ah]at h;rw[qR l _ h]
 |.agg l,b,h=>by
  cases b<;>simp only[Vl,ah]at h;rw[qR l _ h]
 |.cellp t x,b,h=>by
  cases b<;>simp only[Vl,ah]at h;obtain⟨e,h⟩:=ar8 h;simp_all
 |.lst t x n,b,h=>by
  cases b<;>simp only[Vl,ah,af]at h;obtain⟨j,d⟩:=h;split at d
  .rename_i z g
   obtain⟨e,p⟩:=lW g;have q:=LW (.list t) x z d
   grind
  .cases d
 |.ptr i o,b,h=>by
  cases b<;>simp only[Vl,ah,af]at h;simp_all
 |.slc i v w,b,h=>by
  cases b<;>simp only[Vl,ah,af]at h
  grind [kG,anF]
 |.ep i v m o,b,h=>by
  cases b<;>simp only[Vl,ah,af]at h;rw[kG h.1,kG h.2.1,kG h.2.2.1,kG h.2.2.2]
 |.fn f l,b,h=>by
  cases b<;>simp only[Vl,ah,af]at h;rw[kG h.1,qR l _ h.2]
 |.mfn f l,b,h=>by
  cases b<;>simp only[Vl,ah,af]at h;rw[kG h.1,qR l _ h.2]
 |.mpv i,b,h=>by
  cases b<;>simp only[Vl,ah]at h;rw[kG h]
 |.yld i,b,h=>by
  cases b<;>simp only[Vl,ah]at h;rw[kG h]
 |.slf i,b,h=>by
  cases b<;>simp only[Vl,ah]at h;rw[kG h]
 |.sd i v,b,h=>by
  cases b<;>simp only[Vl,ah,af]at h;simp_all
theorem qR: ∀(a b:List bQ),Ig a b=true->a=b
 |[],[],_=>rfl
 |[],_::_,h=>by simp[Ig]at h
 |_::_,[],h=>by simp[Ig]at h
 |a::l,b::m,h=>by
  simp only[Ig,af]at h;rw[asc a b h.1,qR l m h.2]
end
theorem pI: ∀(B:List Nat) (fr:List bQ),(o9 ops B fr).length=fr.length
 |[],_=>rfl
 |i::B,fr=>by
  simp only[o9];split
  .rw[List.length_set];exact pI B fr
  .exact pI B fr
theorem acN {k d:Nat} {B:List Nat} {fr:List bQ} (h:uS ops k=a6 d):o9 ops (k::B) fr=(o9 ops B fr).set d .undef:=by
 have e:(ops[k]?).bind (·.dst)=a6 d:=h;simp only[o9,e]
theorem acM {k:Nat} {B:List Nat} {fr:List bQ} (h:uS ops k=a7):o9 ops (k::B) fr=o9 ops B fr:=by
 have d:(ops[k]?).bind (·.dst)=a7:=h;simp only[o9,d]
theorem V4: ∀(B:List Nat) (fr:List bQ) (i:Nat) (h:i<fr.length) (e:i<(o9 ops B fr).length),(o9 ops B fr)[i]=.undef\/((o9 ops B fr)[i]=fr[i]/\ ∀k∈B,uS ops k≠a6 i)
 |[],fr,i,h,e=>.inr ⟨rfl,fun k hk=>by cases hk⟩
 |k::B,fr,i,h,e=>by
  have hl:=pI (ops:=ops) B fr;have f:=V4 B fr i h (by rw[hl];exact h);cases hd:uS ops k with
  |some d=>
   simp only[acN hd]
   grind
  |none=>
   simp_all [acM]
theorem aFM (X:Act) (d:Option Nat) (v:Value) (i:Nat) (e:d≠a6 i) (h:i<(X.put d v).tmps.size) (f:i<X.tmps.size):(X.put d v).tmps[i]=X.tmps[i]:=by
 cases d with
 |none=>rfl
 |some d=>
  simp_all [Act.put]
theorem Xf (a:Act) (i:Nat): ∀(l:List (Nat×Value)),(∀k∈l.map (·.1),uS ops k≠a6 i)-> ∀(h:i<(gq ops a l).tmps.size) (d:i<a.tmps.size),(gq ops a l).tmps[i]=a.tmps[i]
 |[],_,h,d=>rfl
 |(k,v)::l,hk,h,d=>by
  have e:i<(gq ops a l).tmps.size:=by rw[uH];exact d
  rw[<-Xf a i l (fun m f=>hk m (ak _ f)) e d];exact aFM _ _ _ _ (hk k aF) h e
theorem amD {c:Cx} {fr:List bQ} {l:List (Nat×Value)} {B:List Nat} (h:bJ c fr (gq ops a l).tmps.toList) (j: ∀k∈l.map (·.1),k∈B):bJ c (o9 ops B fr) a.tmps.toList:=by
 have g:=bJ.length _ _ h;rw[Array.length_toList (xs:=(gq ops a l).tmps),uH]at g;refine bJ.mk _ _ (by simp_all [pI]) fun i d f=> ?_;rw[pI]at d;have f:i<a.tmps.size:=by simpa using f
 rcases V4 (ops:=ops) B fr i d (by assumption)with e|⟨e,hk⟩
 .rw[e];simp[bU]
 .rw[e];have:=bJ.get _ _ h i d (by simp_all [uH])
  grind [Xf]
theorem O4 {o:Oper} (h:jK o.op=true): ∀cs b,o.op≠ .select cs b:=fun cs b e=>by simp_all [jK]
theorem aou {d:Op} (h:iD d=true):jK d=true:=by
 cases d<;>first|exact h|skip
 rename_i e
 obtain⟨f,g,i⟩:=e;cases f with
 |builtin b=>cases b<;>first|exact h|(simp[iD]at h)
 |value v=>rfl
 |invoke x m=>simp[iD]at h
def apQ (T:TT) (cl:Bool) {R:Type} (call:gz R) (ops:Array Oper) (d:List bQ) (st:St) (k:Nat):Prop:=∃ok,ops[k]? =a6 ok/\((iD ok.op=true/\ ∃(r:R) (K:St->Option R),(eF T cl call ok st fun z s=>cond (sameAt ok.dst z st) (K s) a7)=a6 r)\/ (iD ok.op=false/\jC ok d=jC ok st.fr/\zy ok.dst d=zy ok.dst st.fr))
theorem Ci {R:Type} {r:R} (hT:TOk P T) {call:gz R} {f:List bQ} {K:St->Option R} (hr:iM W0 b0 rd c st a ats): ∀(B:List Nat),
  yB T cl call ops f B st K=a6 r->K st=a6 r/\ ∀k∈B,apQ T cl call ops f st k
 |[],h=>⟨h,fun k hk=>by cases hk⟩
 |k::B,h=>by
  simp only[yB]at h;split at h
  .rename_i ok i
   cases hq:iD ok.op with
   |true=>
    rw[hq]at h;simp only[aa]at h;have h0:=h;obtain⟨z,u,g1,g2,g3⟩:=Ai hT hr.ok hq hr.hp hr.fr h;replace g1:=dG g1;obtain⟨g4,g5⟩:=Ci hT hr B g1.2;refine⟨g4,fun m d=> ?_⟩;rcases List.mem_cons.1 d with e|d
    .exact⟨ok,by rw[e];exact i,.inl ⟨hq,r,fun _=>yB T cl call ops f B st K,h0⟩⟩
    .exact g5 m d
   |false=>
    rw[hq]at h;simp only[ac]at h;replace h:=dG h;obtain⟨g,h⟩:=h;simp only[af]at g;obtain⟨g4,g5⟩:=Ci hT hr B h;refine⟨g4,fun m d=> ?_⟩;rcases List.mem_cons.1 d with e|d
    .exact⟨ok,by rw[e];exact i,.inr ⟨hq,qR _ _ g.1,qR _ _ g.2⟩⟩
    .exact g5 m d
  .cases h
theorem tZ.same {o:Oper} {fr e:List bQ} {z:bQ} (h:tZ sg cl o fr z) (q:jC o fr=jC o e) (h2:zy o.dst fr=zy o.dst e):tZ sg cl o e z:=by
 obtain⟨f,g,i,s,j,l,u,p⟩:=h;refine⟨f,g,i,fun d hd=> ?_,j,l,by simp_all,p⟩;simp_all [zy]
theorem aeU {d:Nat} {z:bQ} (h:z=st.fr.getD d .undef):st.put (a6 d) z=st:=by
 obtain⟨fr,e,f,g⟩:=st;simp only[St.put];have:fr.set d z=fr:=by
  subst h;apply List.ext_getElem
  all_goals grind
 rw[this]
theorem aAO (X:Act) (d:Option Nat) (v u:Value):(X.put d v).put d u=X.put d u:=by
 cases d with
 |none=>rfl
 |some d=>simp[Act.put]
theorem VX (hT:TOk P T) (hd:mP ops=true) (G:nN (R:=Unit) P (GG sg cl)) {R:Type} {call:gz R} {W:List bQ} {lA:Array Bool} {log:List Nat}: ∀(l q:List (Nat×Value)),iK ops lA log (l.map (·.1))->iM W0 b0 rd c st (gq ops (gq ops a l) q) ats->
  (∀k∈l.map (·.1),apQ T cl call ops W st k)->LG sg cl ops st.fr (l.map (·.1))->(∀m∈q.map (·.1),∃i,ops[m]? =a6 i/\ ∀k∈l.map (·.1),∃ok,ops[k]? =a6 ok/\apT ops ok i)->
  ∃f,f.map (·.1)=l.map (·.1)/\iM W0 b0 rd c st (gq ops (gq ops a f) q) ats/\kK rd n P ops c a f
 |[],q,_,hr,_,_,_=>⟨[],rfl,hr,trivial⟩
 |(k,v)::l,q,X,hr,I,hF,J=>by
  obtain⟨Y,s2,s3,s4,ok,o,M,s7,Z,s9,al⟩:=X;have ab: ∀m∈(q++[(k,v)]).map (·.1),∃i,ops[m]? =a6 i/\ ∀x∈l.map (·.1),∃N,ops[x]? =a6 N/\apT ops N i:=fun m g=>by
   grind
  obtain⟨f,e1,j,ad⟩:=VX hT hd G l (q++[(k,v)]) Y (by rw[zq];exact hr) (fun m g=>I m (ak _ g)) (fun m g=>hF m (ak _ g)) ab;rw[zq]at j;have hX:gq ops (gq ops a f) [(k,v)]=(gq ops a f).put (uS ops k) v:=rfl;rw[hX]at j;have y:=uo o;have ag:execOp (gq ops ((gq ops a f).put (uS ops k) v) q).eval ok=execOp (gq ops a f).eval ok:=by
   rw[Dy _ (O4 M) q fun m g e he=> ?_,execOp_put (ops:=ops) ok (O4 M) _ _ _ (by rw[y];exact Z)];obtain⟨i,h1,A⟩:=J m g;obtain⟨O,p,B⟩:=A k aF;rw[o]at p;cases p;exact(B e (by grind [uo])).1
  have S: ∀u,gq ops ((gq ops a f).put (uS ops k) u) q=(gq ops (gq ops a f) q).put (uS ops k) u:=fun u=>xq _ q fun m g e he h=>by
   obtain⟨i,h1,A⟩:=J m g;obtain⟨O,p,B⟩:=A k aF;rw[o]at p;cases p;exact(B e (by grind [uo])).2 (by simp_all)
  have U: ∀(z:bQ) (u:Value),bU c z u->st.put ok.dst z=st->H5 rd n P c (gq ops ((gq ops a f).put (uS ops k) v) q) ok u->
    ∃D,D.map (·.1)=((k,v)::l).map (·.1)/\iM W0 b0 rd c st (gq ops (gq ops a D) q) ats/\kK rd n P ops c a D:=fun z u g2 ai g3=>by
   refine⟨(k,u)::f,by simp[e1], ?_,ad,ok,o,g3.congr ag.symm⟩;have:=j.put (dst:=ok.dst) g2;rw[ai,S v,y,aAO,<-y,<-S u]at this;exact this
  obtain⟨O,V,a2⟩:=I k aF;rw[o]at V;cases V;rcases a2 with ⟨E,r,K,a3⟩|⟨E,_,_⟩
  .obtain⟨z,u,g1,g2,g3⟩:=Ai hT j.ok E j.hp j.fr a3;rw[cond_eq_ite]at g1;split at g1
   .rename_i s
    refine U z u g2 ?_ (.of_run g3);cases hdst:ok.dst with
    |none=>rfl
    |some d=>
     rw[hdst]at s;exact aeU (asc _ _ s)
   .cases g1
  .obtain⟨z,s⟩:=hF k aF ok o E;obtain⟨g2,g3⟩:=Q5 (n:=n) hT G s rfl j;refine U z _ g2 ?_ g3;cases hdst:ok.dst with
   |none=>rfl
   |some d=>exact aeU (s.2.2.2.1 d hdst)
theorem Fg (hT:TOk P T) (hd:mP ops=true) (J:nN (R:=Unit) P (GG sg cl)) {R:Type} {r:R} {call:gz R} (M:mg P W0 n call) {lA:Array Bool} {log:List Nat} {l:List (Nat×Value)} {j:Nat} {K:St->Option R}
  (hF:LG sg cl ops st.fr (l.map (·.1))) (hj:j∈Region.ready .any ops lA) (x:iK ops lA log (l.map (·.1))) (ab:j∉l.map (·.1)) (hr:iM W0 b0 rd c st (gq ops a l) ats)
  (h:uy T cl call ops j log st K=a6 r) {next:Act->World->Prop} {Q:Exit->Act->World->Prop}
  (N: ∀c' o p d,K o=a6 r->d.map (·.1)=l.map (·.1)->iM W0 b0 rd c' o (gq ops p d) ats->kK rd n P ops c' p d->LG sg cl ops o.fr (l.map (·.1))->c.Mono c'->next p c'.w):wpOpIn (FW rd) n P ops Q j next a c.w:=by
 unfold uy at h;split at h
 .rename_i f O
  replace h:=dG h;obtain⟨q,h⟩:=h;simp only[af]at q;have S:f.guard=a7:=by simpa using q.1
  unfold wpOpIn;simp only[O];rw[am (by simp[Region.wanted,S])];have y: ∀k∈l.map (·.1),k∈log.filter fun i=> !tX ops j i:=fun k hk=>List.mem_filter.2 ⟨iK.log x k hk,by grind [afD,iK.un]⟩;have ad: ∀k∈l.map (·.1),∃ok,ops[k]? =a6 ok/\ok.apart ops f=true:=fun k hk=>by
   have U:=q.2;unfold au6 at U
   grind
  have V:iM W0 b0 rd c {st with fr:=o9 ops (log.filter fun i=> !tX ops j i) st.fr,stk:=st.fr::st.stk} a ((gq ops a l).tmps::ats):=
   ⟨hr.hp,hr.nxt,hr.ok,amD hr.fr y,⟨hr.fr,hr.stk⟩,by have:=hr.df;rwa [zt]at this,hr.rd⟩
  refine Uc hT M h V fun c' z u W k1 k2 k3 k4=> ?_;split at k1
  .rename_i fr s X
   have g:=k2.stk;rw[X]at g;simp only[CS]at g;have Y:iM W0 b0 rd c' {W with fr:=fr,stk:=s} (gq ops a l) ats:=
    ⟨k2.hp,k2.nxt,k2.ok,g.1,g.2,by rw[zt];exact k2.df,k2.rd⟩
   have v:=Y.put (dst:=f.dst) k3;have Z:(gq ops a l).put f.dst u=gq ops (a.put f.dst u) l:=(xq a l fun m A e he hh=>by
    grind [Oper.apart_spec,uo]).symm
   rw[Z]at v;obtain⟨g1,g2⟩:=Ci hT v _ k1;have B: ∀k∈l.map (·.1),apQ T cl call ops st.fr _ k:=fun k hk=>g2 k (List.mem_reverse.2 (y k hk));have D:LG sg cl ops _ (l.map (·.1)):=fun k hk ok E G=>by
    obtain⟨z,hz⟩:=hF k hk ok E G;obtain⟨ag,I,b2⟩:=B k hk;rw[E]at I;cases I;rcases b2 with ⟨b3,_⟩|⟨_,b4,b5⟩
    .rw[G]at b3;cases b3
    .exact⟨z,hz.same b4 b5⟩
   obtain⟨d,e1,e2,e3⟩:=VX (n:=n) hT hd J l [] x v B D (fun m A=>by cases A);exact N c' _ _ d g1 e1 e2 e3 D k4
  .cases k1
 .cases h
def WfH (h:gK):Prop:= ∀id f e g jo d k n p,dO h id=a6 (.lp f e g jo d (a6 k) n p)->rH f k=a6 (jo,d)
theorem iM.tidy {c:Cx} {st:St} {a:Act} (cl:Bool) (hr:iM W0 b0 rd c st a ats): ∃c',iM W0 b0 rd c' (tidy cl st) a ats/\c.Mono c'/\c'.w=c.w:=by
 cases cl with
 |true=>exact⟨c,hr,Cx.Mono.refl c,rfl⟩
 |false=>
  have f: ∀i,dO (lF c.hp) i=dO c.hp i:=fun i=>xe i _;have q: ∀(o:dL) (l:Loc),o.like l o l:=fun o l=>by
   cases o<;>simp[dL.like]
  have d:c.Le {c with hp:=lF c.hp}:=by
   refine⟨fun b e=>⟨⟨e.1,fun⟨j,o,s,g⟩=>e.2.1 ⟨j,o,by simp_all,g⟩,e.2.2⟩,rfl⟩,fun id hk=> ?_,fun id u _ h=>⟨u,by rw[<-f];exact h,q _ _⟩,fun _ h=>h,fun b L h=>⟨L,h⟩,ae _,rfl⟩;rcases hk with ⟨o,h⟩|h
   .exact .inl ⟨o,by simp_all⟩
   .exact .inr h
  have v:({c with hp:=lF c.hp}:Cx).Ok W0:=by
   refine⟨hr.ok.bel,fun id o h=> ?_,fun i j o p b s g=>hr.ok.inj i j o p b (by simp_all) (by simp_all),hr.ok.mks,fun b e=>(d.out b (hr.ok.bar b e)).1,hr.ok.phi⟩;exact(hr.ok.obj id o (by rw[<-f];exact h)).le d rfl fun b _=>rfl
  exact⟨{c with hp:=lF c.hp},⟨by show lF c.hp=lF st.hp;rw[hr.hp],hr.nxt,v,bJ.le d _ _ hr.fr,CS.le d _ _ hr.stk,hr.df,hr.rd⟩,d.mono,rfl⟩
theorem iM.wf {c:Cx} {st:St} {a:Act} (hr:iM W0 b0 rd c st a ats):WfH st.hp:=fun id f d e jo g k n p h=>by
 rw[<-hr.hp]at h;exact(hr.ok.obj id _ h).1 k rfl
def WfO:dL->Prop
 |.lp f _ _ jo bd (a6 k) _ _=>rH f k=a6 (jo,bd)
 |_=>True
theorem N9: ∀(h:gK),sZ h=true->WfH h-> ∀e∈h,WfO e.2
 |[],_,_,e,d=>by simp at d
 |(k,o)::h,g,s,e,d=>by
  simp only[sZ,af,Bool.not_eq_true']at g;rcases List.mem_cons.1 d with rfl|d
  .cases o with
   |lp f i j jo l ky n p=>
    cases ky with
    |none=>trivial
    |some q=>exact s k f i j jo l q n p (by simp[ed])
   |_=>trivial
  .refine N9 h g.2 (fun id f i j jo l q n p v=>s id f i j jo l q n p ?_) e d;rw[ed];by_cases hk:k=id
   .subst hk;have:=wZ _ _ _ v;have u:=g.1;rw[List.any_eq_false]at u;exact absurd (by simp:Nat.beq k k=true) (u _ this)
   simp_all
theorem ayg {a b:Ex} (h:aDE a b=true):a=b:=by
 cases a<;>cases b<;>simp only[aDE,ah]at h<;>first|rfl|rw[kG h]
theorem asa {a b:Option Ex} (h:ar9 a b=true):a=b:=by
 cases a<;>cases b<;>simp only[ar9,ah]at h
 .rfl
 .rw[ayg h]
theorem axE {o:gK} {i:Nat} {a b x:dL} (s:WfH o) (hb:WfO b) (d:eqO a b=true) (h:U8 o i a=a6 x):x=b:=by
 cases a with
 |box t l=>
  cases b<;>simp only[eqO,ah,af]at d;cases h;rw[kG d.1,qR _ _ d.2]
 |arr t v y=>
  cases b<;>simp only[eqO,ah,af]at d;cases h
  grind [lW,LW,kG]
 |dead=>
  cases b<;>simp only[eqO,ah]at d;cases h;rfl
 |mp k v l=>
  cases b<;>simp only[eqO,ah,af,decide_eq_true_eq]at d;obtain⟨rfl,rfl,rfl⟩:=d;cases h;rfl
 |lp f fr ps jo bd ky n p=>
  cases b<;>simp only[eqO,ah,af]at d
  rename_i g G I J K M m q
  obtain⟨u,N,O,e,S,U⟩:=d;split at e
  .rename_i k V
   have z:=kG u;have A:=kG e;subst z A;simp only[U8]at h;split at h
   .rename_i B
    replace h:=dG h;obtain⟨j,h⟩:=h;simp only[af]at j
    rename_i g2 _ _ W X k2 _ _
    have D:=kG j.1;have E:=kG j.2;subst D E;have Y:=s _ _ _ _ _ _ _ _ _ B
    grind [WfO,qR,zK,kG,asa]
   .cases h
  .cases e
theorem U6 {f:gK} (g:WfH f): ∀(a b x:gK),(∀e∈b,WfO e.2)->eqH a b=true->U5 f a=a6 x->x=b
 |[],b,x,_,d,h=>by
  cases b with
  |nil=>cases h;rfl
  |cons _ _=>simp[eqH]at d
 |(i,o)::a,b,x,l,d,h=>by
  cases b with
  |nil=>simp[eqH]at d
  |cons e b=>
   obtain⟨j,s⟩:=e;simp only[eqH,af]at d;simp only[U5]at h;split at h
   .rename_i y p
    split at h
    .rename_i z q
     cases h;rw[axE g (l _ aF) d.2.1 p,U6 g a b z (fun e d=>l e (ak _ d)) d.2.2 q,kG d.1]
    .cases h
   .cases h
theorem aoD {d:gK} {a b m:St} (h:settle d a=a6 m) (e:WfH d) (h2:asb a b=true) (f:sZ b.hp=true) (hb:WfH b.hp):m=b:=by
 unfold settle at h;split at h
 .rename_i hp g
  cases h;unfold asb at h2;simp only[af]at h2;obtain⟨j,l,i,o⟩:=h2;have p:=U6 e _ _ _ (N9 _ f hb) i g;obtain⟨q,s,u,v⟩:=a;obtain⟨x,y,z,A⟩:=b
  grind [qR,zK,kG]
 .cases h
theorem ain {e:gK} {i:Nat} {a x:dL} (g:WfH e) (q:WfO a) (h:U8 e i a=a6 x):x=a:=by
 cases a with
 |lp f fr ps jo bd ky n p=>
  cases ky with
  |none=>simp[U8]at h
  |some k=>
   simp only[U8]at h;split at h
   .rename_i j
    replace h:=dG h;obtain⟨d,h⟩:=h;simp only[af]at d;have l:=kG d.1;have o:=kG d.2;subst l o;have s:=g _ _ _ _ _ _ _ _ _ j;simp_all [WfO]
   .cases h
 |_=>simp_all [U8]
theorem U7 {d:gK} (f:WfH d): ∀(a x:gK),(∀e∈a,WfO e.2)->U5 d a=a6 x->x=a
 |[],x,_,h=>by cases h;rfl
 |(i,o)::a,x,g,h=>by
  simp only[U5]at h;split at h
  .rename_i y j
   split at h
   .rename_i z l
    cases h;rw[ain f (g _ aF) j,U7 f a z (fun e p=>g e (ak _ p)) l]
   .cases h
  .cases h
theorem aff {d:gK} {a m:St} (h:settle d a=a6 m) (e:WfH d) (f:sZ a.hp=true) (g:WfH a.hp):m=a:=by
 unfold settle at h;split at h
 .rename_i hp i
  cases h;rw[U7 e _ _ (N9 _ f g) i]
 .cases h
theorem aeu {e:gK} {L:List (Option St)} {m:St} (h:TR e L=a6 m) (f:WfH e): ∀x∈L,∃b,x=a6 b/\(WfH b.hp->m=b):=by
 unfold TR at h;split at h
 .rename_i a l
  replace h:=dG h;obtain⟨g,h⟩:=h;split at h
  .rename_i hp i
   cases h;intro x j;have d:=List.all_eq_true.1 g x j;cases x with
   |none=>simp at d
   |some b=>
    simp only[af]at d;refine⟨b,rfl,fun o=> ?_⟩;obtain⟨d,p⟩:=d;unfold asb at d;simp only[af]at d;obtain⟨s,u,q,v⟩:=d;have y:=U6 f _ _ _ (N9 _ p o) q i;obtain⟨z,A,B,D⟩:=a;obtain⟨E,G,I,J⟩:=b
    grind [qR,zK,kG]
  .cases h
 .cases h
def acW (ops:Array Oper) (lA:Array Bool):Nat:=((List.range ops.size).filter fun i=> !lA.getD i true).length
theorem filter_lt {f:Type} {p q:f->Bool}: ∀(l:List f),(∀x∈l,q x=true->p x=true)->(∃x∈l,p x=true/\q x=false)->(l.filter q).length<(l.filter p).length
 |[],_,h=>by simp_all
 |y::l,h,d=>by
  have o:(l.filter q).length<=(l.filter p).length:=by
   clear d
   induction l with
   |nil=>simp
   |cons z l g=>
    grind
  obtain⟨x,d,i,j⟩:=d;simp only[List.filter_cons];rcases List.mem_cons.1 d with e|d
  .grind
  .have g:=filter_lt l (fun x d=>h x (ak _ d)) ⟨x,d,i,j⟩
   grind
theorem Jq {lA:Array Bool} {j:Nat} (l:lA.size=ops.size) (d:j∈Region.ready .any ops lA):acW ops (lA.setIfInBounds j true)<acW ops lA:=by
 obtain⟨f,o,g,_⟩:=mem_ready.1 d;have i:j<ops.size:=(Array.getElem?_eq_some_iff.1 g).1;refine filter_lt _ (fun x p h=> ?_) ⟨j,List.mem_range.2 i,by rw[f];rfl, ?_⟩
 .by_cases e:j=x
  all_goals simp_all
 simp
theorem amH {lA:Array Bool} (h:acW ops lA=0):Region.ready .any ops lA=[]:=by
 simp_all [acW,Region.ready]
theorem iK.oldest {lA:Array Bool} {log:List Nat}: ∀{l:List Nat},iK ops lA log l->l≠[]-> ∃k∈l,k∈Region.ready .any ops lA
 |[],_,h=>absurd rfl h
 |[k],h,_=>by
  obtain⟨_,e,_,_,ok,f,_,_,_,g,_⟩:=h;simp_all [mem_ready]
 |k::m::l,h,_=>by
  obtain⟨x,d,hr⟩:=iK.oldest h.1 (by simp);exact⟨x,ak _ d,hr⟩
structure Lag (n:Nat) (sg:FuncId->Option Sum) (cl:Bool) (P:Program) (W0:World) (b0:Nat) (rd:Option Nat) (ats:List (Array Value)) (ops:Array Oper) (c:Cx) (st:St) (lE:Array Bool) (log:List Nat) (a:Act) (lA:Array Bool) (l:List (Nat×Value)):Prop where
 rel:iM W0 b0 rd c st (gq ops a l) ats
 pst:iK ops lA log (l.map (·.1))
 run:kK rd n P ops c a l
 sA:lA.size=ops.size
 sE:lE.size=ops.size
 sub: ∀j,lA.getD j false=true->lE.getD j false=true
 cov: ∀j,lE.getD j false=true->lA.getD j false=true\/j∈l.map (·.1)
 hE: ∀k∈l.map (·.1),lE.getD k false=true
 fit:LG sg cl ops st.fr (l.map (·.1))
theorem YO {l:Array Bool} {j:Nat} (h:j<l.size):l.getD j true=l.getD j false:=by simp[h]
theorem Lag.ready {d:Array Bool} {log:List Nat} {lA:Array Bool} {l:List (Nat×Value)} (h:Lag n sg cl P W0 b0 rd ats ops c st d log a lA l) {j:Nat} (g:j∈Region.ready .any ops lA) (v:j∉l.map (·.1)):j∈Region.ready .any ops d:=by
 obtain⟨x,i,f,o⟩:=mem_ready.1 g;have p:j<ops.size:=(Array.getElem?_eq_some_iff.1 f).1;refine mem_ready.2 ⟨?_,i,f,fun e q s=>h.sub _ (o e q s)⟩;cases hg:d.getD j true with
 |false=>rfl
 |true=>
  rw[YO (by rw[h.sE];exact p)]at hg;rcases h.cov j hg with u|u
  all_goals grind
theorem PQ (hd:mP ops=true) {f:Array Bool} {log:List Nat} {Q:Act->World->Prop}
  (I:Region.ready .any ops f=[]-> ∀w,Gw c w-> ∀a,iM W0 b0 rd (c.at_ w) st a ats->Q a w)
  (J: ∀(w:World),Gw c w-> ∀(d:Nat) (a:Act) (lA:Array Bool) (l:List (Nat×Value)) (j:Nat),Lag n sg cl P W0 b0 rd ats ops (c.at_ w) st f log a lA l->acW ops lA<=d+1->j∈Region.ready .any ops lA->j∉l.map (·.1)->j∈Region.ready .any ops f->
   wpOpIn (FW rd) n P ops (fun e a w=>e=.normal/\Q a w) j (wpAnyIn (FW rd) n P .any ops (fun e a w=>e=.normal/\Q a w) d (lA.setIfInBounds j true)) a w):
  ∀(m d:Nat) (w:World),Gw c w-> ∀(a:Act) (lA:Array Bool) (l:List (Nat×Value)),l.length=m->Lag n sg cl P W0 b0 rd ats ops (c.at_ w) st f log a lA l->acW ops lA<=d->
   wpAnyIn (FW rd) n P .any ops (fun e a w=>e=.normal/\Q a w) d lA a w:=by
 have B: ∀(w:World),Gw c w-> ∀(a:Act) (lA:Array Bool) (l:List (Nat×Value)),Lag n sg cl P W0 b0 rd ats ops (c.at_ w) st f log a lA l->Region.ready .any ops lA=[]->Q a w:=fun w g a lA l h hr=>by
  have hl:l=[]:=by
   cases l with
   |nil=>rfl
   |cons x l=>
    obtain⟨k,_,hk⟩:=iK.oldest h.pst (by simp);simp_all
  subst hl;refine I ?_ w g a h.rel;cases hrE:Region.ready .any ops f with
  |nil=>rfl
  |cons j W=>
   obtain⟨o,p,D,K⟩:=mem_ready.1 (show j∈Region.ready .any ops f by rw[hrE];simp);have s:j<ops.size:=(Array.getElem?_eq_some_iff.1 D).1;have:j∈Region.ready .any ops lA:=mem_ready.2 ⟨by
    cases hg:lA.getD j true with
    |false=>rfl
    |true=>
     rw[YO (by rw[h.sA];exact s)]at hg;exact(MG (h.sub j hg) o).elim,p,D,fun e M N=>(h.cov _ (K e M N)).resolve_right (by simp)⟩
   simp_all
 intro m
 induction m using Nat.strongRecOn with
 |ind m u=>
  intro d w g a lA l q h O;cases d with
  |zero=>
   have hr:=amH (ops:=ops) (lA:=lA) (by omega);exact⟨hr,rfl,B w g a lA l h hr⟩
  |succ d=>
   refine⟨fun hr=>⟨rfl,B w g a lA l h hr⟩,fun j i=> ?_⟩;by_cases hjl:j∈l.map (·.1)
   .obtain⟨X,p,y,Y⟩:=mem_ready.1 i;obtain⟨v,z,g1,g2,g3,g4⟩:=Xd hd y i h.pst h.run hjl;have s:j<ops.size:=(Array.getElem?_eq_some_iff.1 y).1;have S:p.guard=a7:=by
     have: ∀(l:List Nat),iK ops lA log l->j∈l->p.guard=a7:=fun l=>by
      induction l with
      |nil=>intro _ h;cases h
      |cons k l u=>
       intro E q;rcases List.mem_cons.1 q with e|q
       .subst e;obtain⟨_,_,_,_,ok,Z,_,h7,_⟩:=E;simp_all
       .exact u E.1 q
     exact this _ h.pst hjl
    have U:z.length<m:=by
     grind [aK]
    refine g1.wpOp (c:=c.at_ w) hd y S fun G A=> ?_;have V:Gw c G:=Below.trans g (A.mono g.size);refine u z.length U d G V _ _ z rfl ⟨by rw[g4];exact h.rel.ext A,by rw[g2];exact iK.take (by rw[h.sA];exact s) h.pst hjl,kK.ext A g3,by simpa using h.sA,h.sE,fun k hk=> ?_,fun k hk=> ?_,fun k hk=>h.hE k (by grind),fun k hk=>h.fit k (by grind)⟩ (by have:=Jq h.sA i;omega)
    .by_cases e:j=k
     .subst e;exact h.hE j hjl
     .rw[getD_set_ne false e]at hk;exact h.sub k hk
    .rcases h.cov k hk with o|o
     .exact .inl (getD_set_true o)
     grind [xx]
   .exact J w g d a lA l j h O i hjl (h.ready i hjl)
theorem anH {fr:List bQ} {d:Nat} {z:bQ} {x:Operand} (h:x≠ .tmp d):gY (fr.set d z) x=gY fr x:=by
 cases x with
 |tmp t=>
  grind [gY]
 |_=>rfl
theorem Bd {o:Oper} {dst:Option Nat} {z:bQ} (h: ∀d,dst=a6 d->d∉o.looksAt ops):jC o (st.put dst z).fr=jC o st.fr:=by
 cases dst with
 |none=>rfl
 |some d=>
  have f: ∀x∈o.op.operands,x≠ .tmp d:=fun x f e=>h d rfl (by
   subst e;exact List.mem_append_left _ (List.mem_filterMap.2 ⟨.tmp d,by simpa using f,rfl⟩))
  grind [jC,St.put,anH,Op.operands,Call.operands,List.map_congr_left]
theorem aia {o:Oper} {dst:Option Nat} {z:bQ} (h: ∀d,dst=a6 d->o.dst≠a6 d):zy o.dst (st.put dst z).fr=zy o.dst st.fr:=by
 cases dst with
 |none=>rfl
 |some d=>
  cases ho:o.dst with
  |none=>rfl
  |some e=>
   have f:d≠e:=fun x=>h d rfl (by rw[ho,x]);simp_all [zy,St.put]
theorem WU: ∀(rs:List (Ty×Bool)) y,(rs.all fun r=> !r.2&&r.1.rigid)=true->x8 rs y=a7/\news rs=0/\(rs.all fun r=>r.1.rigid||(r.2&&r.1.elem.rigid))=true
 |[],_,_=>⟨rfl,rfl,rfl⟩
 |(t,true)::rs,y,h=>by simp at h
 |(t,false)::rs,y,h=>by
  simp only[aW,az,aS,af]at h;obtain⟨d,e,f⟩:=WU rs y.2 h.2;simp_all [x8,news]
theorem VY {hp hp':gK}: ∀(d:List Ty) (args:List bQ),args.all bQ.calm=true->zG hp d args=zG hp' d args
 |[],[],_=>rfl
 |[],_::_,_=>rfl
 |_::_,[],_=>rfl
 |t::d,v::args,h=>by
  simp only[aW,af]at h;have e:v.as hp t=v.as hp' t:=by cases v<;>simp only[bQ.calm,ah]at h<;>first|rfl|simp_all
  have f:=VY (hp:=hp) (hp':=hp') d args h.2;simp only[zG,e,f]
theorem ah5 {R:Type} {r:R} {i:Nat} {e:Oper} {X:bQ->St->Option R} (hi:YU sg ops st.fr i=true) (A:ops[i]? =a6 e) (B: ∀d,e.dst=a6 d->d∉e.looksAt ops)
  (h:eF T cl (GG sg cl) e st X=a6 r): ∃z,X z st=a6 r/\jK e.op=true/\tZ sg cl e (st.put e.dst z).fr z:=by
 unfold YU at hi;rw[A]at hi;simp only at hi;split at hi
 .rename_i g o j
  split at hi
  .rename_i s D
   simp only[af]at hi;obtain⟨⟨p,q⟩,S⟩:=hi;obtain⟨U,E,V,W,Y,Z⟩:=e;cases E with
   |call c=>
    obtain⟨G,ab,ts⟩:=c;cases G with
    |value v=>
     have I:=j;simp only[jC,List.cons.injEq]at j;simp only[eF]at h;rw[j.1,j.2]at h;have J: ∀{R:Type} (dst:Option Nat) (l:St) (K:bQ->St->Option R),GG sg cl (.fn g []) o dst l K=match zG [] s.ps o with
       |some x=>bH (s.f x) fun y=>K (Nv (oZ 0 s.rs y)) l
       |none=>a7:=fun {R} dst l K=>by
      simp only[GG,D,p,q,Bool.and_self,aa,Sum.call];have u:=p;unfold KJ at u;rw[VY (hp:=l.hp) (hp':=[]) _ _ q];cases zG [] s.ps o with
      |none=>simp
      |some x=>
       simp only;cases hf:s.f x with
       |none=>simp[bH]
       |some y=>
        obtain⟨M,N,O⟩:=WU s.rs y u;simp[bH,M,N,O]
     rw[J]at h;split at h
     .rename_i x hx
      cases hf:s.f x with
      |none=>rw[hf]at h;cases h
      |some y=>
       rw[hf]at h;refine⟨_,h,rfl,rfl,⟨_,v,rfl,rfl⟩,UB _ (I7 0 s.rs y p),fun d hd=> ?_,.fn g [],o, ?_,fun dst l K=> ?_⟩
       .simp_all [PG,St.put]
       .rw[Bd (ops:=ops) B];exact I
       simp_all [bH]
     .cases h
    |_=>simp[jC]at j
   |_=>simp[jC]at j
  .cases hi
 .cases hi
theorem vW (hT:TOk P T) (hd:mP ops=true) (E: ∀R:Type,nN (R:=R) P (GG sg cl)) {ao:gz St} (V:mg P W0 n ao) {au:gz Unit} (W:mg P W0 n au) (X:xM sg ao) (Y:xM sg au): ∀(I:Nat) {R:Type} {r:R} {call:gz R} (Z:mg P W0 n call) (hx:xM sg call) {K:St->Option R} {Q:Act->World->Prop}
  (J:Array Bool) (log:List Nat) (c:Cx) (st:St),mD T cl sg ao au ops I call J log st K=a6 r->
  (∀c' g p,K g=a6 r->iM W0 b0 rd c' g p ats->c.Mono c'->Q p c'.w)-> ∀(s:Nat) (a:Act) (lA:Array Bool) (l:List (Nat×Value)),Lag n sg cl P W0 b0 rd ats ops c st J log a lA l->acW ops lA<=s->
   wpAnyIn (FW rd) n P .any ops (fun e a w=>e=.normal/\Q a w) s lA a c.w
 |0,R,r,call,Z,hx,K,Q,J,log,c,st,h,hQ,s,a,lA,l,hl,M=>by simp[mD]at h
 |I+1,R,r,call,Z,hx,K,Q,J,log,c,st,h,hQ,s,a,lA,l,hl,M=>by
  have av: ∀(w:World) (p:Act) (lA:Array Bool) (l v:List (Nat×Value)) (j:Nat) (c':Cx) (g:St) (a:Act),Lag n sg cl P W0 b0 rd ats ops (c.at_ w) st J log a lA l->j∈Region.ready .any ops lA->j∉l.map (·.1)->v.map (·.1)=l.map (·.1)->
    iM W0 b0 rd c' g (gq ops p v) ats->kK rd n P ops c' p v->LG sg cl ops g.fr (l.map (·.1))->Lag n sg cl P W0 b0 rd ats ops c' g (J.setIfInBounds j true) log p (lA.setIfInBounds j true) v:=fun w p lA l v j c' g a hl x y A e2 e3 e4=>by
   obtain⟨_,oj,aU,_⟩:=mem_ready.1 x;have aG:j<ops.size:=(Array.getElem?_eq_some_iff.1 aU).1;refine⟨e2,by rw[A];exact iK.set hl.pst y,e3,by simpa using hl.sA,by simpa using hl.sE,fun k hk=> ?_,fun k hk=> ?_,fun k hk=>getD_set_true (hl.hE k (by simp_all)),by rw[A];exact e4⟩
   .by_cases e:j=k
    .subst e;exact xx (by rw[hl.sE];exact aG)
    .rw[getD_set_ne false e]at hk ⊢;exact hl.sub k hk
   .by_cases e:j=k
    .grind [xx]
    .rw[getD_set_ne false e]at hk ⊢;rw[A];exact hl.cov k hk
  have aH: ∀(i:Nat) (f:Oper) (z:bQ) (u:Value),i∈Region.ready .any ops J->ops[i]? =a6 f->jK f.op=true->f.guard=a7->MZ ops log i=true->
    mD T cl sg ao au ops I call (J.setIfInBounds i true) (i::log) (st.put f.dst z) K=a6 r->bU c z u->H5 rd n P c (gq ops a l) f u->
    (iD f.op=false-> ∃z,tZ sg cl f (st.put f.dst z).fr z/\True)->(iD f.op=false->tZ sg cl f (st.put f.dst z).fr z)->
    wpAnyIn (FW rd) n P .any ops (fun e a w=>e=.normal/\Q a w) s lA a c.w:=fun i f z u ab B hq aV ai g1 g2 g3 _ g4=>by
   obtain⟨aI,bD,aJ,aX⟩:=mem_ready.1 ab;rw[B]at aJ;cases aJ;have aG:i<ops.size:=(Array.getElem?_eq_some_iff.1 B).1;have aZ:i∉l.map (·.1):=fun hm=>MG (hl.hE i hm) aI;have bd:lA.getD i true=false:=by
    cases hga:lA.getD i true with
    |false=>rfl
    |true=>
     rw[YO (by rw[hl.sA];exact aG)]at hga;exact(MG (hl.sub i hga) aI).elim
   have D:=ai;unfold MZ at D;rw[B]at D;simp only[af]at D;obtain⟨aw,D⟩:=D;have aO: ∀m∈l.map (·.1),∃om,ops[m]? =a6 om/\apT ops om f/\(tX ops i m=false->om.apart ops f=true):=fun m hm=>by
    have h3:=List.all_eq_true.1 D m (iK.log hl.pst m hm);split at h3
    .rename_i om bF
     simp only[af,Bool.or_eq_true]at h3
     grind [Mc]
    .cases h3
   refine vW hT hd E V W X Y I Z hx (Q:=Q) (J.setIfInBounds i true) (i::log) c (st.put f.dst z) g1 hQ s a lA ((i,u)::l) ⟨?_, ?_,⟨hl.run,f,B,g3⟩,hl.sA,by simpa using hl.sE,fun k hk=> ?_,fun k hk=> ?_,fun k hk=> ?_,fun k hk ok aP bf=> ?_⟩ M
   .have:=hl.rel.put (dst:=f.dst) g2;simp_all [gq,uo]
   .exact⟨iK.mono (fun k hk=>ak _ hk) hl.pst,bd,aF,aZ,f,B,hq,aV,fun d ad=>(Mc aw d ad).1,fun e he hb=>hl.cov _ (aX e he hb),aO⟩
   .by_cases e:i=k
    .grind
    .rw[getD_set_ne false e];exact hl.sub k hk
   .by_cases e:i=k
    .simp_all
    .rw[getD_set_ne false e]at hk;exact(hl.cov k hk).imp (fun h=>h) fun h=>ak _ h
   .rcases List.mem_cons.1 hk with e|hk
    .grind [xx]
    .exact getD_set_true (hl.hE k hk)
   .rcases List.mem_cons.1 hk with e|hk
    .grind
    .obtain⟨z',bg⟩:=hl.fit k hk ok aP bf;obtain⟨om,G,h2,_⟩:=aO k hk;rw[aP]at G;cases G;exact⟨z',bg.same (Bd (ops:=ops) fun d ad=>(h2 d ad).1).symm (aia fun d ad=>(h2 d ad).2).symm⟩
  simp only[mD]at h;split at h
  .rename_i al
   exact PQ (n:=n) (sg:=sg) (cl:=cl) hd (fun _ w N a hr=>hQ (c.at_ w) st a h hr (Cx.Le.ext N).mono) (fun w N s a lA l j _ _ _ _ x=>by simp_all) _ s c.w (Below.refl _ _) a lA l rfl hl M
  .rename_i k rs al
   split at h
   .rename_i i hf
    have an:=List.find?_some hf;simp only[af]at an;replace an:=an.1;have ab:=List.mem_of_find?_eq_some hf;rw[<-al]at ab;split at h
    .rename_i f B
     replace h:=dG h;obtain⟨O,h⟩:=h;simp only[af]at O;obtain⟨O,ai⟩:=O;have hq:iD f.op=true:=by
      grind [WY]
     obtain⟨z,u,g1,g2,g3⟩:=Ai hT hl.rel.ok hq hl.rel.hp hl.rel.fr h;exact aH i f z u ab B (aou hq) (by simpa using O) ai g1 g2 (.of_run g3) (fun h0=>by simp_all) (fun h0=>by simp_all)
    .cases h
   .split at h
    .rename_i i hf
     have an:=List.find?_some hf;have ab:=List.mem_of_find?_eq_some hf;rw[<-al]at ab;split at h
     .rename_i f B
      replace h:=dG h;obtain⟨O,h⟩:=h;simp only[af]at O;obtain⟨O,ai⟩:=O;have aw: ∀d,f.dst=a6 d->d∉f.looksAt ops:=by
       have D:=ai;unfold MZ at D;rw[B]at D;simp only[af]at D;exact fun d ad=>(Mc D.1 d ad).1
      obtain⟨z,g1,g2,g3⟩:=ah5 an B aw h;obtain⟨g4,g5⟩:=Q5 (n:=n) hT (E Unit) g3 (Bd (ops:=ops) aw) hl.rel;exact aH i f z _ ab B g2 (by simpa using O) ai g1 g4 g5 (fun _=>⟨z,g3,trivial⟩) (fun _=>g3)
     .cases h
    .split at h
     .refine PQ (n:=n) (sg:=sg) (cl:=cl) hd (fun hr=>by simp_all) (fun w N s a lA l j hl M x y S=> ?_) _ s c.w (Below.refl _ _) a lA l rfl hl M;rw[al]at S;obtain rfl:j=k:=by simpa using S
      refine Fg (c:=c.at_ w) hT hd (E Unit) Z hl.fit x hl.pst y hl.rel h fun c' g p v k1 A k2 k3 k5 k4=> ?_;exact vW hT hd E V W X Y I Z hx (Q:=Q) _ log c' g k1 (fun aA aB ag q q2 q3=>hQ aA aB ag q q2 ((Cx.Le.ext N).mono.trans (k4.trans q3))) s p _ v (av w p lA l v j c' g a hl x y A k2 k3 k5) (by have:=Jq hl.sA x;omega)
     .rw[cond_eq_ite]at h;split at h
      rotate_left
      .rename_i aQ
       simp only[Bool.or_eq_true,Bool.not_eq_true',not_or,aY,Bool.not_eq_false]at aQ;have hp: ∀o∈ops.toList,vP sg o.op=true:=fun o ho=>List.all_eq_true.1 aQ.2 o ho;refine PQ (n:=n) (sg:=sg) (cl:=cl) hd (fun hr=>by simp_all) (fun w N s a lA l j hl M x y S=> ?_) _ s c.w (Below.refl _ _) a lA l rfl hl M;rw[al]at S;rcases List.mem_cons.1 S with rfl|bi
       .refine Fg (c:=c.at_ w) hT hd (E Unit) Z hl.fit x hl.pst y hl.rel h fun c' g p v k1 A k2 k3 k5 k4=> ?_;exact vW hT hd E V W X Y I Z hx (Q:=Q) _ log c' g k1 (fun aA aB ag q q2 q3=>by
         replace q:=dG q;obtain⟨q0,q⟩:=q;obtain⟨c3,U,m3,w3⟩:=q2.tidy cl;split at q
         .rename_i m hm
          replace q:=(yK _ q).1;have:=aff hm hl.rel.wf q0 U.wf;subst this;rw[<-w3];exact hQ c3 _ ag q U ((Cx.Le.ext N).mono.trans (k4.trans (q3.trans m3)))
         .cases q) s p _ v (av w p lA l v j c' g a hl x y A k2 k3 k5) (by have:=Jq hl.sA x;omega)
       .obtain⟨_,G⟩:=Yx hx hp h;obtain⟨cb,G⟩:=Sl hp X Y I hx _ _ _ _ G;replace G:=(dG G).2;split at G
        .rename_i m hm
         obtain⟨hK,bn⟩:=yK _ G;have bt:=bn _ (List.mem_map.2 ⟨j,bi,rfl⟩);refine Fg (c:=c.at_ w) hT hd (E Unit) W hl.fit x hl.pst y hl.rel bt fun c' g p v k1 A k2 k3 k5 k4=> ?_;exact vW hT hd E V W X Y I W Y (Q:=Q) _ log c' g k1 (fun aA aB ag q q2 q3=>by
          replace q:=(dG q).1;simp only[af]at q;obtain⟨c3,U,m3,w3⟩:=q2.tidy cl;have:=aoD hm hl.rel.wf q.1 q.2 U.wf;subst this;rw[<-w3];exact hQ c3 _ ag hK U ((Cx.Le.ext N).mono.trans (k4.trans (q3.trans m3)))) s p _ v (av w p lA l v j c' g a hl x y A k2 k3 k5) (by have:=Jq hl.sA x;omega)
        .cases G
      split at h
      .rename_i cc bu
       refine PQ (n:=n) (sg:=sg) (cl:=cl) hd (fun hr=>by simp_all) (fun w N s a lA l j hl M x y S=> ?_) _ s c.w (Below.refl _ _) a lA l rfl hl M;rw[al]at S;obtain⟨b,bz,bC⟩:=aeu bu hl.rel.wf _ (List.mem_map.2 ⟨j,S,rfl⟩);refine Fg (c:=c.at_ w) hT hd (E Unit) V hl.fit x hl.pst y hl.rel bz fun c' g p v k1 A k2 k3 k5 k4=> ?_;exact vW hT hd E V W X Y I V X (Q:=Q) _ log c' g k1 (fun aA aB ag q q2 q3=>by
        cases q;obtain⟨c3,U,m3,w3⟩:=q2.tidy cl;have:=bC U.wf;subst this;rw[<-w3];exact hQ c3 _ ag h U ((Cx.Le.ext N).mono.trans (k4.trans (q3.trans m3)))) s p _ v (av w p lA l v j c' g a hl x y A k2 k3 k5) (by have:=Jq hl.sA x;omega)
      .cases h
theorem agV (hT:TOk P T) (q:P.follows .mixedOrders=true) (hd:mP ops=true) (s: ∀R:Type,nN (R:=R) P (GG sg cl)) {g:gz St} (u:mg P W0 n g) {i:gz Unit} (v:mg P W0 n i) (x:xM sg g) (y:xM sg i) {R:Type} {r:R} {call:gz R} (z:mg P W0 n call) (hx:xM sg call) {id o:Nat} {K:St->Option R} {Q:Exit->Act->World->Prop}
  (h:mD T cl sg g i ops o call (Array.replicate ops.size false) [] st K=a6 r) (hr:iM W0 b0 rd c st a ats) (A: ∀c' d f,K d=a6 r->iM W0 b0 rd c' d f ats->c.Mono c'->Q .normal f c'.w):
  (Code.region id ops true).wpIn (FW rd) n P Q a c.w:=by
 have p:Gw c {c.w with drawn:=c.w.drawn+1}:=⟨rfl,rfl,rfl,ae _,fun _ _=>rfl⟩;have B:=hr.ext p;have D:=vW (Q:=fun a w=>Q .normal a w) hT hd s u v x y o z hx _ [] (c.at_ {c.w with drawn:=c.w.drawn+1}) st h (fun c' d f k1 k2 k3=>A c' d f k1 k2 ((Cx.Le.ext p).mono.trans k3)) ops.size a
  (Array.replicate ops.size false) [] ⟨B,trivial,trivial,by simp,by simp,fun j l=>l,fun j l=>.inl l,(fun k hk=>by cases hk),(fun k hk=>by cases hk)⟩ (by
   grind [acW])
 exact Code.wpIn_mono (fun e a w E=>by simp_all) (wpIn_region_any q D)
end
end
section
open Option renaming some → a6, none → a7
open Bool renaming and_eq_true → af
open Nat renaming le_trans → aB
open Go.RowKit
section
variable {P:Program} {T:TT} {W0:World} {b0:Nat} {rd:Option Nat} {R:Type} {r:R} {ats:List (Array Value)}
theorem apM {F:Fence} {n:Nat} {Q:Exit->Act->World->Prop} {a:Act} {w:World} {e:Ex} {d:Code} (f:e.code=a6 d) (h:Q e.xt a w):d.wpIn F n P Q a w:=by
 cases e<;>simp only[Ex.code,Option.some.injEq,reduceCtorEq]at f<;>subst f
 .exact wpIn_exit h
 .exact wpIn_goto h
 .exact wpIn_ret h
theorem Tj {n:Nat} {F:St->(Ex->St->Option R)->Option R} {K:Ex->St->Option R} {Q:Exit->Act->World->Prop} {code:Code} {kp:Option eQ}
  (hF: ∀(E:Ex->St->Option R) (G:Exit->Act->World->Prop) (c:Cx) (st:St) (a:Act),F st E=a6 r->iM W0 b0 rd c st a ats->b0<=c.w.heap.size->(∀e c' g z,E e g=a6 r->iM W0 b0 rd c' g z ats->c.Mono c'->G e.xt z c'.w)->code.wpIn (FW rd) n P G a c.w)
  {c:Cx} {st:St} {a:Act} (m:Nat) (h:iter kp F m st K=a6 r) (hr:iM W0 b0 rd c st a ats) (hb:b0<=c.w.heap.size) (x: ∀e c' g z,K e g=a6 r->iM W0 b0 rd c' g z ats->c.Mono c'->Q e.xt z c'.w):
  (Code.loop code).wpIn (FW rd) n P Q a c.w:=by
 refine wpIn_loop_ghost (fun m a w=> ∃c' g,iter kp F m g K=a6 r/\iM W0 b0 rd c' g a ats/\c.Mono c'/\c'.w=w) m ⟨c,st,h,hr,Cx.Mono.refl c,rfl⟩ ?_;rintro m a w ⟨I,J,D,M,f,rfl⟩;cases m with
 |zero=>simp[iter]at D
 |succ m=>
  simp only[iter]at D;refine hF _ _ I J a D M (aB hb f.size) fun e A B y d i j=> ?_;cases e with
  |normal=>
   simp only at d;simp only[Ex.xt,Exit.then];cases kp with
   |none=>exact⟨m,Nat.lt_succ_self m,A,B,d,i,f.trans j,rfl⟩
   |some k=>
    simp only at d;split at d
    .rename_i o p
     obtain⟨q,s,u,v⟩:=qg i p;exact⟨m,Nat.lt_succ_self m,q,o,d,s,(f.trans j).trans u,v⟩
    .cases d
  |ret=>
   simp only at d;simp only[Ex.xt,Exit.then];cases kp with
   |none=>exact x .ret A B y d i (f.trans j)
   |some k=>
    simp only at d;split at d
    .rename_i o p
     obtain⟨q,s,u,v⟩:=XQ i p;rw[<-v];exact x .ret q o y d s ((f.trans j).trans u)
    .cases d
  |exit id=>
   simp only at d;simp only[Ex.xt,Exit.then];cases kp with
   |none=>exact x (.exit id) A B y d i (f.trans j)
   |some k=>
    simp only at d;split at d
    .rename_i o p
     obtain⟨q,s,u,v⟩:=qg i p;rw[<-v];exact x (.exit id) q o y d s ((f.trans j).trans u)
    .cases d
  |goto l=>
   simp only at d;simp only[Ex.xt,Exit.then];cases kp with
   |none=>exact x (.goto l) A B y d i (f.trans j)
   |some k=>
    simp only at d;split at d
    .rename_i o p
     obtain⟨q,s,u,v⟩:=qg i p;rw[<-v];exact x (.goto l) q o y d s ((f.trans j).trans u)
    .cases d
theorem V6 {n:Nat} {F:St->(Ex->St->Option R)->Option R} {K:Ex->St->Option R} {Q:Exit->Act->World->Prop} {code:Code} {kp:Option eQ}
  (hF: ∀(z:Ex->St->Option R) (A:Exit->Act->World->Prop) (c:Cx) (st:St) (a:Act),F st z=a6 r->iM W0 b0 rd c st a ats->b0<=c.w.heap.size->(∀e c' x y,z e x=a6 r->iM W0 b0 rd c' x y ats->c.Mono c'->A e.xt y c'.w)->code.wpIn (FW rd) n P A a c.w)
  {c:Cx} {st:St} {a:Act} (m:Nat) (h:iter kp (Du F) m st (uQ 999999 K)=a6 r) (hr:iM W0 b0 rd c st a ats) (hb:b0<=c.w.heap.size) (q: ∀e c' x y,K e x=a6 r->iM W0 b0 rd c' x y ats->c.Mono c'->Q e.xt y c'.w):
  code.wpIn (FW rd) n P Q a c.w:=by
 cases m with
 |zero=>simp[iter]at h
 |succ m=>
  simp only[iter,Du]at h;refine hF _ _ c st a h hr hb fun e B D s d u v=> ?_;cases e with
  |normal=>
   simp only at d;cases kp with
   |none=>
    simp only[uQ,beq_self_eq_true,aa]at d
    grind
   |some k=>
    simp only at d;split at d
    .rename_i f g
     obtain⟨i,j,o,p⟩:=qg u g;simp only[uQ,beq_self_eq_true,aa]at d;rw[<-p];exact q .normal i f s d j (v.trans o)
    .cases d
  |ret=>
   simp only at d;cases kp with
   |none=>exact q .ret B D s d u v
   |some k=>
    simp only at d;split at d
    .rename_i f g
     obtain⟨i,j,o,p⟩:=XQ u g;rw[<-p];exact q .ret i f s d j (v.trans o)
    .cases d
  |exit id=>
   simp only at d;rw[cond_eq_ite]at d;split at d
   .cases d
   .rename_i G
    have E:(id==999999)=false:=by
     simp_all
    cases kp with
    |none=>
     simp only[uQ,E,ac]at d
     grind
    |some k=>
     simp only at d;split at d
     .rename_i f g
      obtain⟨i,j,o,p⟩:=qg u g;simp only[uQ,E,ac]at d;rw[<-p];exact q (.exit id) i f s d j (v.trans o)
     .cases d
  |goto l=>
   simp only at d;cases kp with
   |none=>exact q (.goto l) B D s d u v
   |some k=>
    simp only at d;split at d
    .rename_i f g
     obtain⟨i,j,o,p⟩:=qg u g;rw[<-p];exact q (.goto l) i f s d j (v.trans o)
    .cases d
theorem uj {n:Nat} {f:FuncId} {args:Array Value} {w:World} {Rr:Ending->World->Prop} (h:Calls P f args w Rr):CallsIn (FW rd) n P f args w Rr:=(callsIn_wide (n:=n)).2 h
theorem aeV {n:Nat} {f:FuncId} {cl:Bool} {ex:nG R} (ah:uX P W0 ex) {fv:Operand} {p:Array Tmp} {jo q:Code} {K:Ex->St->Option R} {Q:Exit->Act->World->Prop} {c:Cx} {st:St} {a:Act} {g:FuncId} {M:List bQ}
  (N:bU c (.fn g M) (a.eval fv))
  {W:Option Nat} (ai: ∀k,W=a6 k->rH f k=a6 (jo,q))
  (h:alloc cl (a6 (700000+p.toList.headD 0)) (.lp f st.fr p.toList jo q W 0 a7) st (fun id st=>
    ex (.call g (.yld id::M)) {st with stk:=[.yld id]::st.stk} fun _ st=>match st.stk with
     |[.yld id]::stk=>match dO st.hp id with
      |some (.lp _ _ _ _ _ _ 0 a7)=>K .normal {st with stk:=stk,hp:=iV st.hp id .dead}
      |some (.lp _ _ _ _ _ _ 1 (a6 e))=>K e {st with stk:=stk,hp:=iV st.hp id .dead}
      |_=>a7
     |_=>a7)=a6 r)
  (hr:iM W0 b0 rd c st a ats) (hb:b0<=c.w.heap.size) (hQ: ∀e c' ad a',K e ad=a6 r->iM W0 b0 rd c' ad a' ats->c.Mono c'->Q e.xt a' c'.w):
  (Code.rangeFunc fv p jo q).wpIn (FW rd) n P Q a c.w:=by
 obtain⟨id,n',h3,h4,h5,h⟩:=jf h;simp only[bU]at N;obtain⟨O,N,aj⟩:=N;refine wpIn_rangeFunc fun fn _=> ?_;obtain⟨s,d,aJ,G,ak,al,an⟩: ∃(s:List Deferred) (d:Cx),d.hp=c.hp/\iM W0 b0 rd d st {a with defers:=s++a.defers} ats/\c.Mono d/\c.Le0 d/\
   ∃L:Loop,L.tmps=a.tmps/\L.params=p/\L.assign=jo/\L.body=q/\L.state=.ready/\L.pending=a7/\(Instr.enterLoop fn a.tmps p jo q rd).run P c.w=.ok (d.w.heap.size,s) (d.w.alloc (.loop L)):=by
  cases rd with
  |none=>
   obtain⟨S,ao⟩:=auR hr.ok;refine⟨[mkD c.w.heap.size],{c with w:=c.w.alloc (.deferred (a6 [])),mks:=c.w.heap.size::c.mks},rfl,⟨hr.hp,hr.nxt,ao,bJ.le S _ _ hr.fr,CS.le S _ _ hr.stk, ?_,fun l hl=>by cases hl⟩,S.mono,S.le0,{state:=.ready,pending:=a7,fn,tmps:=a.tmps,params:=p,assign:=jo,body:=q,defers:=c.w.heap.size},rfl,rfl,rfl,rfl,rfl,rfl, ?_⟩
   .obtain⟨X,Y,Z,e3⟩:=hr.df;refine⟨c.w.heap.size::X,by simp[Y],List.nodup_cons.2 ⟨fun hm=> ?_,Z⟩,fun x hx=> ?_⟩
    .have:=hr.ok.mark_lt (e3 _ hm).1;omega
    grind
   rfl
  |some l0=>
   obtain⟨L0,au⟩:=hr.rd l0 rfl;exact⟨[],c,rfl,hr,Cx.Mono.refl c,(Cx.Le.refl c).le0,{state:=.ready,pending:=a7,fn,tmps:=a.tmps,params:=p,assign:=jo,body:=q,defers:=L0.defers},rfl,rfl,rfl,rfl,rfl,rfl,run_enterLoop_inner au fn a.tmps p jo q⟩
 obtain⟨L,q1,q2,q3,q4,q5,q6,q7⟩:=an;subst q2 q3 q4;obtain⟨U,hd,aK,hy,_⟩:=aFe G.ok (st:=st) G.hp G.nxt h3 h4 h5 (f:=f) (fr:=st.fr) (L:=L) (by rw[q1];exact G.fr) q5 q6 ai;have v:=G.did hd;have ae:c.Mono U:=ak.trans hd.le.mono;have av:iM W0 b0 rd U {st with stk:=[.yld id]::st.stk,hp:=(id,.lp f st.fr L.params.toList L.assign L.body W 0 a7)::st.hp,nxt:=n'} {a with defers:=s++a.defers} (#[.func (.yield d.w.heap.size) #[] #[]]::ats):=
  ⟨v.hp,v.nxt,v.ok,v.fr,⟨by simpa [bJ] using hy,v.stk⟩,v.df,v.rd⟩
 have aO:bJ U M O.toList:=bJ.le hd.le _ _ (bJ.le0 al _ _ aj);have aP:=ah g (.yld id::M) _ _ r h b0 rd U {a with defers:=s++a.defers} (#[.func (.yield d.w.heap.size) #[] #[]]::ats) (#[.func (.yield d.w.heap.size) #[] #[]]++O) av (by simp_all [bJ])
  (rangePost (FW rd) n P d.w.heap.size Q {a with defers:=s++a.defers}) (by
   intro c3 z u aw B i _ ag;have I:=i.stk;split at B
   .rename_i D aQ ax
    rw[ax]at I;obtain⟨V,I⟩:=I;simp only[bJ,and_true]at V;have E: ∀{o},dO aw.hp D=a6 o->dO c3.hp D=a6 o:=fun {o} ho=>by rw[i.hp];exact ho
    simp only[bU]at V;split at B
    .rename_i f3 ay az aA aF aG y
     obtain⟨_,hB,L3,J,aH,Y,Z,e3,e4,e5⟩:=i.ok.obj D _ (E y);have A:=V.2.2 _ _ _ _ _ _ _ _ (E y);have A:d.w.heap.size=(c3.mu D).blk:=by simpa using A
     obtain⟨c4,p1,p2,j,p4,p5,p6⟩:=IY i.ok (E y) J {L3 with state:=.exhausted,pending:=a7} (o':=.dead) (.inl rfl);refine⟨_,_,(by rw[A];exact run_endLoop J (by rw[e4];decide)), ?_⟩;rw[e5];simp only;rw[<-p5];refine hQ .normal c4 _ _ B ⟨by rw[p1,i.hp],by rw[p2,i.nxt],p4,bJ.le j _ _ i.fr,CS.le j _ _ I, ?_, ?_⟩ ((ae.trans ag).trans j.mono)
     .obtain⟨X,w1,w2,w3⟩:=i.df
      grind
     .intro l hl;obtain⟨Ll,ab⟩:=i.rd l hl;exact j.lp l Ll ab
    .rename_i f3 ay az aA aF aG e0 y
     obtain⟨_,hB,L3,J,aH,Y,Z,e3,e4,e5,e6⟩:=i.ok.obj D _ (E y);have A:=V.2.2 _ _ _ _ _ _ _ _ (E y);have A:d.w.heap.size=(c3.mu D).blk:=by simpa using A
     refine⟨_,_,(by rw[A];exact run_endLoop J (by rw[e4];decide)), ?_⟩;rw[e5];cases he0:e0.code with
     |none=>exact absurd he0 e6
     |some cd=>
      obtain⟨c4,p1,p2,j,p4,p5,p6⟩:=IY i.ok (E y) J {L3 with state:=.exhausted,pending:=a6 cd} (o':=.dead) (.inl rfl);simp only;refine apM he0 ?_;rw[<-p5];refine hQ e0 c4 _ _ B ⟨by rw[p1,i.hp],by rw[p2,i.nxt],p4,bJ.le j _ _ i.fr,CS.le j _ _ I, ?_, ?_⟩ ((ae.trans ag).trans j.mono)
      .obtain⟨X,w1,w2,w3⟩:=i.df
       grind
      .intro l hl;obtain⟨Ll,ab⟩:=i.rd l hl;exact j.lp l Ll ab
    .cases B
   .cases B)
 refine⟨d.w.heap.size,s,d.w.alloc (.loop L),{target:=.fn (.func g) O,args:= #[.func (.yield d.w.heap.size) #[] #[]]},d.w.alloc (.loop L),g,#[.func (.yield d.w.heap.size) #[] #[]]++O,d.w.alloc (.loop L),q7, ?_,fun _ _=>trivial, ?_,pG rd, ?_⟩
 .have aI:a.eval (.const (.func (.yield d.w.heap.size) #[] #[]))=.func (.yield d.w.heap.size) #[] #[]:=rfl;simp only[resolve,N];simp[go_sem,aI]
 .simp_all [invoke]
 simp_all [uj]
def XX {R:Type} (E:Env) (e:nG R) (g:X0) (f:FuncId) (c:Code) (L:dE):Prop:=
 ∀(r:R) (st:St) (v:L.V) (K:Ex->St->Option R),(∀h i d,Lt h i st=a6 d->WfH d.hp)->L.get st=a6 v->
  (bH (L.spec v) fun o=>dN o (fun a=>K (L.exA v) (L.stA st v a)) fun b=>K (L.exB v) (L.stB st v b))=a6 r->
  ∃m d,(match E.kp f (dH c)with|none=>d=st|some k=>Lt k.slots k.owns st=a6 d)/\iter (E.kp f (dH c)) (run E e g f c) m d K=a6 r
def afI {R:Type} (E:Env) (e:nG R) (g:X0) (f:FuncId) (c:Code) (L:dE):Prop:=
 ∀(r:R) (st:St) (v:L.V) (K:Ex->St->Option R),(∀h i d,Lt h i st=a6 d->WfH d.hp)->L.get st=a6 v->
  (bH (L.spec v) fun o=>dN o (fun a=>K (L.exA v) (L.stA st v a)) fun b=>K (L.exB v) (L.stB st v b))=a6 r->
  ∃m d,(match E.kp f (800000+dH c)with|none=>d=st|some k=>Lt k.slots k.owns st=a6 d)/\iter (E.kp f (800000+dH c)) (Du (run E e g f c)) m d K=a6 r
def jq {R:Type} (E:Env) (d:nG R) (e:X0) (f:FuncId):Code->Prop
 |.seq a b=>(jq E d e f a/\ ∀L,E.lp f (800000+dH b)=a6 L->L.dep.ble E.dp=true->afI E d e f b L)/\jq E d e f b
 |.cond _ a b=>jq E d e f a/\jq E d e f b
 |.block _ c=>jq E d e f c
 |.scope c=>jq E d e f c
 |.loop c=>jq E d e f c/\ ∀L,E.lp f (dH c)=a6 L->L.dep.ble E.dp=true->XX E d e f c L
 |.rangeFunc _ _ jo g=>jq E d e f jo/\jq E d e f g/\(E.rf f (dH g)=true->rH f (dH g)=a6 (jo,g))
 |_=>True
theorem iO {E:Env} {d:nG R} {e:X0} {f:FuncId} (h: ∀id,E.lp f id=a7) (h2: ∀id,E.rf f id=false): ∀c:Code,jq E d e f c
 |.seq a b=>⟨⟨iO h h2 a,fun L hL=>by simp_all⟩,iO h h2 b⟩
 |.cond _ a b=>⟨iO h h2 a,iO h h2 b⟩
 |.block _ c=>iO (E:=E) h h2 c
 |.scope c=>iO (E:=E) h h2 c
 |.loop c=>⟨iO h h2 c,fun L hL=>by simp_all⟩
 |.rangeFunc _ _ a b=>⟨iO h h2 a,iO h h2 b,fun g=>by simp_all⟩
 |.skip|.label _|.region _ _ _|.exit _|.goto _|.ret|.refuse _=>trivial
def We (E:Env) (n:Nat):X0:=⟨fun j st=>kX E n (R:=bQ) j st fun v _=>a6 v,kX E n,kX E n⟩
def dQ (E:Env) (f:FuncId) (c:Code) (L:dE):Prop:=
 ∀(R:Type) (m:Nat),XX (R:=R) (E.at (m+L.dep)) (kX E (m+L.dep)) (We E (m+L.dep)) f c L
def zD (E:Env) (f:FuncId) (c:Code) (L:dE):Prop:=
 ∀(R:Type) (m:Nat),afI (R:=R) (E.at (m+L.dep)) (kX E (m+L.dep)) (We E (m+L.dep)) f c L
def dM (E:Env) (f:FuncId) (c:Code):Prop:= ∀(R:Type) (m:Nat),jq (R:=R) (E.at m) (kX E m) (We E m) f c
theorem iZ {E:Env} {f:FuncId} (h: ∀id,E.lp f id=a7) (h2: ∀id,E.rf f id=false) (c:Code):dM E f c:=fun R m=>iO (E:=E.at m) h h2 c
theorem NC (hT:TOk P T) (hm:P.follows .mixedOrders=true) {n:Nat} {E:Env} (aw:E.T=T) {f:FuncId} {X:nG R} {O:X0} (ag:mg P W0 n (wM E X)) (hq:nN (R:=R) P (RH E O.q)) (ax:uX P W0 X) (hS:mg P W0 n (wM E O.s)) (hU:mg P W0 n (wM E O.u)) (ay: ∀R:Type,nN (R:=R) P (GG E.sg E.cl)):
  ∀(code:Code),jq E X O f code-> ∀(K:Ex->St->Option R) (Q:Exit->Act->World->Prop) (c:Cx) (st:St) (a:Act),run E X O f code st K=a6 r->iM W0 b0 rd c st a ats->b0<=c.w.heap.size->
   (∀e c' o p,K e o=a6 r->iM W0 b0 rd c' o p ats->c.Mono c'->Q e.xt p c'.w)->code.wpIn (FW rd) n P Q a c.w:=by
 subst aw;intro code
 induction code with
 |skip=>intro _ K Q c st a h hr A j;exact wpIn_skip (j .normal c st a h hr (Cx.Mono.refl c))
 |label l=>intro _ K Q c st a h hr A j;exact wpIn_label (j .normal c st a h hr (Cx.Mono.refl c))
 |region id ops az=>
  intro _ K Q c st a h hr A j;simp only[run]at h;have ah: ∃I,F5 (E.kp f (600000+id)) st={st with fr:=I}/\bJ c I a.tmps.toList:=by
   cases E.kp f (600000+id)with
   |none=>exact⟨st.fr,rfl,hr.fr⟩
   |some k=>exact⟨_,rfl,zW _ _ _ hr.fr⟩
  obtain⟨I,e1,e2⟩:=ah;rw[e1]at h;replace hr:iM W0 b0 rd c {st with fr:=I} a ats:=⟨hr.hp,hr.nxt,hr.ok,e2,hr.stk,hr.df,hr.rd⟩;generalize ({st with fr:=I}:St)=st at h hr;cases az with
  |true=>
   simp only[aa]at h;rw[cond_eq_ite]at h;split at h
   .rename_i ab
    simp only[af]at ab;exact Og hT hm hq ab.1 h hr fun c' o p d=>j .normal c' o p d
   .split at h
    .rename_i l aA
     exact VJ hT hm ag aA h hr fun c' o p d=>j .normal c' o p d
    .rw[cond_eq_ite]at h;split at h
     .rename_i ab
      simp only[af]at ab;exact Og hT hm hq ab.1 h hr fun c' o p d=>j .normal c' o p d
     replace h:=dG h;exact agV hT hm h.1 ay hS hU Yc Yc ag Yc h.2 hr fun c' o p d=>j .normal c' o p d
  |false=>
   simp only[ac]at h;exact wpIn_region_list (Nc hT ag ops ops.toList c st a h hr fun c' o p d=>j .normal c' o p d)
 |seq x y ihx S=>
  intro hl K Q c st a h hr A j;replace ihx:=ihx hl.1.1;replace S:=S hl.2;simp only[run]at h;refine wpIn_seq (ihx _ _ c st a h hr A fun e c' o p d z B=> ?_);cases e with
  |normal=>
   have ae:=aB A B.size;have au: ∀e U Y Z,K e Y=a6 r->iM W0 b0 rd U Y Z ats->c'.Mono U->Q e.xt Z U.w:=fun e U Y Z ai aj ak=>j e U Y Z ai aj (B.trans ak);have al: ∀(J:Option eQ) (m:Nat) (D:St),(match J with|none=>D=o|some k=>Lt k.slots k.owns o=a6 D)->iter J (Du (run E X O f y)) m D (uQ 999999 K)=a6 r->y.wpIn (FW rd) n P Q p c'.w:=by
    intro J m D M h2;cases J with
    |none=>grind [V6]
    |some k=>
     obtain⟨c1,V,ad,an⟩:=qg z M;rw[<-an];exact V6 S m h2 V (aB ae ad.size) fun e U Y Z ai aj ak=>au e U Y Z ai aj (ad.trans ak)
   simp only[aHR,cutAt]at d;split at d
   .rename_i L hL
    replace d:=dG d;obtain⟨ao,d⟩:=d;split at d
    .rename_i v N
     obtain⟨m,D,M,h2⟩:=hl.1.2 L hL ao r o v (uQ 999999 K) (fun aF aG D ht=>let⟨c1,V,_,_⟩:=qg z ht;V.wf) N d;exact al _ m D M h2
    .cases d
   .split at d
    .exact S _ _ c' o p d z ae au
    .rename_i k hk
     split at d
     .rename_i D M
      exact al (a6 k) bM D M d
     .cases d
  |exit id=>exact j (.exit id) c' o p d z B
  |goto l=>exact j (.goto l) c' o p d z B
  |ret=>exact j .ret c' o p d z B
 |cond cnd x y ihx S=>
  intro hl K Q c st a h hr A j;replace ihx:=ihx hl.1;replace S:=S hl.2;simp only[run]at h;have N:=dR hr.fr cnd;split at h
  .rename_i b ae
   rw[ae]at N;simp only[bU]at N;have N:=N.bool_inv
   grind [wpIn_cond_true,wpIn_cond_false]
  .cases h
 |block id x G=>
  intro hl K Q c st a h hr A j;replace G:=G hl;simp only[run]at h;refine wpIn_block (G _ _ c st a h hr A fun e c' o p d z B=> ?_);cases e with
  |normal=>exact j .normal c' o p d z B
  |exit i=>
   simp only[uQ]at d;simp only[Ex.xt,Exit.inBlock];rw[cond_eq_ite]at d;split at d
   .rename_i W
    have W:i=id:=by simpa using W
    rw[am W];exact j .normal c' o p d z B
   .rename_i W
    have W:i≠id:=by simpa using W
    rw[aq W];exact j (.exit i) c' o p d z B
  |goto l=>exact j (.goto l) c' o p d z B
  |ret=>exact j .ret c' o p d z B
 |loop x G=>
  intro hl K Q c st a h hr A j;replace G:=G hl.1;have al: ∀(J:Option eQ) (m:Nat) (D:St),(match J with|none=>D=st|some k=>Lt k.slots k.owns st=a6 D)->iter J (run E X O f x) m D K=a6 r->(Code.loop x).wpIn (FW rd) n P Q a c.w:=by
   intro J m D M h2;cases J with
   |none=>grind [Tj]
   |some k=>
    obtain⟨c1,V,ad,an⟩:=qg hr M;rw[<-an];exact Tj G m h2 V (aB A ad.size) fun e c' o p d z B=>j e c' o p d z (ad.trans B)
  simp only[run]at h;split at h
  .rename_i L hL
   replace h:=dG h;obtain⟨ao,h⟩:=h;split at h
   .rename_i v N
    obtain⟨m,D,M,h2⟩:=hl.2 L hL ao r st v K (fun aF aG D ht=>let⟨c1,V,_,_⟩:=qg hr ht;V.wf) N h
    grind
   .cases h
  grind
 |exit id=>intro _ K Q c st a h hr A j;exact wpIn_exit (j (.exit id) c st a h hr (Cx.Mono.refl c))
 |goto l=>intro _ K Q c st a h hr A j;exact wpIn_goto (j (.goto l) c st a h hr (Cx.Mono.refl c))
 |ret=>intro _ K Q c st a h hr A j;exact wpIn_ret (j .ret c st a h hr (Cx.Mono.refl c))
 |scope x G=>
  intro hl K Q c st a h hr A j;replace G:=G hl;simp only[run]at h;refine aip (G _ _ c st a h hr A fun e c' o p d z B=> ?_);cases e with
  |normal=>exact⟨(fun l e=>by cases e),j .normal c' o p d z B⟩
  |exit i=>exact⟨(fun l e=>by cases e),j (.exit i) c' o p d z B⟩
  |goto l=>simp[atX]at d
  |ret=>exact⟨(fun l e=>by cases e),j .ret c' o p d z B⟩
 |rangeFunc fv ps jo bd _ _=>
  intro hl K Q c st a h hr A j;simp only[run]at h;split at h
  .rename_i g aJ aH
   have aI: ∀k,(bif E.rf f (dH bd)then a6 (dH bd)else a7)=a6 k->rH f k=a6 (jo,bd):=fun k hk=>by
    cases hrf:E.rf f (dH bd)with
    |false=>simp_all
    |true=>rw[hrf]at hk;cases hk;exact hl.2.2 hrf
   have ah: ∃I,F5 (E.kp f (500000+dH bd)) st={st with fr:=I}/\bJ c I a.tmps.toList:=by
    cases E.kp f (500000+dH bd)with
    |none=>exact⟨st.fr,rfl,hr.fr⟩
    |some k=>exact⟨_,rfl,zW _ _ _ hr.fr⟩
   obtain⟨I,e1,e2⟩:=ah;rw[e1]at h;have av:=dR hr.fr fv;rw[aH]at av;exact aeV (st:={st with fr:=I}) ax av aI h ⟨hr.hp,hr.nxt,hr.ok,e2,hr.stk,hr.df,hr.rd⟩ A j
  .cases h
 |refuse s=>simp_all [run]
end
end
section
open Option renaming some → a6, none → a7
open Nat renaming le_refl → ae
open Go.RowKit
section
variable {P:Program} {T:TT} {W0:World} {b0:Nat} {rd:Option Nat} {R:Type} {r:R} {c:Cx} {ats:List (Array Value)}
theorem abL (i:c.Ok W0) {x:bQ} {e:Ty} {j:List e.den} {u:Value} (h:x.as c.hp (.list e)=a6 j) (hx:bU c x u) {a:Option Addr} {m cp:Nat} (o:u=.slice a m cp):m<=cp:=by
 subst o;cases x with
 |val f z=>
  simp only[bQ.as]at h;have e:=iy h;subst e
  grind [bU,qW]
 |nils=>
  simp_all [bU]
 |lst f z b=>
  grind [bU,qW]
 |emp=>
  simp_all [bU]
 |slc id ver q=>
  simp only[bQ.as,Bg]at h;split at h
  .rename_i f v xs g
   replace h:=dG h;obtain⟨d,h⟩:=h;have d:v=ver:=by simpa using d
   subst d;simp only[bU]at hx;have y:=(hx.2.2 _ _ _ g).2 rfl;obtain⟨_,A,B,s,hL,D⟩:=i.obj id _ g;obtain⟨E,G,d,I,J⟩:=ry s;cases q with
   |none=>
    simp_all [ja]
   |some p=>
    grind [ja]
  .cases h
 |agg l=>simp[bQ.as,Ty.isAgg]at h
 |_=>simp[bQ.as]at h
def ap1 (c cb:Cx):Prop:= ∀b,b<c.w.heap.size->cb.free b/\cb.w.heap[b]? =c.w.heap[b]?
theorem Fh (f:c.Ok W0) {cb:Cx} (d:ap1 c cb) {x:bQ} {e:Ty} {g:List e.den} {u:Value} (h:x.as c.hp (.list e)=a6 g) (hx:bU c x u):VD cb (.list e) g u:=by
 obtain⟨a,cp,l,i,o,p⟩:=abM f h hx;have q:=abL f h hx i;refine(VD.leaf rfl).2 ⟨a,cp,l,by rw[i],q,fP.mono (eY.mono (fun b s=>d b s.1) e) _ _ o,p.imp id fun⟨b,v,y,j,z⟩=>⟨b,v,y,(d b j).1,z.of_block (d b j).2⟩⟩
theorem amy (j:c.Ok W0) {cb:Cx} (f:ap1 c cb) {v i:bQ} {u:Value} (h:VZ c.hp v=a6 i) (d:bU c v u):bU cb i u:=by
 cases v with
 |val t x=>
  simp only[VZ,Option.some.injEq]at h;subst h;simp only[bU]at d ⊢;exact⟨fun e=>let⟨cs,l,o⟩:=d.1 e;⟨cs,l,eY.mono (fun b g=>f b g.1) t x _ o⟩,fun e=>eY.mono (fun b g=>f b g.1) t x _ (d.2 e)⟩
 |nils=>
  grind [VZ,bU]
 |slc id ver p=>
  simp only[VZ]at h;split at h
  .rename_i t w xs q
   rw[cond_eq_ite]at h;split at h
   .rename_i s
    cases h;simp only[bU];refine Fh j f (x:=.slc id ver p) ?_ d;simp_all [bQ.as,Bg,fV]
   .cases h
  .cases h
 |_=>simp[VZ]at h
theorem Rf (f:c.Ok W0) {cb:Cx} (g:ap1 c cb): ∀(l e:List bQ) (us:List Value),Q9 c.hp l=a6 e->bJ c l us->bJ cb e us
 |[],e,[],h,_=>by simp_all [Q9,bJ]
 |v::l,e,u::us,h,d=>by
  simp only[Q9]at h;split at h
  .rename_i p i
   split at h
   .rename_i j o
    cases h;simp only[bJ]at d ⊢;exact⟨amy f g i d.1,Rf f g l j us o d.2⟩
   .cases h
  .cases h
 |[],_,_::_,_,d=>by simp[bJ]at d
 |_::_,_,[],_,d=>by simp[bJ]at d
def Cx.base (c:Cx) (w:World) (d:Nat->Prop):Cx:=⟨c.mu,[],c.nxt,w,[],d⟩
theorem axZ {w:World} {d:Nat->Prop} (e:XZ w) (hb: ∀b,d b->b<w.heap.size):(c.base w d).Ok w:=
 ⟨Below.refl _ _,fun id o h=>by simp[Cx.base,dO]at h,fun i j o p b h=>by simp[Cx.base,dO]at h,fun r hr=>by simp[Cx.base]at hr,fun b h=>⟨hb b h,(by rintro ⟨i,o,h,_⟩;simp[Cx.base,dO]at h),by simp[Cx.base]⟩,e⟩
theorem amC {w:World} {d:Nat->Prop} {b:Nat}:(c.base w d).free b↔b<w.heap.size/\ ¬d b:=by
 constructor
 .intro h;exact⟨h.1,h.2.2.2⟩
 .rintro ⟨e,f⟩;exact⟨e,(by rintro ⟨i,o,h,_⟩;simp[Cx.base,dO]at h),by simp[Cx.base],f⟩
theorem ap8 {w:World} {d:Nat->Prop} (f:XZ w) (hb: ∀b,d b->b<w.heap.size) {e:Nat} (g:e=c.nxt):iM w 0 a7 (c.base w d) ⟨[],[],[],e⟩ ⟨#[],[]⟩ []:=
 ⟨rfl,g.symm,axZ f hb,by simp[bJ],trivial,⟨[],rfl,List.nodup_nil,fun r hr=>by simp at hr⟩,fun l hl=>by cases hl⟩
theorem ORel.le0 {B:Nat} {c c':Cx} {id:Nat} {o:dL} (h:c.ORel B id o) (hl:c.Le0 c') (d:c'.mu id=c.mu id) (hb: ∀b,o.blk (c.mu id)=a6 b->c'.w.heap[b]? =c.w.heap[b]?):c'.ORel B id o:=by
 cases o with
 |box e cs=>
  obtain⟨g,q,i,j,l⟩:=h;refine⟨by rw[d];exact g,q,by rw[d,hb _ rfl];exact i,bJ.le0 hl _ _ j,l⟩
 |arr t ver xs=>
  obtain⟨h0,e,s,g,i,j⟩:=h;refine⟨h0,e,s, ?_,fP.mono (eY.mono hl.free t) _ _ i,j⟩;rw[d];exact Ah g fun b u=>hb b u
 |lp f fr ps jo bd ky n p=>
  obtain⟨h0,g,L,i,j,l⟩:=h;exact⟨h0,by rw[d];exact g,L,by rw[d,hb _ rfl];exact i,bJ.le0 hl _ _ j,l⟩
 |dead=>trivial
 |mp kk vk x=>
  obtain⟨g,v,cl,i,j⟩:=h;exact⟨by rw[d];exact g,v,cl,by rw[d,hb _ rfl];exact i,j⟩
theorem Cx.Le0.trans {a b c:Cx} (h:a.Le0 b) (k:b.Le0 c):a.Le0 c:=
 ⟨fun x e=>⟨(k.out x (h.out x e).1).1,(k.out x (h.out x e).1).2.trans (h.out x e).2⟩,fun i d=>k.ref i (h.ref i d),fun i o d f=>by
  obtain⟨g,j,l⟩:=k.obj i o (h.ref i d) f;obtain⟨p,q,s⟩:=h.obj i g d j
  grind [dL.like_trans],k.bar.trans h.bar⟩
theorem U4 {n:Nat} {fn:Func} {tmps:Array Value} {Rr:Ending->World->Prop}: ∀(l:List Nat) (c:Cx),c.Ok W0->l.Nodup->(∀r∈l,r∈c.mks)->
  ∃c',c'.hp=c.hp/\c'.nxt=c.nxt/\c.Le0 c'/\c'.Ok W0/\(∀r∈c.mks,r∉l->r∈c'.mks)/\(∀(b:Nat) (L:Loop),c.w.heap[b]? =a6 (Obj.loop L)-> ∃z:Loop,c'.w.heap[b]? =a6 (Obj.loop z))/\c.w.heap.size<=c'.w.heap.size/\c'.bar=c.bar/\
   (LeavesIn (FW a7) n P fn tmps Rr [] .returning c'.w->LeavesInM (FW a7) n P fn tmps Rr (l.map mkD) .returning c.w)
 |[],c,f,_,_=>⟨c,rfl,rfl,(Cx.Le.refl c).le0,f,fun r hr _=>hr,fun b L hL=>⟨L,hL⟩,ae _,rfl,fun h=>h⟩
 |d::l,c,f,A,x=>by
  obtain⟨U,B⟩:=List.nodup_cons.1 A;have hd:=x d (by simp);have u:=f.mks d hd;have V:=f.mark_lt hd
  let i:Cx:={c with w:=c.w.putObj d (.deferred a7),mks:=c.mks.filter fun r=>r !=d}
  have p: ∀b,b≠d->i.w.heap[b]? =c.w.heap[b]? :=fun b g=>World.putObj_heap_other g;have v:c.Le0 i:=⟨fun b g=>⟨⟨by simpa [i] using g.1,g.2.1,(fun D=>g.2.2 (List.mem_filter.1 D).1)⟩,p b fun e=>g.2.2 (e▸hd)⟩,fun _ h=>h,fun id o _ q=>⟨o,q,o.like_refl _⟩,rfl⟩;have E:i.Ok W0:=by
   refine⟨⟨f.bel.os,f.bel.tape,f.bel.output,by simpa [i] using f.bel.size,fun j G=>(p j (by have:=u.1;omega)).trans (f.bel.block j G)⟩,fun id o q=>ORel.le0 (f.obj id o q) v rfl fun b g=>p b fun e=> ?_,f.inj,fun r hr=> ?_,fun b g=>(v.out b (f.bar b g)).1,f.phi⟩
   .subst e;exact(f.obj id o q).no_mark g u.2
   .obtain⟨y,s⟩:=List.mem_filter.1 hr;have s:r≠d:=by simpa using s
    exact⟨(f.mks r y).1,(p r s).trans (f.mks r y).2⟩
  obtain⟨I,J,K,M,N,W,X,Y,O,S⟩:=U4 (n:=n) (fn:=fn) (tmps:=tmps) (Rr:=Rr) l i E B fun r hr=>List.mem_filter.2 ⟨x r (by simp[hr]),by
   grind⟩
  refine⟨I,J,K,v.trans M,N,fun r hr s=> ?_,fun b L hL=> ?_, ?_,O,fun h=> ?_⟩
  .grind
  .grind
  .have:c.w.heap.size=i.w.heap.size:=by simp[i]
   omega
  .exact⟨by simp,.inl ⟨d,_,rfl,run_takeDeferred u.2,S h⟩⟩
theorem auc {t:TypeId} {v u:Value} {w w':World} (h:(Instr.loadAt t v).run P w=.ok u w'):(do loadVar t (<-asAddr v):Sem Value).run P w=.ok u w':=by
 unfold Instr.loadAt at h;cases v<;>try (simp[Instr.sureAddr,stuck,Sem.run_bind,Result.andThen]at h;done)
 rename_i p
 cases p<;>first|exact h|simp_all [Instr.sureAddr]
def Nw (tmps:Array Value):ResultVar->Sem Value
 |.tmp t=>pure (tmps.getD t undef)
 |.cell a t=>do loadVar t (<-asAddr (tmps.getD a undef))
theorem zu (hT:TOk P T) (e:c.Ok W0) {st:St} {tmps:Array Value} (f:c.hp=st.hp) (d:bJ c st.fr tmps.toList): ∀(l:List ResultVar) (K:List bQ->Option R),sD T st l K=a6 r->
  ∃vs us,K vs=a6 r/\bJ c vs us/\(l.mapM (Nw tmps)).run P c.w=.ok us c.w
 |[],K,h=>⟨[],[],h,by simp[bJ],rfl⟩
 |.tmp t::l,K,h=>by
  simp only[sD]at h;obtain⟨vs,us,g,i,j⟩:=zu hT e f d l _ h;refine⟨_,tmps.getD t undef::us,g,by simp only[bJ];exact⟨d.getD t,i⟩, ?_⟩;simp_all [Nw]
 |.cell a t::l,K,h=>by
  simp only[sD]at h;rw[<-f]at h;obtain⟨z,u,g,i,j⟩:=avp hT e h (d.getD a);obtain⟨vs,us,o,p,q⟩:=zu hT e f d l _ g;refine⟨_,u::us,o,by simp_all [bJ], ?_⟩;have s:=auc (j c.w (Below.refl _ _))
  grind [Sem.run_bind,Nw,Result.andThen_ok,Sem.run_pure]
def IU:List Value->Value
 |[v]=>v
 |vs=>.tuple vs.toArray
theorem Ak {vs:List bQ} {us:List Value} (h:bJ c vs us):bU c (Nv vs) (IU us):=by
 match vs,us,h with
 |[],[],h=>simp only[Nv,IU,bU];simp_all
 |[v],[u],h=>simpa [Nv,IU,bJ] using h
 |v::d::vs,u::e::us,h=>simp only[Nv,IU,bU];simp_all
 |[],_::_,h=>simp[bJ]at h
 |_::_,[],h=>simp[bJ]at h
 |[_],_::_::_,h=>simp[bJ]at h
 |_::_::_,[_],h=>simp[bJ]at h
theorem ae1 {fn:Func} {tmps:Array Value} {us:List Value} {w:World} (h:(fn.results.toList.mapM (Nw tmps)).run P w=.ok us w):(results fn tmps).run P w=.ok (IU us) w:=by
 have e:results fn tmps=(do let d<-fn.results.mapM (Nw tmps);pure (if h:d.size=1 then d[0]else .tuple d)):=rfl;have f:(fn.results.mapM (Nw tmps)).run P w=.ok us.toArray w:=by
  simp_all [Array.mapM_eq_mapM_toList]
 rw[e,Sem.run_bind,f]
 match us with
 |[]=>rfl
 |[v]=>rfl
 |v::g::d=>rfl
end
end
section
open Option renaming some → a6, none → a7
open Bool renaming and_eq_true → af
open Int renaming eq_ofNat_of_zero_le → aX
open List renaming foldl_cons → aU, mem_of_mem_take → bg
open Nat renaming le_refl → ae, eq_of_beq_eq_true → aj, lt_of_lt_of_le → bi
open Go.RowKit
def Jf (P:Program):Prop:= ∀(f:FuncId) (fn:Func) (c:Code),P.funcs[f]? =a6 fn->fn.body=a6 c->(fn.name== "runtime.NumGoroutine")=false
def Dl {R:Type} (P:Program) (W0:World) (q:nG R):Prop:=
 ∀(id:Nat) (h:List bQ) (st:St) (K:bQ->St->Option R) (r:R),q (.yield id h) st K=a6 r->
  ∀(b0:Nat) (rd:Option Nat) (c:Cx) (a:Act) (ats:List (Array Value)) (i:Array Value),iM W0 b0 rd c st a ats->bJ c h i.toList->
   (∃f s v jo d x k p,dO st.hp id=a6 (.lp f s v jo d x k p))/\
   ∀j:Ending->World->Prop,(∀e z u l,K z l=a6 r->iM W0 b0 rd e l a ats->bU e z u->c.Mono e->j (.returned u) e.w)->
    ∀n,∃g o jo d,(Instr.yield (c.mu id).blk i).run P c.w=.ok (.round (c.mu id).blk g o jo d) c.w/\RoundIn (FW rd) n P (c.mu id).blk g o jo d c.w j
def EM {R:Type} (g:FuncId) (s:Sum) (cl:Bool):gz R:=fun d e f st K=>match d with
 |.fn g' h=>if g'=g then s.call cl (e++h) f st K else a7
 |_=>a7
def apR (P:Program) (g:FuncId):Prop:= ∀(w:World) (b:Nat),w.shape? b=a6 (V5,2)->w.frozen? ⟨b,0,a7⟩=false->
 (callFunc g #[.pointer (a6 ⟨b,0,a7⟩)]).run P w=.ok (.enter g #[.pointer (a6 ⟨b,0,a7⟩)]) w/\
 (w.cell? ⟨b,0,a7⟩=a6 (.pointer (a6 ⟨b,0,a7⟩))->Calls P g #[.pointer (a6 ⟨b,0,a7⟩)] w fun e d=>e=.returned (.tuple #[])/\d=w)/\
 (w.cell? ⟨b,0,a7⟩=a6 (.pointer a7)->Calls P g #[.pointer (a6 ⟨b,0,a7⟩)] w fun e d=>e=.returned (.tuple #[])/\d=w.setCell ⟨b,0,a7⟩ (.pointer (a6 ⟨b,0,a7⟩)))
def Q4 (P:Program) (em:TypeId->Nat->Nat->Bool) (g:FuncId):Prop:= ∀(w:World) (b t o n:Nat) (d:Array Value),em t o n=true->w.heap[b]? =a6 (.cells d t (0,0))->d.size=n->o<n/\
 (callFunc g #[.pointer (a6 ⟨b,o,a7⟩)]).run P w=.ok (.enter g #[.pointer (a6 ⟨b,o,a7⟩)]) w/\
 (w.cell? ⟨b,o,a7⟩=a6 (.pointer (a6 ⟨b,o,a7⟩))->Calls P g #[.pointer (a6 ⟨b,o,a7⟩)] w fun e f=>e=.returned (.tuple #[])/\f=w)/\
 (w.cell? ⟨b,o,a7⟩=a6 (.pointer a7)->Calls P g #[.pointer (a6 ⟨b,o,a7⟩)] w fun e f=>e=.returned (.tuple #[])/\f=w.setRow b (d.toList.take o++[Value.pointer (a6 ⟨b,o,a7⟩)]++d.toList.drop (o+1)).toArray)
def xN (P:Program) (em:TypeId->Nat->Nat->Bool) (g:FuncId):Prop:=apR P g/\Q4 P em g
def Je (P:Program) (g:FuncId):Prop:= ∀(w:World) (B:Nat) (q:TypeId) (v:Value) (n i d f:Nat) (j:List Value) (l o:Value) (s:TypeId) (u:List Value),XZ w->B<=w.heap.size->w.ownsRow B q 2 v n j->n<=2199023255552->i<=n->(∀z∈j,z.oneCell'=true)->v.oneCell'=true->l.oneCell'=true->o.oneCell'=true->
 w.heap[d]? =a6 (.cells (l::o::u).toArray s (0,0))->v.ownBlock≠a6 d->1<=f->f<=maxLen->
 (callFunc g #[v,.int .i64 (i:Int),.slice (a6 ⟨d,0,a7⟩) 1 f]).run P w=.ok (.enter g #[v,.int .i64 (i:Int),.slice (a6 ⟨d,0,a7⟩) 1 f]) w/\
 Calls P g #[v,.int .i64 (i:Int),.slice (a6 ⟨d,0,a7⟩) 1 f] w fun e p=> ∃h x,e=.returned h/\p.ownsRow B x 2 h (n+1) (j.take (i*2)++[l,o]++j.drop (i*2))/\w.grownBy p v.ownBlock/\(h.ownBlock=v.ownBlock\/ ∃k,h.ownBlock=a6 k/\w.heap.size<=k)/\h.oneCell'=true
def Jh (P:Program) (g c:FuncId):Prop:= ∀(w:World) (B:Nat) (f:TypeId) (v:Value) (n:Nat) (d:List Value) (xs:List xE.den),XZ w->B<=w.heap.size->w.ownsRow B f 4 v n d->n=xs.length->n<=2199023255552->afh xs=true->
 d=xs.flatMap (fun x=>[.int .i64 x.1,.int .i64 x.2.1,.int .i64 x.2.2.1,.bool x.2.2.2.1])->
 (callFunc g #[v,.func (.func c) #[] #[]]).run P w=.ok (.enter g #[v,.func (.func c) #[] #[]]) w/\
 Calls P g #[v,.func (.func c) #[] #[]] w fun e h=>e=.returned (.tuple #[])/\h.ownsRow B f 4 v n d/\w.grownBy h v.ownBlock
def NV {R:Type} (g:FuncId) (s:fZ) (cl:Bool):gz R:=fun d e h st K=>match d with
 |.fn g' f=>if g'=g then s.call cl (e++f) st K else a7
 |_=>a7
structure wK (P:Program) (E:Env):Prop where
 T:TOk P E.T
 x: ∀(R:Type) (W0:World) (n:Nat) (g:FuncId) (s:fZ),E.sb g=a6 s->mg (R:=R) P W0 n (NV g s E.cl)
 b: ∀g,(E.bf g=true->xN P E.em g)/\(E.il g=true->Je P g)/\(E.sl g=true->Jh P g E.sc)
 v: ∀(R:Type) (W0:World) (n:Nat) (g:FuncId) (s:Sum),E.sg g=a6 s->mg (R:=R) P W0 n (EM g s E.cl)
 q: ∀(R:Type) (g:FuncId) (s:Sum),E.sg g=a6 s->(s.rs.all fun r=> !r.2&&r.1.rigid)=true->nN (R:=R) P (EM g s E.cl)
section
variable {P:Program} {T:TT} {W0:World} {b0:Nat} {rd:Option Nat} {R:Type} {r:R} {c:Cx} {ats:List (Array Value)}
theorem Be (e:Jf P) {f:FuncId} {fn:Func} {d:Code} (hf:P.funcs[f]? =a6 fn) (hb:fn.body=a6 d) (args:Array Value) (w:World):(callFunc f args).run P w=.ok (.enter f args) w:=by
 have g:=e f fn d hf hb;simp_all [callFunc]
theorem oL {g:FuncId} {vs args:Array Value} {w:World}:(do let d<-Deferred.ofValue (.func (.func g) #[] vs) args;invoke d.target d.args:Sem Next).run P w=(callFunc g (args++vs)).run P w:=by
 grind [Deferred.ofValue,invoke]
theorem Ti {g:FuncId} {vs args:Array Value} {w:World}:(do let d<-Deferred.ofValue (.func (.func g) vs #[]) args;invoke d.target d.args:Sem Next).run P w=(callFunc g (vs++args)).run P w:=by
 rfl
theorem YS {l:Nat} {args:Array Value} {w:World}:(do let d<-Deferred.ofValue (.func (.yield l) #[] #[]) args;invoke d.target d.args:Sem Next).run P w=(Instr.yield l args).run P w:=by
 grind [Deferred.ofValue,invoke]
theorem bJ.append_arr {l m:List bQ} {xs d:Array Value} (h:bJ c l xs.toList) (k:bJ c m d.toList):bJ c (l++m) (xs++d).toList:=by
 simp_all [bJ.append]
theorem Me: ∀(h:gK) (i:Nat) (o:dL),dO h i=a6 o->iV h i o=h
 |[],_,_,_=>rfl
 |(k,p)::h,i,o,d=>by
  rw[ed]at d;simp only[iV];by_cases e:k=i
  .simp_all
  .rw[aq e]at d;have f:(k==i)=false:=by simpa using e
   simp[f,Me h i o d]
theorem afC {c:Cx}: ∀(l:List bQ) (xs:List Value),bJ c l xs-> ∀(i:Nat) (hi:i<xs.length),bU c (l.getD i .undef) xs[i]
 |[],[],_,i,hi=>by simp at hi
 |v::l,x::xs,h,0,_=>h.1
 |v::l,x::xs,h,i+1,hi=>by
  have:=afC l xs h.2 i (by simpa using hi);simpa using this
 |[],_::_,h,_,_=>by cases h
 |_::_,[],h,_,_=>by cases h
theorem amF {em:TypeId->Nat->Nat->Bool} {g:FuncId} (Y:Q4 P em g) {st:St} {K:bQ->St->Option R} {id off:Nat} {t:TypeId} {cs:List bQ} (Z:em t off cs.length=true) (j:dO st.hp id=a6 (.box t cs))
  (h:(match cs.getD off .undef with
    |.nilp=>K (.tup []) {st with hp:=iV st.hp id (.box t (cs.take off++[.ptr id off]++cs.drop (off+1)))}
    |.ptr i o=>bif Nat.beq i id&&Nat.beq o off then K (.tup []) st else a7
    |_=>a7)=a6 r) {a:Act} (hr:iM W0 b0 rd c st a ats) {us:Array Value} (f:bJ c [.ptr id off] us.toList)
  (Rr:Ending->World->Prop) (D: ∀c' z u E,K z E=a6 r->iM W0 b0 rd c' E a ats->bU c' z u->c.Mono c'->Rr (.returned u) c'.w):
  (callFunc g us).run P c.w=.ok (.enter g us) c.w/\Calls P g us c.w Rr:=by
 rw[<-hr.hp]at j;obtain⟨hB,d,hw,p,G⟩:=hr.ok.obj id _ j;have ab:cs.length=d.size:=by simpa using bJ.length _ _ p
 obtain⟨us⟩:=us
 match us,f with
 |[u],f=>
  simp only[bJ,bU,and_true]at f;have hu:=f.2.2 _ _ j;subst hu;have I:c.w.heap[(c.mu id).blk]? =a6 (.cells d t (0,0)):=hw;obtain⟨ho,h1,h2,h3⟩:=Y c.w (c.mu id).blk t off cs.length d Z I ab.symm;have J:off<d.size:=by omega
  have M:c.w.cell? ⟨(c.mu id).blk,off,a7⟩=a6 d[off]:=by simp[World.cell?,I,J]
  have l:bU c (cs.getD off .undef) d[off]:=by
   have:=afC _ _ p off (by simpa using J);simpa using this
  have N: ∀c',bU c' (.tup []) (.tuple #[]):=fun c'=>by simp only[bU];exact⟨#[],rfl,by simp[bJ]⟩
  refine⟨h1, ?_⟩;split at h
  .rename_i q
   rw[q]at l;simp only[bU]at l;refine(h3 (by rw[M,l])).mono ?_;rintro e w' ⟨rfl,rfl⟩;have O:c.w.heap.size<=(c.w.setRow (c.mu id).blk (d.toList.take off++[Value.pointer (a6 ⟨(c.mu id).blk,off,a7⟩)]++d.toList.drop (off+1)).toArray).heap.size:=by simp
   have S:(dL.box t cs).like (c.mu id) (.box t (cs.take off++[.ptr id off]++cs.drop (off+1))) (c.mu id):=rfl;have U: ∀b,b<c.w.heap.size->(dL.box t cs).blk (c.mu id)≠a6 b->(c.w.setRow (c.mu id).blk (d.toList.take off++[Value.pointer (a6 ⟨(c.mu id).blk,off,a7⟩)]++d.toList.drop (off+1)).toArray).heap[b]? =c.w.heap[b]? :=
    fun b _ ad=>setRow_other _ _ _ _ (fun e=>ad (by simp[dL.blk,e]))
   have V: ∀b,(dL.box t (cs.take off++[.ptr id off]++cs.drop (off+1))).blk (c.mu id)=a6 b->(dL.box t cs).blk (c.mu id)=a6 b\/c.w.heap.size<=b:=fun b s=>.inl s;have W: ∀(b:Nat) (L:Loop),(dL.box t cs).blk (c.mu id)=a6 b->c.w.heap[b]? =a6 (Obj.loop L)-> ∃L':Loop,(c.w.setRow (c.mu id).blk (d.toList.take off++[Value.pointer (a6 ⟨(c.mu id).blk,off,a7⟩)]++d.toList.drop (off+1)).toArray).heap[b]? =a6 (Obj.loop L'):=fun b L s hL=>absurd hL ((hr.ok.obj id _ j).no_loop (by simp) s);have x:=Cx.Le.put (w:=c.w.setRow (c.mu id).blk (d.toList.take off++[Value.pointer (a6 ⟨(c.mu id).blk,off,a7⟩)]++d.toList.drop (off+1)).toArray) hr.ok j S O U V W;have ag:Below W0.heap.size W0 (c.w.setRow (c.mu id).blk (d.toList.take off++[Value.pointer (a6 ⟨(c.mu id).blk,off,a7⟩)]++d.toList.drop (off+1)).toArray):=
    hr.ok.bel.trans ⟨rfl,rfl,rfl,by simp,fun k hk=>setRow_other _ _ _ _ (by omega)⟩
   have hd:AQ W0 c st (c.put id (.box t (cs.take off++[.ptr id off]++cs.drop (off+1))) (c.mu id) (c.w.setRow (c.mu id).blk (d.toList.take off++[Value.pointer (a6 ⟨(c.mu id).blk,off,a7⟩)]++d.toList.drop (off+1)).toArray)) {st with hp:=iV st.hp id (.box t (cs.take off++[.ptr id off]++cs.drop (off+1)))}:=by
    refine⟨by simp[Cx.put,hr.hp],hr.nxt,rfl,rfl,Cx.Ok.put hr.ok j S ag O U V W ?_,x⟩;refine⟨by simp only[Cx.put,upd_same];exact hB,(d.toList.take off++[Value.pointer (a6 ⟨(c.mu id).blk,off,a7⟩)]++d.toList.drop (off+1)).toArray, ?_, ?_, ?_⟩
    .simp only[Cx.put,upd_same]
     grind [setRow_heap]
    .have ah:bJ (c.put id (.box t (cs.take off++[.ptr id off]++cs.drop (off+1))) (c.mu id) (c.w.setRow (c.mu id).blk (d.toList.take off++[Value.pointer (a6 ⟨(c.mu id).blk,off,a7⟩)]++d.toList.drop (off+1)).toArray)) [.ptr id off] [Value.pointer (a6 ⟨(c.mu id).blk,off,a7⟩)]:=by
      simp only[bJ,bU,and_true];exact⟨rfl,.inl ⟨_,Cx.put_get j⟩,fun _ _ _=>by simp[Cx.put,upd_same]⟩
     have X:=bJ.le x _ _ p;have y:=bJ.take off _ _ X;have A:=bJ.drop (off+1) _ _ X;have:=bJ.append _ _ _ _ (bJ.append _ _ _ _ y ah) A;simpa using this
    .intro v f;simp only[List.mem_append,List.mem_singleton]at f;rcases f with (f|f)|f
     .exact G v (bg f)
     .subst f;rfl
     .exact G v (List.mem_of_mem_drop f)
   exact D _ (.tup []) (.tuple #[]) _ h (hr.did hd) (N _) x.mono
  .rename_i i o q
   obtain⟨B,ai⟩:=dG h;clear h;rw[af]at B;have y:=aj B.1;have A:=aj B.2;subst y;subst A;rw[q]at l;simp only[bU]at l;have hp:=l.2.2 _ _ j;refine(h2 (by rw[M,hp])).mono ?_;rintro e w' ⟨rfl,rfl⟩;exact D c (.tup []) (.tuple #[]) st ai hr (N _) (Cx.Mono.refl c)
  .cases h
theorem acT {em:TypeId->Nat->Nat->Bool} {g:FuncId} (hT:TOk P T) (Y:xN P em g) {args:List bQ} {st:St} {K:bQ->St->Option R} (h:Ru em T args st K=a6 r) {a:Act} (hr:iM W0 b0 rd c st a ats) {us:Array Value} (s:bJ c args us.toList)
  (Rr:Ending->World->Prop) (B: ∀c' z u I,K z I=a6 r->iM W0 b0 rd c' I a ats->bU c' z u->c.Mono c'->Rr (.returned u) c'.w):
  (callFunc g us).run P c.w=.ok (.enter g us) c.w/\Calls P g us c.w Rr:=by
 obtain⟨Z,ab⟩:=Y;unfold Ru at h;split at h<;>try (cases h;done)
 rename_i id ad
 split at h<;>try (cases h;done)
 case h_2 t cs _ d=>
  obtain⟨x,h⟩:=dG h;exact amF ab x d h hr s Rr B
 rename_i t i j l o d
 replace h:=dG h;obtain⟨x,h⟩:=h;simp only[af]at x;obtain⟨h0,D,hk,f⟩:=x;have h0:ad=0:=aj h0;subst h0;have D:i=id:=aj D;subst D;have ht:=hT.bldr hk f;rw[<-hr.hp]at d;obtain⟨hB,E,J,v,ai⟩:=hr.ok.obj i _ d;obtain⟨us⟩:=us
 match us,s with
 |[u],s=>
  simp only[bJ,bU,and_true]at s;have hu:=s.2.2 _ _ d;subst hu;obtain⟨E⟩:=E
  match E,v with
  |[p,q],v=>
   simp only[bJ,and_true]at v;have y:=v.1;simp only[bU]at y;have y:=y.2.2 _ _ d;rw[ht]at J;have A:c.w.heap[(c.mu i).blk]? =a6 (.cells #[p,q] V5 (0,0)):=J;have M:c.w.cell? ⟨(c.mu i).blk,0,a7⟩=a6 p:=by simp[World.cell?,A]
   obtain⟨h1,h2,h3⟩:=Z c.w (c.mu i).blk (by simp[World.shape?,A]) (by simp[World.frozen?,A]);refine⟨h1, ?_⟩;have N: ∀c',bU c' (.tup []) (.tuple #[]):=fun c'=>by simp only[bU];exact⟨#[],rfl,by simp[bJ]⟩
   rcases y with e|e
   .subst e;refine(h3 M).mono ?_;rintro e w' ⟨rfl,rfl⟩;have ak:(c.mu i).blk<c.w.heap.size:=(Array.getElem?_eq_some_iff.1 A).1;have al:(c.w.setCell ⟨(c.mu i).blk,0,a7⟩ (.pointer (a6 ⟨(c.mu i).blk,0,a7⟩))).heap[(c.mu i).blk]? =a6 (.cells #[.pointer (a6 ⟨(c.mu i).blk,0,a7⟩),q] V5 (0,0)):=by
     grind [World.setCell]
    have O: ∀b,(c.mu i).blk≠b->(c.w.setCell ⟨(c.mu i).blk,0,a7⟩ (.pointer (a6 ⟨(c.mu i).blk,0,a7⟩))).heap[b]? =c.w.heap[b]? :=fun b f=>by
     grind [World.setCell]
    have S:(c.w.setCell ⟨(c.mu i).blk,0,a7⟩ (.pointer (a6 ⟨(c.mu i).blk,0,a7⟩))).heap.size=c.w.heap.size:=by simp[World.setCell]
    have U: ∀(b:Nat) (L:Loop),(dL.box t [.slf i,.slc j l o]).blk (c.mu i)=a6 b->c.w.heap[b]? =a6 (Obj.loop L)-> ∃L':Loop,(c.w.setCell ⟨(c.mu i).blk,0,a7⟩ (.pointer (a6 ⟨(c.mu i).blk,0,a7⟩))).heap[b]? =a6 (Obj.loop L'):=fun b L f hL=>absurd hL ((hr.ok.obj i _ d).no_loop (by simp) f);have V: ∀b,b<c.w.heap.size->(dL.box t [.slf i,.slc j l o]).blk (c.mu i)≠a6 b->(c.w.setCell ⟨(c.mu i).blk,0,a7⟩ (.pointer (a6 ⟨(c.mu i).blk,0,a7⟩))).heap[b]? =c.w.heap[b]? :=fun b _ ag=>O b fun e=>ag (by simp[dL.blk,e]);have W: ∀b,(dL.box t [.slf i,.slc j l o]).blk (c.mu i)=a6 b->(dL.box t [.slf i,.slc j l o]).blk (c.mu i)=a6 b\/c.w.heap.size<=b:=fun b f=>.inl f;have ah:Below W0.heap.size W0 (c.w.setCell ⟨(c.mu i).blk,0,a7⟩ (.pointer (a6 ⟨(c.mu i).blk,0,a7⟩))):=
     ⟨hr.ok.bel.os,hr.ok.bel.tape,hr.ok.bel.output,by omega,fun b f=>(O b (by omega)).trans (hr.ok.bel.block b f)⟩
    have X:=dL.like_refl (.box t [.slf i,.slc j l o]) (c.mu i);have G:=Cx.Le.put hr.ok d X (Nat.le_of_eq S.symm) V W U;have hd:AQ W0 c st (c.put i (.box t [.slf i,.slc j l o]) (c.mu i) (c.w.setCell ⟨(c.mu i).blk,0,a7⟩ (.pointer (a6 ⟨(c.mu i).blk,0,a7⟩)))) st:=by
     refine⟨by simp only[Cx.put];rw[Me _ _ _ d,hr.hp],hr.nxt,rfl,rfl,Cx.Ok.put hr.ok d X ah (Nat.le_of_eq S.symm) V W U ?_,G⟩;refine⟨by simp only[Cx.put,upd_same];exact hB,#[.pointer (a6 ⟨(c.mu i).blk,0,a7⟩),q], ?_, ?_, ?_⟩
     .simp_all [Cx.put,upd_same]
     .simp only[bJ,and_true];refine⟨?_,bU.le G _ _ v.2⟩;simp only[bU];exact⟨rfl,.inl ⟨_,Cx.put_get d⟩,fun _ _ _=>.inr (by simp[Cx.put,upd_same])⟩
     simp_all
    exact B _ (.tup []) (.tuple #[]) st h (hr.did hd) (N _) G.mono
   .subst e;refine(h2 M).mono ?_;rintro e w' ⟨rfl,rfl⟩;exact B c (.tup []) (.tuple #[]) st h hr (N _) (Cx.Mono.refl c)
theorem avw (i:c.Ok W0) {st:St} (z:c.hp=st.hp) (A:c.nxt=st.nxt) {e:Ty} (B:0<e.size) {id d:Nat} {xs:List e.den} (j:dO c.hp id=a6 (.arr e d xs)) {f:Value} {w':World} {o:TypeId} {ws:List e.den} {p:List Value}
  (N:w'.ownsRow W0.heap.size o e.size f ws.length p) (hL:fP (eY c.w c.free e) e.size ws p) (l:c.w.grownBy w' (c.mu id).v.ownBlock) (D: ∀b,(c.mu id).v.ownBlock=a6 b->W0.heap.size<=b)
  (E:f.ownBlock=(c.mu id).v.ownBlock\/ ∃k,f.ownBlock=a6 k/\c.w.heap.size<=k) (G:f.oneCell'=true) (I:e=.int .u8->o=nH):
  ∃c',AQ W0 c st c' {st with hp:=iV st.hp id (.arr e (d+1) ws)}/\c'.w=w'/\bU c' (.slc id (d+1) a7) f:=by
 have J:Below W0.heap.size W0 w':=i.bel.grown l i.size D;have q:(dL.arr e d xs).like (c.mu id) (.arr e (d+1) ws) ⟨0,f⟩:=⟨by omega,fun h=>by omega⟩;have s: ∀b,b<c.w.heap.size->(dL.arr e d xs).blk (c.mu id)≠a6 b->w'.heap[b]? =c.w.heap[b]? :=fun b g O=>l.block b g (by
  grind [dL.blk])
 have u: ∀b,(dL.arr e (d+1) ws).blk ⟨0,f⟩=a6 b->(dL.arr e d xs).blk (c.mu id)=a6 b\/c.w.heap.size<=b:=fun b g=>by
  simp only[dL.blk]at g ⊢;rcases E with h|⟨k,h,hk⟩
  .exact .inl (h▸g)
  .rw[h]at g;cases g;exact .inr hk
 have x: ∀(b:Nat) (L:Loop),(dL.arr e d xs).blk (c.mu id)=a6 b->c.w.heap[b]? =a6 (Obj.loop L)-> ∃K:Loop,w'.heap[b]? =a6 (Obj.loop K):=fun b L g hL=>absurd hL ((i.obj id _ j).no_loop (by simp) g);have y:=Cx.Le.put (w:=w') i j q l.size s u x;refine⟨c.put id (.arr e (d+1) ws) ⟨0,f⟩ w',⟨by simp[Cx.put,z],A,rfl,rfl,i.put j q J l.size s u x ?_,y⟩,rfl, ?_⟩
 .refine⟨B,o,p, ?_,fP.mono (eY.mono y.free e) _ _ hL,I⟩;simp_all [Cx.put,upd_same]
 .simp only[bU];refine⟨G,.inl ⟨_,Cx.put_get j⟩,fun S U V M=> ?_⟩;rw[Cx.put_get j]at M;simp_all [ja,Cx.put,upd_same]
theorem an1 {v:bQ} {i:Int} (h:aDX v=a6 i):v=.val (.int .i64) i:=by
 unfold aDX at h;split at h
 .injection h with h;rw[h]
 .cases h
theorem an0 {g:FuncId} (hg:Je P g) {args:List bQ} {st:St} {K:bQ->St->Option R} (h:YR args st K=a6 r) {a:Act} (hr:iM W0 b0 rd c st a ats) {us:Array Value} (D:bJ c args us.toList)
  (Rr:Ending->World->Prop) (hR: ∀c' z u Z,K z Z=a6 r->iM W0 b0 rd c' Z a ats->bU c' z u->c.Mono c'->Rr (.returned u) c'.w):
  (callFunc g us).run P c.w=.ok (.enter g us) c.w/\Calls P g us c.w Rr:=by
 unfold YR at h;split at h<;>try (cases h;done)
 rename_i id aK iv E v2
 split at h<;>try (cases h;done)
 rename_i i M
 have M:=an1 M;subst M;split at h<;>try (cases h;done)
 rename_i e v xs s
 split at h<;>try (cases h;done)
 rename_i e2 u ys j
 obtain⟨x,l⟩:=dG h;clear h;simp only[af,beq_iff_eq,Bool.not_eq_true']at x;obtain⟨⟨ak,al⟩,N⟩:=x;subst ak;subst al;split at l<;>try (cases l;done)
 rename_i aO A
 have f:=iy A;injection f with f
 subst f;rw[fV]at A;injection A with A
 subst A;split at l<;>try (cases l;done)
 rename_i aP B
 have f:=iy B;injection f with f
 subst f;rw[fV]at B;injection B with B
 subst B;obtain⟨x,h⟩:=dG l;clear l;simp only[af]at x;obtain⟨an,O,ab,ad⟩:=x;have O:0<=i:=by simpa [leI] using O
 have ab:i<=(xs.length:Int):=of_decide_eq_true ab;have ad:=rQ ad;have ao:ys.length=1:=aj an;have N:id≠E:=by
  intro e;subst e;simp at N
 obtain⟨n,rfl⟩:=aX O;have au:n<=xs.length:=by omega
 rw[<-hr.hp]at s j;have o:=hr.ok;obtain⟨av,e0,G,ag,hL,aQ⟩:=o.obj id _ s;obtain⟨_,aw,ax,S,I,_⟩:=o.obj E _ j;have ah:Ty.size V9=2:=rfl;obtain⟨us⟩:=us
 match us,D with
 |[w1,w2,w3],D=>
  simp only[bJ,and_true]at D;obtain⟨k1,k2,k3⟩:=D;simp only[bU]at k1 k2 k3;have q1:w1=(c.mu id).v:=(k1.2.2 _ _ _ s).2 rfl;have q3:w3=(c.mu E).v:=(k3.2.2 _ _ _ j).2 rfl;have q2:w2=.int .i64 (n:Int):=VD.int_inv k2;have ko:=k1.1;subst q1;subst q2
  match ys,ao,I,S,h,j with
  |[y],_,I,S,h,j=>
   have ai:=fP.one _ _ I;obtain⟨d,ay,p1,p2,p3,U⟩:=I;have U:ay=[]:=U;subst U;rw[List.append_nil]at p1;subst p1;rw[ah]at p2
   match ax,p2 with
   |[p,q],_=>
    rcases S.2 with ⟨V,m2⟩|⟨W,az,J,V,m2,m3,m4,m5,m6,X⟩
    .simp at m2
    have X:J.toList.take 2=[p,q]:=by simpa [ah] using X
    have aA:J=(p::q::J.toList.drop 2).toArray:=by
     have:=List.take_append_drop 2 J.toList;rw[X]at this;apply Array.ext';exact this.symm
    rw[aA]at m3;have aB:(c.mu id).v.ownBlock≠a6 W:=fun Y=>N (o.inj id E _ _ W s j Y (by simp only[dL.blk];rw[V];rfl));rw[q3,V];have aF:=fP.one _ _ hL;have aG:c.w.ownsRow W0.heap.size e0 2 (c.mu id).v xs.length G:=ag;obtain⟨h3,h4⟩:=hg c.w W0.heap.size e0 (c.mu id).v xs.length n W az G p q aw _ o.phiw o.size aG (by omega) au aF ko (ai p (by simp)) (ai q (by simp)) m3 aB (by simpa using m4) m5;refine⟨h3,h4.mono ?_⟩;rintro e w' ⟨v',e1,rfl,g1,g2,g3,g4⟩;have aH:fP (eY c.w c.free V9) V9.size (anY xs n [y]) (G.take (n*2)++[p,q]++G.drop (n*2)):=
     fP.append _ _ _ _ (fP.append _ _ _ _ (fP.take n _ _ hL) ⟨[p,q],[],rfl,rfl,p3,rfl⟩) (fP.drop n _ _ hL)
    have aI: ∀b,(c.mu id).v.ownBlock=a6 b->W0.heap.size<=b:=fun b Y=>(World.ownsRow.lt ag b Y).1;have aJ:(anY xs n [y]).length=xs.length+1:=by
     unfold anY;simp;omega
    obtain⟨c',d1,d2,d3⟩:=avw o hr.hp hr.nxt av s (ws:=anY xs n [y]) (by rw[aJ];exact g1) aH g2 aI g3 g4 (fun h=>by cases h);subst d2;exact hR c' _ v' _ h (hr.did d1) d3 d1.le.mono
theorem avx (g:c.Ok W0) {st:St} (x:c.hp=st.hp) (y:c.nxt=st.nxt) {e:Ty} {id d:Nat} {xs:List e.den} (i:dO c.hp id=a6 (.arr e d xs)) {w':World} {j:TypeId} {l:List Value} (z:0<e.size)
  (G:w'.ownsRow W0.heap.size j e.size (c.mu id).v xs.length l) (hL:fP (eY c.w c.free e) e.size xs l) (h:c.w.grownBy w' (c.mu id).v.ownBlock) (A: ∀b,(c.mu id).v.ownBlock=a6 b->W0.heap.size<=b) (B:e=.int .u8->j=nH):
  ∃c',AQ W0 c st c' {st with hp:=iV st.hp id (.arr e d xs)}/\c'.w=w':=by
 have D:Below W0.heap.size W0 w':=g.bel.grown h g.size A;have o:(dL.arr e d xs).like (c.mu id) (.arr e d xs) ⟨0,(c.mu id).v⟩:=⟨ae _,fun _=>⟨rfl,rfl⟩⟩;have p: ∀b,b<c.w.heap.size->(dL.arr e d xs).blk (c.mu id)≠a6 b->w'.heap[b]? =c.w.heap[b]? :=fun b f I=>h.block b f (by
  grind [dL.blk])
 have q: ∀b,(dL.arr e d xs).blk ⟨0,(c.mu id).v⟩=a6 b->(dL.arr e d xs).blk (c.mu id)=a6 b\/c.w.heap.size<=b:=fun b f=>by
  simp only[dL.blk]at f ⊢;exact .inl f
 have s: ∀(b:Nat) (L:Loop),(dL.arr e d xs).blk (c.mu id)=a6 b->c.w.heap[b]? =a6 (Obj.loop L)-> ∃E:Loop,w'.heap[b]? =a6 (Obj.loop E):=fun b L f hL=>absurd hL ((g.obj id _ i).no_loop (by simp) f);have u:=Cx.Le.put (w:=w') g i o h.size p q s;refine⟨c.put id (.arr e d xs) ⟨0,(c.mu id).v⟩ w',⟨by simp[Cx.put,x],y,rfl,rfl,g.put i o D h.size p q s ?_,u⟩,rfl⟩;refine⟨z,j,l, ?_,fP.mono (eY.mono u.free e) _ _ hL,B⟩;simp_all [Cx.put,upd_same]
theorem XP: ∀(xs:List xE.den) (f:List Value),fP (eY c.w c.free xE) xE.size xs f->f=xs.flatMap (fun x=>[.int .i64 x.1,.int .i64 x.2.1,.int .i64 x.2.2.1,.bool x.2.2.2.1])
 |[],f,h=>h
 |x::xs,f,h=>by
  obtain⟨d,o,p,I,e,q⟩:=h;have s:=XP xs o q;have hd:d=[.int .i64 x.1,.int .i64 x.2.1,.int .i64 x.2.2.1,.bool x.2.2.2.1]:=by
   obtain⟨u,J,v,g,e⟩:=e;obtain⟨y,K,z,i,e⟩:=e;obtain⟨A,M,B,j,e⟩:=e;obtain⟨D,E,G,hd,l⟩:=e;have g:u=[.int .i64 x.1]:=g;have i:y=[.int .i64 x.2.1]:=i;have j:A=[.int .i64 x.2.2.1]:=j;have hd:D=[.bool x.2.2.2.1]:=hd;have l:E=[]:=l;rw[v,z,B,G,g,i,j,hd,l];rfl
  rw[p,hd,s];rfl
theorem aoH {g sc:FuncId} (J:Jh P g sc) {args:List bQ} {st:St} {K:bQ->St->Option R} (h:abN sc args st K=a6 r) {a:Act} (hr:iM W0 b0 rd c st a ats) {us:Array Value} (j:bJ c args us.toList)
  (Rr:Ending->World->Prop) (M: ∀c' z u A,K z A=a6 r->iM W0 b0 rd c' A a ats->bU c' z u->c.Mono c'->Rr (.returned u) c'.w):
  (callFunc g us).run P c.w=.ok (.enter g us) c.w/\Calls P g us c.w Rr:=by
 unfold abN at h;split at h<;>try (cases h;done)
 rename_i id ad c0
 obtain⟨q,d⟩:=dG h;clear h;have q:=aj q;subst q;split at d<;>try (cases d;done)
 rename_i e v xs f
 obtain⟨B,l⟩:=dG d;clear d;simp only[beq_iff_eq]at B;subst B;split at l<;>try (cases l;done)
 rename_i ag i
 have s:=iy i;injection s with s
 subst s;rw[fV]at i;injection i with i
 subst i;obtain⟨D,h⟩:=dG l;clear l;simp only[af]at D;obtain⟨N,E⟩:=D;have E:=rQ E;have O:=f;rw[<-hr.hp]at f;have o:=hr.ok;obtain⟨S,U,G,I,hL,V⟩:=o.obj id _ f;obtain⟨us⟩:=us
 match us,j with
 |[W,w2],j=>
  simp only[bJ,and_true]at j;obtain⟨k1,k2⟩:=j;simp only[bU]at k1 k2;have X:W=(c.mu id).v:=(k1.2.2 _ _ _ f).2 rfl;obtain⟨p,rfl,x⟩:=k2;have x:p= #[]:=by
   obtain⟨p⟩:=p;cases p with
   |nil=>rfl
   |cons _ _=>simp[bJ]at x
  subst x;subst X;obtain⟨d,Y⟩:=J c.w W0.heap.size U (c.mu id).v xs.length G xs o.phiw o.size I rfl (by omega) N (XP xs G hL);refine⟨d,Y.mono ?_⟩;rintro e w' ⟨rfl,g1,g2⟩;have Z: ∀b,(c.mu id).v.ownBlock=a6 b->W0.heap.size<=b:=fun b hb=>(World.ownsRow.lt I b hb).1;obtain⟨c',y,d2⟩:=avx o hr.hp hr.nxt f S g1 hL g2 Z V;subst d2;have ab:({st with hp:=iV st.hp id (.arr xE v xs)}:St)=st:=by rw[Me _ _ _ O]
  rw[ab]at y;exact M c' _ (.tuple #[]) _ h (hr.did y) (by simp[bU,bJ]) y.le.mono
theorem kS {E:Env} (M:wK P E) {U:nG R} (X:uX P W0 U) (hy:Dl P W0 U) (n:Nat):mg P W0 n (wM E U):=by
 intro b0 rd fv O V st K r h c a ats Y D hr i G o next Q I
 cases fv with
 |fn g W=>
  simp only[wM]at h;split at h
  .rename_i s S
   exact M.v R W0 n g s S b0 rd (.fn g W) O V st K r (by simp_all [EM]) c a ats Y D hr i G o next Q I
  split at h
  .rename_i s S
   exact M.x R W0 n g s S b0 rd (.fn g W) O V st K r (by simp_all [NV]) c a ats Y D hr i G o next Q I
  .rw[cond_eq_ite]at h;split at h
   .rename_i ad
    simp only[bU]at i;obtain⟨B,rfl,N⟩:=i;obtain⟨J,j⟩:=acT M.T ((M.b g).1 ad) h hr (us:=D++B) (bJ.append_arr G N)
     (fun e d=>match e with
      |.returned v=>next (a.put o.dst v) d
      |.panicked l=>Q (.panic l) a d
      |.outgrown=>LetsOut Q) (fun q z u y k1 k2 k3 k4=>I q z u y k1 k2 k3 k4)
    rw[oL,J];exact⟨pG rd,(uj j).mono fun e d A=>by cases e<;>exact A⟩
   rw[cond_eq_ite]at h;split at h
   .rename_i ag
    simp only[bU]at i;obtain⟨B,rfl,N⟩:=i;obtain⟨J,j⟩:=an0 ((M.b g).2.1 ag) h hr (us:=D++B) (bJ.append_arr G N)
     (fun e d=>match e with
      |.returned v=>next (a.put o.dst v) d
      |.panicked l=>Q (.panic l) a d
      |.outgrown=>LetsOut Q) (fun q z u y k1 k2 k3 k4=>I q z u y k1 k2 k3 k4)
    rw[oL,J];exact⟨pG rd,(uj j).mono fun e d A=>by cases e<;>exact A⟩
   rw[cond_eq_ite]at h;split at h
   .rename_i ah
    simp only[bU]at i;obtain⟨B,rfl,N⟩:=i;obtain⟨J,j⟩:=aoH ((M.b g).2.2 ah) h hr (us:=D++B) (bJ.append_arr G N)
     (fun e d=>match e with
      |.returned v=>next (a.put o.dst v) d
      |.panicked l=>Q (.panic l) a d
      |.outgrown=>LetsOut Q) (fun q z u y k1 k2 k3 k4=>I q z u y k1 k2 k3 k4)
    rw[oL,J];exact⟨pG rd,(uj j).mono fun e d A=>by cases e<;>exact A⟩
   simp only[bU]at i;obtain⟨B,rfl,N⟩:=i;obtain⟨J,j⟩:=X g (O++W) st K r h b0 rd c a ats (D++B) hr (bJ.append_arr G N)
    (fun e d=>match e with
     |.returned v=>next (a.put o.dst v) d
     |.panicked l=>Q (.panic l) a d
     |.outgrown=>LetsOut Q) (fun q z u y k1 k2 k3 k4=>I q z u y k1 k2 k3 k4)
   rw[oL,J];exact⟨pG rd,(uj j).mono fun e d A=>by cases e<;>exact A⟩
 |mfn g Z=>
  simp only[wM]at h;simp only[bU]at i;obtain⟨B,rfl,ab⟩:=i;split at h
  .rename_i s S
   have h0:=M.x R W0 n g s S b0 rd (.fn g []) (Z++O) V st K r (by simp_all [NV]) c a ats (.func (.func g) #[] #[]) (B++D) hr (by simp only[bU];exact⟨#[],rfl,by simp[bJ]⟩) (bJ.append_arr ab G) o next Q I
   grind [Ti]
  obtain⟨J,j⟩:=X g (Z++O) st K r h b0 rd c a ats (B++D) hr (bJ.append_arr ab G)
   (fun e d=>match e with
    |.returned v=>next (a.put o.dst v) d
    |.panicked l=>Q (.panic l) a d
    |.outgrown=>LetsOut Q) (fun q z u y k1 k2 k3 k4=>I q z u y k1 k2 k3 k4)
  rw[Ti,J];exact⟨pG rd,(uj j).mono fun e d A=>by cases e<;>exact A⟩
 |yld id=>
  simp only[wM]at h;obtain⟨⟨f,fr,ps,jo,bd,ky,k,p,hg⟩,j⟩:=hy id O st K r h b0 rd c a ats D hr G;simp only[bU]at i;have:=i.2.2 f fr ps jo bd ky k p (by rw[hr.hp];exact hg);subst this;obtain⟨g,ai,jo,bd,h3,h4⟩:=j
    (fun e d=>match e with
     |.returned v=>next (a.put o.dst v) d
     |.panicked l=>Q (.panic l) a d
     |.outgrown=>LetsOut Q) (fun q z u y k1 k2 k3 k4=>I q z u y k1 k2 k3 k4) (n-1)
  rw[YS,h3];exact⟨pG rd,h4.mono fun e d A=>by cases e<;>exact A⟩
 |_=>simp[wM]at h
theorem Dq {E:Env} (A:wK P E) {o:nG bQ} (B: ∀W0,uX P W0 o):nN (R:=R) P (RH E fun j st=>o j st fun v _=>a6 v):=by
 intro W0 b0 rd D G I st K r h c a ats J i hr l p;cases D with
 |fn g M=>
  cases M with
  |nil=>
   simp only[RH]at h;split at h
   .rename_i s N
    rw[cond_eq_ite]at h;split at h
    .rename_i O
     exact A.q R g s N O W0 b0 rd (.fn g []) G I st K r (by simp_all [EM]) c a ats J i hr l p
    .cases h
   .split at h
    .rename_i S U
     split at h
     .rename_i v V
      rw[cond_eq_ite]at h;split at h
      .rename_i x
       simp only[bU]at l;obtain⟨W,rfl,X⟩:=l;have Y:W= #[]:=by
        have:=bJ.length _ _ X
        grind
       subst Y;refine⟨v,rv v,h,(IX x _).2 rfl,fun f d=>.inl ⟨g,i, ?_⟩⟩;have Z:iM f 0 a7 (c.base f fun _=>False) ⟨[],[],[],st.nxt⟩ ⟨#[],[]⟩ []:=ap8 (XZ.below d hr.ok.phiw) (fun b h=>h.elim) hr.nxt.symm;have ab:ap1 c (c.base f fun _=>False):=fun b y=>⟨amC.2 ⟨bi y d.size,fun h=>h⟩,d.block b y⟩;obtain⟨h1,h2⟩:=B f g S _ _ v V 0 a7 _ _ [] i Z (Rf hr.ok ab _ _ _ (by rw[hr.hp];exact U) p)
        (fun e ad=>e=.returned (rv v)/\Gw c ad) (fun c' z u ag k1 k2 k3 k4=>by
         simp only[Option.some.injEq]at k1;subst k1;refine⟨by rw[(IX x u).1 k3], ?_⟩;exact d.trans (k2.ok.bel.mono d.size))
       refine⟨?_,h2⟩;rw[oL,Array.append_empty];exact h1
      .cases h
     .cases h
    .cases h
  |cons _ _=>simp[RH]at h
 |_=>simp[RH]at h
theorem G9: ∀k,bJ c (List.replicate k (.tup [])) (List.replicate k undef)
 |0=>by simp[bJ]
 |k+1=>by
  simp only[List.replicate_succ,bJ,bU];exact⟨⟨#[],rfl,by simp[bJ]⟩,G9 k⟩
theorem abE {l:Nat} {Rr:Ending->World->Prop} {e:Ex} {a:Act} {w:World} (h: ∃v w',(Instr.endRound l e.code).run P w=.ok v w'/\Rr (.returned v) w'):roundPost P l Rr e.xt a w:=by
 cases e<;>exact h
theorem Hq: ∀(d:List Nat) (fr args:List bQ) (f:List Value) (tmps:Array Value),bJ c fr tmps.toList->bJ c args f->bJ c (wz fr d args) ((d.zip f).foldl (fun tmps (t,a)=>tmps.setIfInBounds t a) tmps).toList
 |[],fr,args,f,tmps,h,_=>by simp_all [wz]
 |p::d,fr,[],[],tmps,h,_=>by assumption
 |p::d,fr,v::args,u::f,tmps,h,e=>by
  simp only[bJ]at e;simp only[wz,List.zip_cons_cons,aU];refine Hq d _ args f _ ?_ e.2;simp_all [bJ.set]
 |p::d,fr,[],_::_,tmps,h,e=>by simp[bJ]at e
 |p::d,fr,_::_,[],tmps,h,e=>by simp[bJ]at e
end
end
section
open Option renaming some → a6, none → a7
open Bool renaming and_eq_true → af
open Nat renaming le_refl → ae, le_trans → aB
open Go.RowKit
section
variable {P:Program} {T:TT} {W0:World} {b0:Nat} {rd:Option Nat} {R:Type} {r:R} {c:Cx} {ats:List (Array Value)}
def sQ (P:Program) (E:Env):Prop:= ∀(f:FuncId) (fn:Func) (c:Code),P.funcs[f]? =a6 fn->fn.body=a6 c->dM E f c
def afJ (E:Env):Prop:= ∀f k jo d,rH f k=a6 (jo,d)->dM E f jo/\dM E f d
theorem ru {E:Env} {e:nG R} {g:X0} {f:FuncId} {k:Nat} {x y:Code}: ∀c:Code,jq E e g f c->IV c k=a6 (x,y)->jq E e g f x/\jq E e g f y
 |.rangeFunc _ _ jo i,hl,h=>by
  simp only[IV]at h;split at h
  .cases h;exact⟨hl.1,hl.2.1⟩
  .split at h
   .rename_i z d;cases h;exact ru jo hl.1 d
   .exact ru i hl.2.1 h
 |.seq a b,hl,h=>by
  simp only[IV]at h;split at h
  .rename_i z d;cases h;exact ru a hl.1.1 d
  .exact ru b hl.2 h
 |.cond _ a b,hl,h=>by
  simp only[IV]at h;split at h
  .rename_i z d;cases h;exact ru a hl.1 d
  .exact ru b hl.2 h
 |.block _ c,hl,h=>ru c hl h
 |.loop c,hl,h=>ru c hl.1 h
 |.scope c,hl,h=>ru c hl h
 |.skip,_,h|.label _,_,h|.region _ _ _,_,h|.exit _,_,h|.goto _,_,h|.ret,_,h|.refuse _,_,h=>by simp[IV]at h
theorem ak7 {P:Program} {E:Env} (h:sQ P E): ∀f k jo d,aFV P f k=a6 (jo,d)->dM E f jo/\dM E f d:=fun f k jo d hr=>by
 unfold aFV at hr;split at hr
 .rename_i fn e
  split at hr
  .rename_i c g
   exact⟨fun R m=>(ru c (h f fn c e g R m) hr).1,fun R m=>(ru c (h f fn c e g R m) hr).2⟩
  .cases hr
 .cases hr
theorem acr {P:Program} {E:Env} (h:wK P E): ∀R:Type,nN (R:=R) P (GG E.sg E.cl):=fun R W0 b0 rd v e f st K r hr c a ats i j l o p=>by
 unfold GG at hr;split at hr
 .rename_i g
  split at hr
  .rename_i s u
   replace hr:=dG hr;obtain⟨d,hr⟩:=hr;simp only[af]at d;exact h.q R g s u d.1 W0 b0 rd (.fn g []) e f st K r (by simp_all [EM]) c a ats i j l o p
  .cases hr
 .cases hr
theorem wK.at {P:Program} {E:Env} (h:wK P E) (n:Nat):wK P (E.at n):=⟨h.T,h.x,h.b,h.v,h.q⟩
theorem avl {st:St} {K:St->Option R} (h:pop st K=a6 r): ∃fr stk,st.stk=fr::stk/\K {st with fr:=fr,stk:=stk}=a6 r:=by
 grind [pop]
theorem Dp {v:bQ} {u:Value} {f d:Cx} {st st1:St} {a:Act} {z:Nat} (j:iM W0 b0 rd f st a ats) (A:d.Ok W0) (B:d.hp=st1.hp) (D:d.nxt=st1.nxt) (E:st1.fr=[]) (G:CS d st1.stk (a.tmps::ats))
  (g:f.Mono d) (I:bU d v u) {K:bQ->St->Option R} (h:(match gc z v st1 with|some o=>pop o (K v)|none=>a7)=a6 r):
  ∃c' p,K v p=a6 r/\iM W0 b0 rd c' p a ats/\bU c' v u/\f.Mono c'/\c'.w=d.w:=by
 have hr:iM W0 0 a7 d st1 ⟨#[],[]⟩ (a.tmps::ats):=⟨B,D,A,by rw[E];simp[bJ],G,⟨[],rfl,List.nodup_nil,fun r hr=>by simp at hr⟩,fun l hl=>by cases hl⟩;split at h
 .rename_i o J
  obtain⟨M,e,N,q,O,X,_⟩:=hr.gc I J;obtain⟨fr,stk,S,h⟩:=avl h;have i:=e.stk;rw[S]at i;refine⟨M,_,h,⟨e.hp,e.nxt,e.ok,i.1,i.2, ?_,fun l hl=> ?_⟩,N,g.trans q,O⟩
  .obtain⟨U,V,W,s⟩:=j.df;exact⟨U,V,W,fun x y=>⟨q.mks x (g.mks x (s x y).1),(s x y).2⟩⟩
  .obtain⟨L,hL⟩:=j.rd l hl;obtain⟨Y,Z⟩:=g.lp l L hL;simp_all
 .cases h
theorem anK (hT:TOk P T) (hm:P.follows .mixedOrders=true) (ab:Jf P) {E:Env} (ad:E.P=P) (S:E.T=T) (q:wK P E) (ag:sQ P E) (av:afJ E) {m:Nat} (d: ∀(R:Type) (W0:World),uX P W0 (kX E m (R:=R))/\Dl P W0 (kX E m (R:=R))):
  uX P W0 (kX E (m+1) (R:=R)):=by
 intro f A st K r h b0 rd c a ats B hr ah J hR;simp only[kX]at h;rw[ad]at h;split at h
 .cases h
 .rename_i fn M
  split at h
  .cases h
  .rename_i U j
   rw[cond_eq_ite]at h;split at h
   .rename_i ai
    have ai:A.length<=fn.ntmps:=by simp_all
    have aw:A.length=B.size:=by simpa using bJ.length _ _ ah
    refine⟨Be ab M j B c.w, ?_⟩;refine(callsIn_wide (n:=0)).1 (callsIn_of_wp_marks (F:=Fence.wide) (n:=0) M j trivial ?_);have aj:iM W0 c.w.heap.size a7 c {fr:=A++List.replicate (fn.ntmps-A.length) (.tup []),stk:=st.fr::st.stk,hp:=st.hp,nxt:=st.nxt} {tmps:=B++Array.replicate (fn.ntmps-B.size) undef,defers:=[]} (a.tmps::ats):=by
     refine⟨hr.hp,hr.nxt,hr.ok, ?_,⟨hr.fr,hr.stk⟩,⟨[],rfl,List.nodup_nil,fun r hr=>by simp at hr⟩,fun l hl=>by cases hl⟩
     grind [bJ.append_arr,Array.toList_replicate,G9]
    refine NC (rd:=a7) hT hm (n:=0) (E:=E.at m) S (kS (E:=E.at m) (q.at m) (d R W0).1 (d R W0).2 0) (Dq (E:=E.at m) (q.at m) fun W=>(d bQ W).1) (d R W0).1 (kS (E:=E.at m) (q.at m) (d St W0).1 (d St W0).2 0) (kS (E:=E.at m) (q.at m) (d Unit W0).1 (d Unit W0).2 0) (acr (E:=E.at m) (q.at m)) U (ag f fn U M j R m) _ _ c _ _ h aj (ae _) fun e N s O D o p=> ?_;have V:(sD E.T s fn.results.toList fun y=>
       let v:=match y with
        |[v]=>v
        |y=>.tup y
       match gc (bif E.cl then st.nxt else 1000000*s.stk.length) v {s with fr:=[]}with
       |some ak=>pop ak (K v)
       |none=>a7)=a6 r->LeavesInM Fence.wide 0 P fn O.tmps J O.defers .returning N.w:=by
     intro X;obtain⟨ds,d1,d2,Y⟩:=o.df;obtain⟨Z,e1,e2,G,e4,e5,e6,e7,al,e8⟩:=U4 (n:=0) (P:=P) (fn:=fn) (tmps:=O.tmps) (Rr:=J) ds N o.ok d2 fun x I=>(Y x I).1;rw[d1];refine e8 ?_;rw[S]at X;obtain⟨y,us,h3,h4,h5⟩:=zu hT e4 (e1.trans o.hp) (bJ.le0 G _ _ o.fr) _ _ X;have an:c.Mono Z:=by
      refine⟨fun x I=>e5 x (p.mks x I) fun hd=> ?_,fun b L hL=> ?_,aB p.size e7,al.trans p.bar,fun b j=>⟨(G.out b (p.out b j).1).1,(G.out b (p.out b j).1).2.trans (p.out b j).2⟩⟩
      .have h6:=(Y x hd).2;have h7:=hr.ok.mark_lt I;omega
      .obtain⟨L1,ao⟩:=p.lp b L hL;exact e6 b L1 ao
     obtain⟨c3,ax,k1,k2,k3,k4,k5⟩:=Dp (v:=Nv y) (u:=IU us) hr e4 (st1:={s with fr:=[]}) (e1.trans o.hp) (e2.trans o.nxt) rfl (by
      have: ∀(z:List (List bQ)) (g:List (Array Value)),CS N z g->CS Z z g:=fun z=>by
       induction z with
       |nil=>intro g h;cases g with
        |nil=>trivial
        |cons _ _=>exact h.elim
       |cons f z au=>intro g h;cases g with
        |nil=>exact h.elim
        |cons t g=>exact⟨bJ.le0 G _ _ h.1,au g h.2⟩
      exact this _ _ o.stk) an (Ak h4) (K:=K) h3
     refine⟨IU us,ae1 h5, ?_⟩
     grind
    cases e with
    |normal=>exact V D
    |ret=>exact V D
    |exit i=>cases D
    |goto l=>cases D
   .cases h
theorem agx (hT:TOk P T) (hm:P.follows .mixedOrders=true) (bz:Jf P) {E:Env} (bC:E.P=P) (aS:E.T=T) (V:wK P E) (bD:sQ P E) (au:afJ E) {m:Nat} (g: ∀(R:Type) (W0:World),uX P W0 (kX E m (R:=R))/\Dl P W0 (kX E m (R:=R))):
  Dl P W0 (kX E (m+1) (R:=R)):=by
 intro id ah st K r h b0 rd c a ats ai hr av;simp only[kX]at h;split at h
 .rename_i f aj ps jo X d hg
  refine⟨⟨f,aj,ps,jo,X,d,0,a7,hg⟩,fun Rr hR n=> ?_⟩;rw[cond_eq_ite]at h;split at h
  .rename_i aw
   have aw:ah.length=ps.length:=by simpa using aw
   have bF:ah.length=ai.size:=by simpa using bJ.length _ _ av
   have ax:dO c.hp id=a6 (.lp f aj ps jo X d 0 a7):=by rw[hr.hp];exact hg
   obtain⟨ay,hB,L,hL,hv,q1,q2,q3,q4,q5⟩:=hr.ok.obj id _ ax;have o:wK P ((E.at m).keyed d):=by
    cases d with
    |none=>exact⟨V.T,V.x,V.b,V.v,V.q⟩
    |some k=>exact V.at m
   have az:((E.at m).keyed d).T=T:=by cases d<;>exact aS
   have⟨aU,aV⟩:jq ((E.at m).keyed d) (kX E m (R:=R)) (We E m) f jo/\jq ((E.at m).keyed d) (kX E m (R:=R)) (We E m) f X:=by
    cases d with
    |none=>exact⟨iO (fun _=>rfl) (fun _=>rfl) _,iO (fun _=>rfl) (fun _=>rfl) _⟩
    |some k=>exact⟨(au f k jo X (ay k rfl)).1 R m,(au f k jo X (ay k rfl)).2 R m⟩
   have aW:ai.size=L.params.size:=by
    grind
   refine⟨_,_,_,_,run_yield hL aW, ?_⟩;refine roundIn_of_wpIn trivial ?_;rw[q2,q3];have aX:bU c (.yld id) (.func (.yield (c.mu id).blk) #[] #[]):=by
    simp only[bU];exact⟨rfl,.inl ⟨_,ax⟩,fun _ _ _ _ _ _ _ _ _=>by simp⟩
   have aY:iM W0 c.w.heap.size (a6 (c.mu id).blk) c {fr:=wz aj ps ah,stk:=[.yld id]::st.fr::st.stk,hp:=st.hp,nxt:=st.nxt} {tmps:=(L.params.zip ai).foldl (fun aA (t,a)=>aA.setIfInBounds t a) L.tmps,defers:=[]} (#[.func (.yield (c.mu id).blk) #[] #[]]::a.tmps::ats):=by
    refine⟨hr.hp,hr.nxt,hr.ok, ?_,⟨by simpa [bJ] using aX,hr.fr,hr.stk⟩,⟨[],rfl,List.nodup_nil,fun r hr=>by simp at hr⟩,fun l hl=>by simp_all⟩;have:=Hq ps aj ah ai.toList L.tmps hv av
    grind [Array.toList_zip]
   refine NC (rd:=a6 (c.mu id).blk) hT hm (E:=(E.at m).keyed d) az (kS (E:=(E.at m).keyed d) o (g R W0).1 (g R W0).2 n) (Dq (E:=(E.at m).keyed d) o fun W=>(g bQ W).1) (g R W0).1 (kS (E:=(E.at m).keyed d) o (g St W0).1 (g St W0).2 n) (kS (E:=(E.at m).keyed d) o (g Unit W0).1 (g Unit W0).2 n) (acr o) jo aU _ _ c _ _ h aY (ae _) fun e c1 Y a1 y p aZ=> ?_;cases e with
   |normal=>
    split at y
    .rename_i an cb _ bf
     split at y
     .rename_i f1 aF aG aH aI aJ bg
      have s:=p.stk;rw[bf]at s;obtain⟨aK,_⟩:=s;simp only[bJ,and_true]at aK;have ao:=bg;rw[<-p.hp]at ao;obtain⟨cc,cd,L1,bi,ch,p1,p2,p3,p4,p5⟩:=p.ok.obj an _ ao;simp only[bU]at aK;have cn:(c.mu id).blk=(c1.mu an).blk:=by simp_all
      obtain⟨c2,e1,e2,e3,e4,e5,e6⟩:=IY p.ok ao bi {L1 with state:=.busy} (o':=.lp f1 aF aG aH aI aJ 2 a7) (.inr ⟨2,a7,rfl,rfl,rfl,rfl,rfl,rfl⟩);simp only[Ex.xt,Exit.then];refine⟨c2.w, ?_, ?_⟩
      .simp_all [run_beginRound]
      have ad:c.Mono c2:=aZ.trans e3.mono;have bn:iM W0 c.w.heap.size (a6 (c.mu id).blk) c2 {Y with hp:=iV Y.hp an (.lp f1 aF aG aH aI aJ 2 a7)} a1 (#[.func (.yield (c.mu id).blk) #[] #[]]::a.tmps::ats):=
       ⟨e1.trans (by rw[p.hp]),e2.trans p.nxt,e4,bJ.le e3 _ _ p.fr,CS.le e3 _ _ p.stk,let⟨ds,d1,d2,d3⟩:=p.df;⟨ds,d1,d2,fun x hx=>⟨e3.mks x (d3 x hx).1,(d3 x hx).2⟩⟩,fun l hl=>let⟨L,hL⟩:=p.rd l hl;e3.lp l L hL⟩
      refine NC (rd:=a6 (c.mu id).blk) hT hm (E:=(E.at m).keyed d) az (kS (E:=(E.at m).keyed d) o (g R W0).1 (g R W0).2 n) (Dq (E:=(E.at m).keyed d) o fun W=>(g bQ W).1) (g R W0).1 (kS (E:=(E.at m).keyed d) o (g St W0).1 (g St W0).2 n) (kS (E:=(E.at m).keyed d) o (g Unit W0).1 (g Unit W0).2 n) (acr o) X aV _ _ c2 _ _ y bn ad.size fun e c3 z a3 A j ak=> ?_;refine abE ?_;split at A
      .rename_i Z al bt
       split at A
       .rename_i B D G I J M bu
        have s:=j.stk;rw[bt]at s;obtain⟨aO,s⟩:=s;simp only[bJ,and_true]at aO;have ab:=bu;rw[<-j.hp]at ab;obtain⟨cu,cv,L3,ag,dc,w1,w2,w3,w4⟩:=j.ok.obj Z _ ab;simp only[bU]at aO;have aP:(c.mu id).blk=(c3.mu Z).blk:=by simp_all
        have aQ:=run_endRound (P:=P) (w:=c3.w) e.code ag;rw[<-aP]at aQ;refine⟨_,_,aQ, ?_⟩;rw[aP];cases e with
        |normal=>
         obtain⟨N,g1,g2,g3,g4,g5,g6⟩:=IY j.ok ab ag {L3 with state:=.ready,pending:=a7} (o':=.lp B D G I J M 0 a7) (.inr ⟨0,a7,rfl,⟨rfl,rfl⟩,rfl,rfl,rfl,rfl⟩);have O:c.Mono N:=(ad.trans ak).trans g3.mono;obtain⟨S,U,k1,k2,k3,k4,k5⟩:=Dp (v:=.undef) (u:=undef) hr g4 (st1:={z with fr:=[],stk:=al,hp:=iV z.hp Z (.lp B D G I J M 0 a7)}) (g1.trans (by rw[j.hp])) (g2.trans j.nxt) rfl (CS.le g3 _ _ s) O (by simp[bU]) (K:=fun _=>K (.val .bool true)) A;have:=hR S (.val .bool true) (.bool true) U k1 k2 (by simp only[bU];exact VD.bool_mk) k4;rw[k5,g5]at this;exact this
        |exit i=>
         obtain⟨N,g1,g2,g3,g4,g5,g6⟩:=IY j.ok ab ag {L3 with state:=.done,pending:=a6 (.exit i)} (o':=.lp B D G I J M 1 (a6 (.exit i))) (.inr ⟨1,a6 (.exit i),rfl,⟨rfl,rfl,by simp[Ex.code]⟩,rfl,rfl,rfl,rfl⟩);have O:c.Mono N:=(ad.trans ak).trans g3.mono;obtain⟨S,U,k1,k2,k3,k4,k5⟩:=Dp (v:=.undef) (u:=undef) hr g4 (st1:={z with fr:=[],stk:=al,hp:=iV z.hp Z (.lp B D G I J M 1 (a6 (.exit i)))}) (g1.trans (by rw[j.hp])) (g2.trans j.nxt) rfl (CS.le g3 _ _ s) O (by simp[bU]) (K:=fun _=>K (.val .bool false)) A;have:=hR S (.val .bool false) (.bool false) U k1 k2 (by simp only[bU];exact VD.bool_mk) k4;rw[k5,g5]at this;exact this
        |goto l=>
         obtain⟨N,g1,g2,g3,g4,g5,g6⟩:=IY j.ok ab ag {L3 with state:=.done,pending:=a6 (.goto l)} (o':=.lp B D G I J M 1 (a6 (.goto l))) (.inr ⟨1,a6 (.goto l),rfl,⟨rfl,rfl,by simp[Ex.code]⟩,rfl,rfl,rfl,rfl⟩);have O:c.Mono N:=(ad.trans ak).trans g3.mono;obtain⟨S,U,k1,k2,k3,k4,k5⟩:=Dp (v:=.undef) (u:=undef) hr g4 (st1:={z with fr:=[],stk:=al,hp:=iV z.hp Z (.lp B D G I J M 1 (a6 (.goto l)))}) (g1.trans (by rw[j.hp])) (g2.trans j.nxt) rfl (CS.le g3 _ _ s) O (by simp[bU]) (K:=fun _=>K (.val .bool false)) A;have:=hR S (.val .bool false) (.bool false) U k1 k2 (by simp only[bU];exact VD.bool_mk) k4;rw[k5,g5]at this;exact this
        |ret=>
         obtain⟨N,g1,g2,g3,g4,g5,g6⟩:=IY j.ok ab ag {L3 with state:=.done,pending:=a6 (.ret)} (o':=.lp B D G I J M 1 (a6 .ret)) (.inr ⟨1,a6 .ret,rfl,⟨rfl,rfl,by simp[Ex.code]⟩,rfl,rfl,rfl,rfl⟩);have O:c.Mono N:=(ad.trans ak).trans g3.mono;obtain⟨S,U,k1,k2,k3,k4,k5⟩:=Dp (v:=.undef) (u:=undef) hr g4 (st1:={z with fr:=[],stk:=al,hp:=iV z.hp Z (.lp B D G I J M 1 (a6 .ret))}) (g1.trans (by rw[j.hp])) (g2.trans j.nxt) rfl (CS.le g3 _ _ s) O (by simp[bU]) (K:=fun _=>K (.val .bool false)) A;have:=hR S (.val .bool false) (.bool false) U k1 k2 (by simp only[bU];exact VD.bool_mk) k4;rw[k5,g5]at this;exact this
       .cases A
      .cases A
     .cases y
    .cases y
   |exit i=>simp at y
   |goto l=>simp at y
   |ret=>simp at y
  .cases h
 .cases h
theorem Ii (hT:TOk P T) (d:P.follows .mixedOrders=true) (e:Jf P) {E:Env} (g:E.P=P) (i:E.T=T) (j:wK P E) (l:sQ P E) (o:afJ E): ∀(m:Nat) (R:Type) (W0:World),uX P W0 (kX E m (R:=R))/\Dl P W0 (kX E m (R:=R))
 |0,R,W0=>⟨fun f p st K r h=>by simp[kX]at h,fun id p st K r h=>by simp[kX]at h⟩
 |m+1,R,W0=>⟨anK hT d e g i j l o (Ii hT d e g i j l o m),agx hT d e g i j l o (Ii hT d e g i j l o m)⟩
end
end
section
open Option renaming some → a6, none → a7
open Bool renaming and_eq_true → af
open List renaming mem_cons_of_mem → ak, all_cons → aW
open Nat renaming le_refl → ae
open Go.RowKit
def pz (c:Cx):(d:List Ty)->(d.foldr Ty.pair Ty.unit).den->List Value->Prop
 |[],_,us=>us=[]
 |t::d,x,us=> ∃u e,us=u::e/\VD c t x.1 u/\pz c d x.2 e
def kQ (w:World) (d:Nat->Prop):Cx:=⟨fun _=>⟨0,undef⟩,[],0,w,[],d⟩
def FV (rs:List (Ty×Bool)) (y:((rs.map (·.1)).foldr Ty.pair Ty.unit).den):gK:=
 match x8 rs y with
 |some ⟨e,xs⟩=>[(0,.arr e 0 xs)]
 |none=>[]
def AX (w:World) (f:Nat->Prop) (rs:List (Ty×Bool)) (y:((rs.map (·.1)).foldr Ty.pair Ty.unit).den):Ending->World->Prop:=fun e g=>
 ∃(d:Cx) (us:List Value),e=.returned (IU us)/\d.w=g/\d.Ok w/\d.bar=f/\d.mks=[]/\d.hp=FV rs y/\bJ d (oZ 0 rs y) us
def dU (P:Program) (g:FuncId) (s:Sum):Prop:=
 ∀(w:World) (e:Nat->Prop) (d:Array Value) x y,XZ w->(∀b,e b->b<w.heap.size)->pz (kQ w e) s.ps x d.toList->s.f x=a6 y->
  ((callFunc g d).run P w=.ok (.enter g d) w/\Calls P g d w (AX w e s.rs y))\/ ∃u,(callFunc g d).run P w=.ok (.value u) w/\AX w e s.rs y (.returned u) w
section
variable {P:Program} {T:TT} {W0:World} {b0:Nat} {rd:Option Nat} {R:Type} {r:R} {c:Cx} {ats:List (Array Value)}
theorem H9 {w:World} {d:Nat->Prop} {b:Nat}:(kQ w d).free b↔b<w.heap.size/\ ¬d b:=by
 constructor
 .intro h;exact⟨h.1,h.2.2.2⟩
 .rintro ⟨e,f⟩;exact⟨e,(by rintro ⟨i,o,h,_⟩;simp[kQ,dO]at h),by simp[kQ],f⟩
theorem ait (s:c.Ok W0) {cb:Cx} (i:ap1 c cb) {t:Ty} {v:bQ} {x:t.den} {u:Value} (h:v.as c.hp t=a6 x) (d:bU c v u):VD cb t x u:=by
 have o: ∀{t:Ty} {x:t.den} {u:Value},VD c t x u->VD cb t x u:=fun {t x u} d=>
  ⟨fun e=>let⟨cs,f,j⟩:=d.1 e;⟨cs,f,eY.mono (fun b g=>i b g.1) t x _ j⟩,fun e=>eY.mono (fun b g=>i b g.1) t x _ (d.2 e)⟩
 cases v with
 |val t' z=>
  grind [bQ.as,iy,fV,bU]
 |nils=>
  cases t with
  |list e=>grind [Fh]
  |_=>simp[bQ.as]at h
 |lst t' z b=>
  simp only[bQ.as]at h;have e:=iy h;subst e;simp_all [fV,bU]
 |emp=>
  cases t with
  |list e=>grind [Fh]
  |_=>simp[bQ.as]at h
 |slc id ver y=>
  cases t with
  |list e=>grind [Fh]
  |_=>simp[bQ.as]at h
 |agg l=>
  simp only[bQ.as]at h;rw[cond_eq_ite]at h;split at h
  .rename_i p
   simp only[bU]at d;obtain⟨q,rfl,f,j⟩:=d;exact o ((VD.agg p).2 ⟨q,rfl,oO h f⟩)
  .cases h
 |_=>simp[bQ.as]at h
theorem Jj {cb:Cx} (f: ∀b,c.free b->cb.free b/\cb.w.heap[b]? =c.w.heap[b]?) {t:Ty} {v:bQ} {x:t.den} {u:Value} (j:mQ v=false) {hp:gK} (h:v.as hp t=a6 x) (d:bU c v u):VD cb t x u:=by
 cases v with
 |val t' z=>
  simp only[bQ.as]at h;have e:=iy h;subst e;rw[fV]at h;cases h;simp only[bU]at d;exact⟨fun e=>let⟨cs,g,i⟩:=d.1 e;⟨cs,g,eY.mono f t' _ _ i⟩,fun e=>eY.mono f t' _ _ (d.2 e)⟩
 |nils=>
  cases t with
  |list e=>
   simp only[bQ.as,Option.some.injEq]at h;subst h;simp only[bU]at d;subst d;exact(VD.leaf rfl).2 ⟨a7,0,[],rfl,ae _,rfl,.inl rfl⟩
  |_=>simp[bQ.as]at h
 |lst t' z b=>
  simp only[bQ.as]at h;have e:=iy h;subst e;rw[fV]at h;cases h;simp only[bU]at d;exact⟨fun e=>let⟨cs,g,i⟩:=d.1.1 e;⟨cs,g,eY.mono f _ _ _ i⟩,fun e=>eY.mono f _ _ _ (d.1.2 e)⟩
 |emp=>
  cases t with
  |list e=>
   simp only[bQ.as,Option.some.injEq]at h;subst h;simp only[bU]at d;obtain⟨a,rfl⟩:=d;exact(VD.leaf rfl).2 ⟨a,0,[],rfl,ae _,rfl,.inl rfl⟩
  |_=>simp[bQ.as]at h
 |slc id ver o=>simp[mQ]at j
 |agg l=>simp[mQ]at j
 |_=>simp[bQ.as]at h
theorem zH {cb:Cx} {hp:gK}: ∀(e:List Ty) (args:List bQ) x (us:List Value),zG hp e args=a6 x->bJ c args us->
  (∀(t:Ty) (v:bQ) (x:t.den) (u:Value),v∈args->v.as hp t=a6 x->bU c v u->VD cb t x u)->pz cb e x us
 |[],[],x,[],h,_,_=>rfl
 |t::e,v::args,x,u::us,h,d,f=>by
  simp only[zG]at h;split at h
  .rename_i g i
   split at h
   .rename_i j l
    cases h;simp only[bJ]at d;exact⟨u,us,rfl,f t v g u (by simp) i d.1,zH e args j us l d.2 fun t v x u o=>f t v x u (ak _ o)⟩
   .cases h
  .cases h
 |[],[],_,_::_,_,d,_=>by simp[bJ]at d
 |[],_::_,_,_,h,_,_=>by simp[zG]at h
 |_::_,[],_,_,h,_,_=>by simp[zG]at h
 |_::_,_::_,_,[],_,d,_=>by simp[bJ]at d
theorem VD.move {c' c2:Cx} (f:c2.w=c'.w) {t:Ty} {x:t.den} {u:Value} (h:(∀b,c'.free b->c2.free b)\/t.rigid=true) (g:VD c' t x u):VD c2 t x u:=by
 rcases h with h|h
 .exact⟨fun e=>let⟨cs,i,j⟩:=g.1 e;⟨cs,i,eY.mono (fun b d=>⟨h b d,by rw[f]⟩) t x _ j⟩,fun e=>eY.mono (fun b d=>⟨h b d,by rw[f]⟩) t x _ (g.2 e)⟩
 simp_all [VD.rigid]
theorem fP.move {c' c2:Cx} (f:c2.w=c'.w) {e:Ty} {xs:List e.den} {d:List Value} (h:(∀b,c'.free b->c2.free b)\/e.rigid=true) (g:fP (eY c'.w c'.free e) e.size xs d):fP (eY c2.w c2.free e) e.size xs d:=by
 grind [fP.mono,eY.mono,uI]
theorem Gv {c' c2:Cx} (f:c2.w=c'.w) (id:Nat): ∀(rs:List (Ty×Bool)) y (us:List Value),(∀t∈rs,(∀b,c'.free b->c2.free b)\/t.1.rigid=true\/t.2=true)->
  (news rs=0\/ ∀u,bU c' (.slc 0 0 a7) u->bU c2 (.slc id 0 a7) u)->bJ c' (oZ 0 rs y) us->bJ c2 (oZ id rs y) us
 |[],y,[],_,_,_=>by simp[oZ,bJ]
 |[],y,_::_,_,_,d=>by assumption
 |(t,false)::rs,y,us,h,e,d=>by
  cases us with
  |nil=>assumption
  |cons u us=>
   simp only[oZ,bJ,bU]at d ⊢;refine⟨VD.move f ?_ d.1,Gv f id rs y.2 us (fun t g=>h t (ak _ g)) e d.2⟩;simp_all
 |(t,true)::rs,y,us,h,e,d=>by
  cases us with
  |nil=>assumption
  |cons u us=>
   simp only[oZ,bJ]at d ⊢;rcases e with e|e
   .simp[news]at e
   .exact⟨e u d.1,Gv f id rs y.2 us (fun t g=>h t (ak _ g)) (.inr e) d.2⟩
theorem afB {c':Cx}: ∀(rs:List (Ty×Bool)) y (us:List Value),news rs≠0->bJ c' (oZ 0 rs y) us-> ∃u,bU c' (.slc 0 0 a7) u
 |[],y,us,h,_=>by simp[news]at h
 |(t,false)::rs,y,us,h,d=>by
  cases us with
  |nil=>simp[oZ,bJ]at d
  |cons u us=>
   simp only[oZ,bJ]at d;exact afB rs y.2 us (by simpa [news] using h) d.2
 |(t,true)::rs,y,us,h,d=>by
  cases us with
  |nil=>simp[oZ,bJ]at d
  |cons u us=>
   grind [oZ,bJ]
theorem OU: ∀(rs:List (Ty×Bool)) y {e:Ty} {xs:List e.den},x8 rs y=a6 ⟨e,xs⟩->(rs.all fun r=>r.1.rigid||(r.2&&r.1.elem.rigid))=true->e.rigid=true
 |[],y,e,xs,h,_=>by simp[x8]at h
 |(t,false)::rs,y,e,xs,h,d=>by
  simp only[x8]at h;simp only[aW,af]at d;exact OU rs y.2 h d.2
 |(t,true)::rs,y,e,xs,h,d=>by
  cases t with
  |list f=>
   simp only[x8,Option.some.injEq,Sigma.mk.injEq]at h;obtain⟨rfl,_⟩:=h;simp_all [Ty.rigid,Ty.elem]
  |_=>simp[x8]at h
theorem axD {c':Cx} (d:c.Ok W0) (o:c'.Ok c.w) (f:c'.bar=fun b=>b<c.w.heap.size/\ ¬c.free b) {b:Nat} (hb:c'.free b):(c.at_ c'.w).free b:=by
 refine⟨hb.1, ?_⟩;by_cases hlt:b<c.w.heap.size
 .have e:=hb.2.2.2;rw[f]at e;have g:c.free b:=Classical.byContradiction fun h=>e ⟨hlt,h⟩;exact g.2
 .refine⟨fun i=>hlt (d.own_lt i).2,fun j=>hlt (d.mark_lt j),fun l=>hlt (d.bar b l).1⟩
theorem afw {s:Sum} {cl:Bool} {args:List bQ} {dst:Option Nat} {st:St} {K:bQ->St->Option R} (h:s.call cl args dst st K=a6 r):
    ((s.rs.all fun r=>r.1.rigid||(r.2&&r.1.elem.rigid))=true\/args.any mQ=false)/\ ∃x y,zG st.hp s.ps args=a6 x/\s.f x=a6 y/\
      ((x8 s.rs y=a7/\news s.rs=0/\K (Nv (oZ 0 s.rs y)) st=a6 r)\/
       (∃e xs id n',x8 s.rs y=a6 ⟨e,xs⟩/\news s.rs=1/\dO st.hp id=a7/\st.nxt<=id/\st.nxt<=n'/\K (Nv (oZ id s.rs y)) {st with hp:=(id,.arr e 0 xs)::st.hp,nxt:=n'}=a6 r)):=by
  unfold Sum.call at h;rw[cond_eq_ite]at h;split at h
  . rename_i d
    refine⟨by simpa using d, ?_⟩;split at h
    . rename_i x g
      cases hy:s.f x with
      |none=>rw[hy]at h;cases h
      |some y=>
        rw[hy]at h;simp only[bH]at h;refine⟨x,y,g,hy, ?_⟩;split at h
        . simp_all [cond_eq_ite]
        . rename_i e xs i
          rw[cond_eq_ite]at h;split at h
          . rename_i h0
            obtain⟨id,n',j,l,o,p⟩:=jf h;exact .inr ⟨e,xs,id,n',i,by simpa using h0,j,l,o,p⟩
          . cases h
    . cases h
  . cases h
end
end
section
open Option renaming some → a6, none → a7
open Bool renaming and_eq_true → af
open List renaming mem_cons_of_mem → ak, map_cons → ax, mem_append_right → bz
open Nat renaming le_refl → ae, eq_of_beq_eq_true → aj, le_trans → aB, lt_of_lt_of_le → bi
open Go.RowKit
section
variable {P:Program} {T:TT} {W0:World} {b0:Nat} {rd:Option Nat} {R:Type} {r:R} {c:Cx} {ats:List (Array Value)}
theorem Cx.many {c2:Cx} (g:c.Ok W0) (S:Nat->Prop) (y:c2.mks=c.mks) (I:c2.bar=c.bar) (U:c2.nxt=c.nxt)
  (z: ∀i,¬S i->dO c2.hp i=dO c.hp i/\c2.mu i=c.mu i)
  (V: ∀i,S i-> ∃o o',dO c.hp i=a6 o/\dO c2.hp i=a6 o'/\o.like (c.mu i) o' (c2.mu i)/\ ∀f fr W jo X Y n p,o≠ .lp f fr W jo X Y n p)
  (Z:Below W0.heap.size W0 c2.w) (J:c.w.heap.size<=c2.w.heap.size)
  (A: ∀b,b<c.w.heap.size->(∀i o,S i->dO c.hp i=a6 o->o.blk (c.mu i)≠a6 b)->c2.w.heap[b]? =c.w.heap[b]?)
  (K: ∀i o' b,S i->dO c2.hp i=a6 o'->o'.blk (c2.mu i)=a6 b->c.w.heap.size<=b\/ ∃j o,S j/\dO c.hp j=a6 o/\o.blk (c.mu j)=a6 b)
  (ad: ∀i j o' h b,S i->S j->dO c2.hp i=a6 o'->dO c2.hp j=a6 h->o'.blk (c2.mu i)=a6 b->h.blk (c2.mu j)=a6 b->i=j)
  (ag: ∀(b:Nat) (L:Loop) (i:Nat) o,S i->dO c.hp i=a6 o->o.blk (c.mu i)=a6 b->c.w.heap[b]? ≠a6 (Obj.loop L)):
  c.Le c2/\((∀i o',S i->dO c2.hp i=a6 o'->c2.ORel W0.heap.size i o')->c2.Ok W0):=by
 have B:c.Le c2:=by
  refine⟨fun b e=>⟨⟨bi e.1 J, ?_,by rw[y];exact e.2.2⟩,A b e.1 fun i o _ l d=>e.2.1 ⟨i,o,l,d⟩⟩,fun i x=> ?_,fun i o' x v=> ?_,fun r hr=>by rw[y];exact hr,fun b L hL=> ?_,J,I⟩
  .rintro ⟨i,o',l,d⟩;by_cases s:S i
   .rcases K i o' b s l d with q|⟨j,o,_,q,u⟩
    .have:=e.1;omega
    .exact e.2.1 ⟨j,o,q,u⟩
   .obtain⟨q,u⟩:=z i s;rw[q]at l;rw[u]at d;exact e.2.1 ⟨i,o',l,d⟩
  .by_cases s:S i
   .obtain⟨o,o',_,d,_⟩:=V i s;exact .inl ⟨o',d⟩
   .rcases x with ⟨o,v⟩|x
    .exact .inl ⟨o,by simp_all⟩
    .exact .inr (by rw[U];exact x)
  .by_cases s:S i
   .grind
   .obtain⟨q,u⟩:=z i s;rw[q]at v;exact⟨o',v,by rw[u];exact o'.like_refl _⟩
  grind
 refine⟨B,fun hO=>⟨Z,fun i o' v=> ?_,fun i j o' h b l d q u=> ?_,fun r hr=> ?_,fun b e=> ?_,g.phi⟩⟩
 .by_cases s:S i
  .exact hO i o' s v
  .obtain⟨q,u⟩:=z i s;rw[q]at v;refine(g.obj i o' v).le B u fun b e=>A b ((g.obj i o' v).lt e).2 fun j o ah D E=> ?_;have:=g.inj j i o o' b D v E e;simp_all
 .have G: ∀i o' b,¬S i->dO c2.hp i=a6 o'->o'.blk (c2.mu i)=a6 b->dO c.hp i=a6 o'/\o'.blk (c.mu i)=a6 b:=fun i o' b s l d=>by
   simp_all
  have mixed: ∀i j o' h b,S i-> ¬S j->dO c2.hp i=a6 o'->dO c2.hp j=a6 h->o'.blk (c2.mu i)=a6 b->h.blk (c2.mu j)=a6 b->False:=fun i j o' h b l d q u D E=>by
   obtain⟨M,N⟩:=G j h b d u E;rcases K i o' b l q D with O|⟨k,o,hk,O,ab⟩
   .have:=((g.obj j h M).lt N).2;omega
   .have:=g.inj k j o h b O M ab N;simp_all
  by_cases x:S i<;>by_cases hj:S j
  .grind
  .grind
  .grind
  .obtain⟨q1,q2⟩:=G i o' b x l q;obtain⟨q3,q4⟩:=G j h b hj d u;exact g.inj i j o' h b q1 q3 q2 q4
 .rw[y]at hr;exact⟨(g.mks r hr).1,(A r (g.mark_lt hr) fun i o s l d=>g.mark_own hr ⟨i,o,l,d⟩).trans (g.mks r hr).2⟩
 .rw[I]at e;exact(B.out b (g.bar b e)).1
theorem aAV {size:Nat} {s u:Value} {e:Option (Int×Int)} (h:ja size s e u) {b off n cp:Nat} (f:u=.slice (a6 ⟨b,off,a7⟩) n cp):s.ownBlock=a6 b:=by
 subst f;cases e with
 |none=>simp only[ja]at h;subst h;rfl
 |some p=>
  obtain⟨lo,i⟩:=p;simp only[ja]at h;obtain⟨a,m,q,rfl,_,_,_,g⟩:=h;have d:(a6 ⟨b,off,a7⟩:Option Addr)=if q=lo.toNat then a else a.map (·.add (lo.toNat*size)):=by injection g
  split at d
  .subst d;rfl
  .cases a with
   |none=>cases d
   |some a=>
    simp only[Option.map_some,Option.some.injEq]at d;have:=congrArg Addr.block d
    grind [Value.ownBlock,Addr.add]
theorem afN (s:c.Ok W0) {cb:Cx} (g: ∀b,c.free b->cb.free b/\cb.w.heap[b]? =c.w.heap[b]?) {t:Ty} {v:bQ} {x:t.den} {u:Value}
  (A: ∀id i p,v=.slc id i p-> ∀o b,dO c.hp id=a6 o->o.blk (c.mu id)=a6 b->cb.free b/\cb.w.heap[b]? =c.w.heap[b]?) (h:v.as c.hp t=a6 x) (d:bU c v u):VD cb t x u:=by
 cases hno:mQ v with
 |false=>exact Jj g hno h d
 |true=>
  cases v with
  |slc id i p=>
   cases t with
   |list e=>
    obtain⟨a,cp,B,f,j,D⟩:=UN s h d;have E:=abL s h d f;have G: ∃t xs,dO c.hp id=a6 (.arr t i xs):=by
     simp only[bQ.as,Bg]at h
     grind
    obtain⟨S,U,y⟩:=G;simp only[bU]at d;have I:=(d.2.2 _ _ _ y).2 rfl;refine(VD.leaf rfl).2 ⟨a,cp,B,by rw[f],E,fP.mono (eY.mono g e) _ _ j,D.imp (fun h=>h) fun⟨b,q,z,V,W,J⟩=> ?_⟩;have X:=aAV I (b:=b) (off:=q) (n:=x.length) (cp:=cp) (by rw[f,z]);obtain⟨K,M⟩:=A id i p rfl _ b y (by assumption);exact⟨b,q,z,K,J.of_block M⟩
   |_=>simp[bQ.as]at h
  |agg l=>
   simp only[bQ.as]at h;replace h:=dG h;obtain⟨N,h⟩:=h;simp only[bU]at d;obtain⟨O,rfl,f,j⟩:=d;have:=(VD.agg N).2 ⟨O,rfl,oO h f⟩;exact⟨fun e=>let⟨cs,f,j⟩:=this.1 e;⟨cs,f,eY.mono g _ _ _ j⟩,fun e=>eY.mono g _ _ _ (this.2 e)⟩
  |_=>simp[mQ]at hno
theorem Ea: ∀{l:List Nat},TZ l=true->l.Nodup
 |[],_=>List.nodup_nil
 |i::l,h=>by
  simp only[TZ,af,Bool.not_eq_true']at h;refine List.nodup_cons.2 ⟨fun d=> ?_,Ea h.2⟩;have:Zc l i=true:=List.any_eq_true.2 ⟨i,d,by simp⟩;simp_all
theorem Xg {hp:gK} {b:Bool}: ∀(cs:List (Ty×Bool)) (cells:List bQ) {x},jL hp b cs cells=a6 x-> ∀n,(je cs n).length=(oU cs cells).length:=by
 intro cs
 induction cs with
 |nil=>intro cells x h n;cases cells<;>rfl
 |cons tc cs f=>
  intro cells x h n;obtain⟨t,o⟩:=tc;cases cells with
  |nil=>simp_all [jL]
  |cons v cells=>
   cases o with
   |false=>
    simp only[jL]at h;rw[cond_eq_ite]at h
    grind [je,oU]
   |true=>
    cases t with
    |list e=>
     cases v with
     |slc id ver d=>
      cases d with
      |none=>
       simp only[jL]at h;split at h
       .replace h:=dG h;grind [je,oU]
       .cases h
      |some p=>simp[jL]at h
     |_=>simp[jL]at h
    |_=>simp[jL]at h
theorem E5: ∀(cs:List (Ty×Bool)) (n:Nat),∀p∈je cs n,n<=p.1
 |[],n,p,h=>by simp[je]at h
 |(_,true)::cs,n,p,h=>by
  simp only[je,List.mem_cons]at h;rcases h with rfl|h
  .exact ae _
  .exact aB (Nat.le_succ n) (E5 cs (n+1) p h)
 |(_,false)::cs,n,p,h=>E5 cs n p h
theorem uY: ∀(cs:List (Ty×Bool)) (n:Nat),((je cs n).map (·.1)).Nodup
 |[],n=>List.nodup_nil
 |(_,true)::cs,n=>by
  simp only[je,ax];refine List.nodup_cons.2 ⟨fun h=> ?_,uY cs (n+1)⟩;obtain⟨p,d,e⟩:=List.mem_map.1 h;have:=E5 cs (n+1) p d;omega
 |(_,false)::cs,n=>uY cs n
theorem W9 {hp:gK} {b:Bool}: ∀(cs:List (Ty×Bool)) (cells:List bQ) (d:List (Nat×Nat)) {x},jL hp b cs cells=a6 x->d.length=(oU cs cells).length-> ∀g o,(g,o)∈uh cs d x->
  ∃(k i v j:Nat) (e:Ty) (xs:List e.den),(oU cs cells)[k]? =a6 (i,v)/\d[k]? =a6 (g,j)/\o=.arr e j xs/\dO hp i=a6 (.arr e v xs)/\(.list e,true)∈cs:=by
 intro cs
 induction cs with
 |nil=>simp_all [uh]
 |cons tc cs u=>
  intro cells d x h hl g o f;obtain⟨t,y⟩:=tc;cases cells with
  |nil=>simp_all [jL]
  |cons v cells=>
   cases y with
   |false=>
    simp only[jL]at h;rw[cond_eq_ite]at h
    grind [oU,uh]
   |true=>
    cases t with
    |list e=>
     cases v with
     |slc id ver z=>
      cases z with
      |none=>
       simp only[jL]at h;split at h
       .rename_i O s xs A
        replace h:=dG h;obtain⟨l,h⟩:=h;have l:s=ver:=by simpa using l
        subst l;split at h
        .rename_i B q
         split at h
         .rename_i S D
          cases h;have E:=iy q;cases E;rw[fV]at q;cases q;cases d with
          |nil=>simp[oU]at hl
          |cons p d=>
           obtain⟨U,G⟩:=p;simp only[uh,List.mem_cons]at f;rcases f with f|f
           .cases f;exact⟨0,id,s,G,_,B,by simp[oU],by simp,rfl,A,by simp⟩
           .obtain⟨k,i,v,j,e,xs,I,J,K,M,N⟩:=u cells d D (by simpa [oU] using hl) g o f;exact⟨k+1,i,v,j,e,xs,by simpa [oU] using I,by simpa using J,K,M,ak _ N⟩
         .cases h
        .cases h
       .cases h
      |some p=>simp[jL]at h
     |_=>simp[jL]at h
    |_=>simp[jL]at h
theorem Zl {hp:gK} {b:Bool}: ∀(cs:List (Ty×Bool)) (cells:List bQ) (d:List (Nat×Nat)) {x},jL hp b cs cells=a6 x-> ∀(k i v f g:Nat),(oU cs cells)[k]? =a6 (i,v)->d[k]? =a6 (f,g)->
  ∃e xs,dO hp i=a6 (.arr e v xs)/\(f,dL.arr e g xs)∈uh cs d x:=by
 intro cs
 induction cs with
 |nil=>simp_all [oU]
 |cons tc cs B=>
  intro cells d x h k i v f g q j;obtain⟨t,s⟩:=tc;cases cells with
  |nil=>simp_all [jL]
  |cons u cells=>
   cases s with
   |false=>
    simp only[jL]at h;rw[cond_eq_ite]at h
    grind [oU,uh]
   |true=>
    cases t with
    |list e=>
     cases u with
     |slc id ver y=>
      cases y with
      |none=>
       simp only[jL]at h;split at h
       .rename_i D z xs E
        replace h:=dG h;obtain⟨l,h⟩:=h;have l:z=ver:=by simpa using l
        subst l;split at h
        .rename_i G o
         split at h
         .rename_i I J
          cases h;have A:=iy o;cases A;rw[fV]at o;cases o;cases d with
          |nil=>simp at j
          |cons p d=>
           obtain⟨K,M⟩:=p;cases k with
           |zero=>
            simp only[oU,List.getElem?_cons_zero,Option.some.injEq,Prod.mk.injEq]at q j;obtain⟨rfl,rfl⟩:=q;obtain⟨rfl,rfl⟩:=j
            grind [uh]
           |succ k=>
            grind [oU,uh]
         .cases h
        .cases h
       .cases h
      |some p=>simp[jL]at h
     |_=>simp[jL]at h
    |_=>simp[jL]at h
theorem acS {c':Cx} {b:Bool}: ∀(cs:List (Ty×Bool)) (cells:List bQ) (f:List (Nat×Nat)) {x} (vs:List Value),jL c.hp b cs cells=a6 x->bJ c cells vs->f.length=(oU cs cells).length->
  (∀(k i v l o:Nat),(oU cs cells)[k]? =a6 (i,v)->f[k]? =a6 (l,o)-> ∀e xs,dO c.hp i=a6 (.arr e v xs)->dO c'.hp l=a6 (.arr e o xs)/\(c'.mu l).v=(c.mu i).v)->
  (∀t v x u,(t,false)∈cs->(b=true->mQ v=false\/t.rigid=true)->(∀i∈refs v,i∈um cs cells)->v.as c.hp t=a6 x->bU c v u->VD c' t x u)->bJ c' (Gx cs f x) vs:=by
 intro cs
 induction cs with
 |nil=>
  grind [Gx,bJ,jL]
 |cons tc cs A=>
  intro cells f x vs h q hl g hd;obtain⟨t,I⟩:=tc;cases cells with
  |nil=>simp_all [jL]
  |cons v cells=>
   cases vs with
   |nil=>simp[bJ]at q
   |cons u vs=>
    simp only[bJ]at q;cases I with
    |false=>
     simp only[jL]at h;rw[cond_eq_ite]at h;split at h
     .cases h
     .rename_i U
      split at h
      .rename_i B s
       split at h
       .rename_i J y
        cases h;simp only[Gx,bJ,bU];refine⟨hd t v B u (by simp) (fun V=> ?_) (fun i g=>by simp[um,g]) s q.1,A cells f vs y q.2 (by simpa [oU] using hl) (fun k i v l o d j=>g k i v l o (by simpa [oU] using d) j) fun t v x u d j D=>hd t v x u (ak _ d) j fun i g=>by simp[um,D i g]⟩
        grind
       .cases h
      .cases h
    |true=>
     cases t with
     |list e=>
      cases v with
      |slc id ver K=>
       cases K with
       |none=>
        simp only[jL]at h;split at h
        .rename_i W E xs M
         replace h:=dG h;obtain⟨z,h⟩:=h;have z:E=ver:=by simpa using z
         subst z;split at h
         .rename_i B s
          split at h
          .rename_i J y
           cases h;have N:=iy s;cases N;rw[fV]at s;cases s;cases f with
           |nil=>simp[oU]at hl
           |cons p f=>
            obtain⟨O,S⟩:=p;simp only[Gx,bJ];obtain⟨d,j⟩:=g 0 id E O S (by simp[oU]) (by simp) _ _ M;refine⟨?_,A cells f vs y q.2 (by simpa [oU] using hl) (fun k i v l o d j=>g (k+1) i v l o (by simpa [oU] using d) (by simpa using j)) fun t v x u d j D=>hd t v x u (ak _ d) j fun i g=>by simp_all [um]⟩;have G:=q.1;simp only[bU]at G ⊢;refine⟨G.1,.inl ⟨_,d⟩,fun t u X Y=> ?_⟩;simp_all
          .cases h
         .cases h
        .cases h
       |some p=>simp[jL]at h
      |_=>simp[jL]at h
     |_=>simp[jL]at h
theorem LH: ∀(cs:List (Ty×Bool)) (d:List (Nat×Nat)) (x),List.Sublist ((uh cs d x).map (·.1)) (d.map (·.1)):=by
 intro cs
 induction cs with
 |nil=>grind [uh]
 |cons tc cs f=>
  intro d x;obtain⟨t,o⟩:=tc;cases o with
  |false=>simp_all [uh]
  |true=>
   cases t with
   |list e=>
    cases d with
    |nil=>grind [uh]
    |cons p d=>
     simp_all [uh]
   |_=>simp_all [uh]
theorem Ov: ∀(h:gK) (i:Nat) (o:dL),(h.map (·.1)).Nodup->(i,o)∈h->dO h i=a6 o
 |(k,p)::h,i,o,f,d=>by
  simp only[ax,List.nodup_cons]at f;rw[ed];rcases List.mem_cons.1 d with e|d
  .cases e;simp
  .have:k≠i:=fun e=>f.1 (e▸List.mem_map.2 ⟨_,d,rfl⟩);rw[aq this];exact Ov h i o f.2 d
theorem oh: ∀(l h:gK) (i:Nat),i∉l.map (·.1)->dO (Ox l h) i=dO h i
 |[],h,i,_=>rfl
 |(k,o)::l,h,i,d=>by
  simp only[ax,List.mem_cons,not_or]at d;simp only[Ox];rw[oh l _ i d.2,jy,aq (Ne.symm d.1)]
theorem DN: ∀(l h:gK) (i:Nat) (o:dL),(l.map (·.1)).Nodup->(i,o)∈l->(dO h i).isSome=true->dO (Ox l h) i=a6 o
 |(k,p)::l,h,i,o,d,f,s=>by
  simp only[ax,List.nodup_cons]at d;simp only[Ox];rcases List.mem_cons.1 f with e|f
  .have g:=(Prod.mk.inj e).1;have j:=(Prod.mk.inj e).2;subst g j;rw[oh l _ i d.1,jy,am rfl];cases hg:dO h i with
   |none=>simp_all
   |some q=>rfl
  .refine DN l _ i o d.2 f ?_
   grind [jy]
def VL:List Nat->List Nat->(Nat->Loc)->(Nat->Loc)->Nat->Loc
 |a::e,j::f,d,m,i=>if a=i then d j else VL e f d m i
 |_,_,_,m,i=>m i
theorem Uz {o m:Nat->Loc}: ∀(d f:List Nat) (k a j:Nat),d.Nodup->d[k]? =a6 a->f[k]? =a6 j->VL d f o m a=o j
 |[],_,k,a,j,_,h,_=>by simp at h
 |_::_,[],k,a,j,_,_,h=>by simp at h
 |p::d,q::f,0,a,j,_,g,i=>by
  simp_all [VL]
 |p::d,q::f,k+1,a,j,l,g,i=>by
  simp only[List.getElem?_cons_succ]at g i;simp only[List.nodup_cons]at l;have:p≠a:=fun e=>l.1 (e▸List.mem_of_getElem? g);simp only[VL,aq this];exact Uz d f k a j l.2 g i
theorem UA {f m:Nat->Loc}: ∀(d e:List Nat) (i:Nat),i∉d->VL d e f m i=m i
 |[],_,i,_=>by simp[VL]
 |_::_,[],i,_=>by simp[VL]
 |a::d,j::e,i,h=>by
  simp only[List.mem_cons,not_or]at h;simp only[VL,aq (Ne.symm h.1)];exact UA d e i h.2
def aA6 (W0:World) (c:Cx) (s:fZ) (z:((s.cs.map (·.1)).foldr Ty.pair Ty.unit).den×(s.rs.foldr Ty.pair Ty.unit).den):Ending->World->Prop:=fun e f=>
 ∃(d:Cx) (us:List Value) (cells:List bQ),e=.returned (IU us)/\d.w=f/\d.Ok W0/\c.Mono d/\dO d.hp 0=a6 (.box s.bt cells)/\(d.mu 0).blk=(c.mu 0).blk/\
  ((oU s.cs cells).map (·.1)).Nodup/\jL d.hp true s.cs cells=a6 z.1/\pz d s.rs z.2 us
def dW (P:Program) (g:FuncId) (s:fZ):Prop:=
 ∀(W0:World) (c:Cx) x y z,c.Ok W0->c.mks=[]->c.nxt=0->c.hp=(0,.box s.bt (Gx s.cs (je s.cs 1) x))::uh s.cs (je s.cs 1) x-> ∀d:Array Value,bJ c (.ptr 0 0::Ju s.ps y) d.toList->s.f x y=a6 z->
  (callFunc g d).run P c.w=.ok (.enter g d) c.w/\Calls P g d c.w (aA6 W0 c s z)
theorem xP: ∀(cs:List (Ty×Bool)) (n:Nat),∀p∈je cs n,p.2=0
 |[],n,p,h=>by simp[je]at h
 |(_,true)::cs,n,p,h=>by
  simp only[je,List.mem_cons]at h;rcases h with rfl|h
  .rfl
  .exact xP cs (n+1) p h
 |(_,false)::cs,n,p,h=>xP cs n p h
theorem LU: ∀(d:List Ty) x (us:List Value),pz c d x us->bJ c (Ju d x) us
 |[],x,us,h=>by
  simp_all [pz,Ju,bJ]
 |t::d,x,us,h=>by
  obtain⟨u,e,rfl,f,g⟩:=h;simp only[Ju,bJ,bU];exact⟨f,LU d x.2 e g⟩
theorem pz.move {c' c2:Cx} (e:c2.w=c'.w): ∀(d:List Ty) x (us:List Value),((∀b,c'.free b->c2.free b)\/d.all Ty.rigid=true)->pz c' d x us->pz c2 d x us
 |[],x,us,_,h=>h
 |t::d,x,us,hr,h=>by
  obtain⟨u,f,rfl,g,i⟩:=h;refine⟨u,f,rfl,VD.move e (hr.imp (fun h=>h) fun h=> ?_) g,pz.move e d x.2 f (hr.imp (fun h=>h) fun h=> ?_) i⟩
  all_goals simp_all
theorem Xi: ∀(l:List bQ) (v:bQ),v∈l-> ∀i∈refs v,i∈lD l
 |u::l,v,d,i,f=>by
  simp only[lD,List.mem_append];rcases List.mem_cons.1 d with e|d
  .simp_all
  .exact .inr (Xi l v d i f)
theorem aHK {g:FuncId} {s:fZ} (hs:dW P g s) {id:Nat} {qs:List bQ} {st:St} {K:bQ->St->Option R} (h:s.go id qs st K=a6 r) {a:Act} (hr:iM W0 b0 rd c st a ats) {us:Array Value} (hv:bJ c (.ptr id 0::qs) us.toList)
  (Rr:Ending->World->Prop) (hR: ∀c' z u cd,K z cd=a6 r->iM W0 b0 rd c' cd a ats->bU c' z u->c.Mono c'->Rr (.returned u) c'.w):
  (callFunc g us).run P c.w=.ok (.enter g us) c.w/\Calls P g us c.w Rr:=by
 unfold fZ.go at h;split at h<;>try (cases h;done)
 rename_i t cells ab
 replace h:=dG h;obtain⟨hc,h⟩:=h;simp only[af,Bool.or_eq_true,Bool.not_eq_true']at hc;obtain⟨ht,⟨aw,aV⟩,ay⟩:=hc;have ht:t=s.bt:=aj ht;subst ht;split at h<;>try (cases h;done)
 rename_i x hx
 split at h<;>try (cases h;done)
 rename_i y hy
 cases hz:s.f x y with
 |none=>rw[hz]at h;cases h
 |some z=>
 rw[hz]at h;simp only[bH]at h;rw[<-hr.hp]at ab hx hy;have aw:=Ea aw;have aV:=uC aV;generalize ag:oU s.cs cells=own at*;have V:=hr.ok;obtain⟨hB,vs,hw,es,et⟩:=V.obj id _ ab;have aF: ∀(k i v:Nat),own[k]? =a6 (i,v)-> ∃(e:Ty) (xs:List e.den),dO c.hp i=a6 (.arr e v xs):=fun k i v hk=>by
  obtain⟨e,xs,d,_⟩:=Zl s.cs cells own hx k i v i v (by rw[ag];exact hk) hk;exact⟨e,xs,d⟩
 have az: ∀p∈own,∃k:Nat,own[k]? =a6 p:=fun p W=>List.getElem?_of_mem W;have ch:id∉own.map (·.1):=fun hm=>by
  obtain⟨p,W,rfl⟩:=List.mem_map.1 hm;obtain⟨k,hk⟩:=az p W;obtain⟨e,xs,d⟩:=aF k p.1 p.2 hk;rw[ab]at d;cases d
 let S:Nat->Prop:=fun i=>i=id\/i∈own.map (·.1)
 have ew: ∀i,S i-> ∃o,dO c.hp i=a6 o/\ ∀f fr ps jo bd ky n p,o≠ .lp f fr ps jo bd ky n p:=fun i A=>by
  rcases A with rfl|A
  .exact⟨_,ab,by simp⟩
  .obtain⟨p,W,rfl⟩:=List.mem_map.1 A;obtain⟨k,hk⟩:=az p W;obtain⟨e,xs,d⟩:=aF k p.1 p.2 hk;exact⟨_,d,by simp⟩
 let aA:Nat->Prop:=fun b=> ∃i o,S i/\dO c.hp i=a6 o/\o.blk (c.mu i)=a6 b
 have aW: ∀b,aA b->c.own b:=fun b ⟨i,o,_,d,l⟩=>⟨i,o,d,l⟩
 let I:Cx:=⟨fun k=>if k=0 then c.mu id else VL ((je s.cs 1).map (·.1)) (own.map (·.1)) c.mu c.mu k,(0,.box s.bt (Gx s.cs (je s.cs 1) x))::uh s.cs (je s.cs 1) x,0,c.w,[],fun b=>s.rigid=false/\b<c.w.heap.size/\ ¬c.free b/\ ¬aA b⟩
 have aX:(je s.cs 1).length=own.length:=by rw[<-ag];exact Xg s.cs cells hx 1
 have ah: ∀(k i v M:Nat),own[k]? =a6 (i,v)->(je s.cs 1)[k]? =a6 (M,0)->M≠0/\I.mu M=c.mu i:=fun k i v M d l=>by
  have N:=E5 s.cs 1 _ (List.mem_of_getElem? l);refine⟨by simp at N;omega, ?_⟩;have X:M≠0:=by simp at N;omega
  simp only[I,aq X];exact Uz _ _ k M i (uY s.cs 1) (by rw[List.getElem?_map,l];rfl) (by rw[List.getElem?_map,d];rfl)
 have aG: ∀(M:Nat) (o:dL),dO I.hp M=a6 o->(M=0/\o=.box s.bt (Gx s.cs (je s.cs 1) x))\/
   ∃(k i v:Nat) (e:Ty) (xs:List e.den),own[k]? =a6 (i,v)/\(je s.cs 1)[k]? =a6 (M,0)/\o=.arr e 0 xs/\dO c.hp i=a6 (.arr e v xs):=fun M o q=>by
  simp only[I,ed]at q;split at q
  .rename_i e
   cases q;exact .inl ⟨e.symm,rfl⟩
  .right;obtain⟨k,i,v,v',e,xs,E,D,Y,J,_⟩:=W9 s.cs cells (je s.cs 1) hx (by rw[ag];exact aX) M o (wZ _ _ _ q);rw[ag]at E;have:=xP s.cs 1 _ (List.mem_of_getElem? D);simp only at this;subst this;exact⟨k,i,v,e,xs,E,D,Y,J⟩
 have aH: ∀b,I.own b->aA b:=fun b ⟨M,o,d,l⟩=>by
  rcases aG M o d with ⟨rfl,rfl⟩|⟨k,i,v,e,xs,E,D,rfl,J⟩
  .exact⟨id,_,.inl rfl,ab,by simpa [I,dL.blk] using l⟩
  .rw[(ah k i v M E D).2]at l;exact⟨i,_,.inr (List.mem_map.2 ⟨_,List.mem_of_getElem? E,rfl⟩),J,l⟩
 have cn: ∀b,c.free b->I.free b/\I.w.heap[b]? =c.w.heap[b]? :=fun b G=>⟨⟨G.1,fun q=>G.2.1 (aW b (aH b q)),by simp[I],fun aY=>aY.2.2.1 G⟩,rfl⟩;have conv: ∀(t:Ty) (v:bQ) (x:t.den) (u:Value),(∀i ai vw,v=.slc i ai vw->s.rigid=true/\i≠id/\i∉own.map (·.1))->v.as c.hp t=a6 x->bU c v u->VD I t x u:=fun t v x u ex d l=>by
  refine afN V cn (fun i ai vw ad o b N X=> ?_) d l;obtain⟨h5,h6,h7⟩:=ex i ai vw ad;refine⟨⟨((V.obj i o N).lt X).2,fun q=> ?_,by simp[I],fun aY=>by have:=aY.1;rw[h5]at this;cases this⟩,rfl⟩;obtain⟨j,Z,hj,h8,h9⟩:=aH b q;have:=V.inj i j o Z b N h8 X h9;subst this;rcases hj with hj|hj
  .exact h6 hj
  .exact h7 hj
 have cu: ∀i,i∈lD qs++um s.cs cells->i≠id/\i∉own.map (·.1):=fun i A=>by
  have:=aV i A;simp only[List.mem_cons,not_or]at this;exact this
 have eL:I.Ok W0:=by
  refine⟨V.bel,fun M o q=> ?_,fun i j o p b d l N X=> ?_,fun r hr=>by simp[I]at hr,fun b G=>⟨G.2.1,fun q=>G.2.2.2 (aH b q),by simp[I]⟩,V.phi⟩
  .rcases aG M o q with ⟨rfl,rfl⟩|⟨k,i,v,e,xs,E,D,rfl,J⟩
   .refine⟨by simpa [I] using hB,vs,by simpa [I] using hw, ?_,et⟩;refine acS s.cs cells (je s.cs 1) vs.toList hx es (by rw[ag];exact aX) (fun k i v M v' E D e xs Y=> ?_) fun t v x u E D Y J q5=>conv t v x u (fun i ai vw ad=> ?_) J q5
    .rw[ag]at E;have cv:=xP s.cs 1 _ (List.mem_of_getElem? D);simp only at cv;subst cv;obtain⟨h6,h7⟩:=ah k i v M E D;refine⟨?_,by rw[h7]⟩;obtain⟨e2,fy,h8,h9⟩:=Zl s.cs cells (je s.cs 1) hx k i v M 0 (by rw[ag];exact E) D;rw[Y]at h8;cases h8;have dO:=Ov _ _ _ (List.Sublist.nodup (LH s.cs (je s.cs 1) x) (uY s.cs 1)) h9;simp only[I,ed,aq (Ne.symm h6)];exact dO
    .subst ad;obtain⟨h6,h7⟩:=cu i (bz _ (Y i (by simp[refs])));refine⟨?_,h6,h7⟩;cases hrg2:s.rigid with
     |true=>rfl
     |false=>
      rcases D (by rw[hrg2];rfl)with h8|h8
      .simp[mQ]at h8
      .cases t<;>simp[Ty.rigid]at h8<;>simp[bQ.as]at J
   .obtain⟨aZ,el,zs,w1,w2,w3⟩:=V.obj i _ J;refine⟨aZ,el,zs,by rw[(ah k i v M E D).2];exact w1,fP.mono (eY.mono cn e) _ _ w2,w3⟩
  .rcases aG i o d with ⟨rfl,rfl⟩|⟨k,i1,v,e,xs,E,D,rfl,J⟩<;>rcases aG j p l with ⟨rfl,rfl⟩|⟨k',i2,v',e',aI,al,an,rfl,aJ⟩
   .rfl
   .rw[(ah k' i2 v' j al an).2]at X;have:=V.inj id i2 _ _ b ab aJ (by simpa [I,dL.blk] using N) X;subst this;rw[ab]at aJ;cases aJ
   .rw[(ah k i1 v i E D).2]at N;have:=V.inj id i1 _ _ b ab J (by simpa [I,dL.blk] using X) N;subst this;rw[ab]at J;cases J
   .rw[(ah k i1 v i E D).2]at N;rw[(ah k' i2 v' j al an).2]at X;have:=V.inj i1 i2 _ _ b J aJ N X;subst this;have bf:k=k':=by
     have e1:(own.map (·.1))[k]? =a6 i1:=by rw[List.getElem?_map,E];rfl
     have e2:(own.map (·.1))[k']? =a6 i1:=by rw[List.getElem?_map,al];rfl
     exact(List.getElem?_inj (List.getElem?_eq_some_iff.1 e1).1 aw).1 (e1.trans e2.symm)
    subst bf;rw[D]at an;cases an;rfl
 obtain⟨us⟩:=us;cases us with
 |nil=>simp[bJ]at hv
 |cons u0 us=>
 simp only[bJ]at hv;obtain⟨bg,eZ⟩:=hv;have fa:bJ I (.ptr 0 0::Ju s.ps y) (u0::us):=by
  simp only[bJ];refine⟨?_,LU s.ps y us (zH s.ps qs y us hy eZ fun t v x u hm d l=>conv t v x u (fun i ai vw ad=> ?_) d l)⟩
  .simp only[bU]at bg ⊢;exact⟨bg.1,.inl ⟨_,by simp[I,ed];rfl⟩,fun t' fz _=>by simpa [I] using bg.2.2 _ _ ab⟩
  .subst ad;have fb:i∈lD qs:=Xi _ _ hm i (by simp[refs]);obtain⟨h6,h7⟩:=cu i (List.mem_append_left _ fb);refine⟨?_,h6,h7⟩;rcases ay with ay|ay
   .exact ay
   .have:=List.any_eq_false.1 ay _ hm;simp[mQ]at this
 obtain⟨fc,fd⟩:=hs W0 I x y z eL rfl rfl rfl ⟨u0::us⟩ fa hz;refine⟨fc,fd.mono ?_⟩;rintro e w' ⟨O,dc,ao,rfl,rfl,au,bn,dd,fe,ff,aK,fg⟩
 let U:List (Nat×Nat):=own.map fun p=>(p.1,p.2+1)
 generalize aO:oU s.cs ao=own1 at*
 let B:Cx:=⟨fun i=>if i=id then c.mu id else VL (own.map (·.1)) (own1.map (·.1)) O.mu c.mu i,iV (Ox (uh s.cs U z.1) c.hp) id (.box s.bt (Gx s.cs U z.1)),c.nxt,O.w,c.mks,c.bar⟩
 have df:own1.length=own.length:=by rw[<-aO,<-Xg s.cs ao aK 1,aX]
 have dl:U.length=(oU s.cs ao).length:=by rw[aO];simp[U,df]
 have dp:(U.map (·.1))=own.map (·.1):=by simp[U,List.map_map,Function.comp_def]
 have fh:((uh s.cs U z.1).map (·.1)).Nodup:=List.Sublist.nodup (LH s.cs U z.1) (by rw[dp];exact aw);have bu: ∀i,i∈(uh s.cs U z.1).map (·.1)->i∈own.map (·.1):=fun i A=>by
  have:=(LH s.cs U z.1).subset A;rwa [dp]at this
 have aP: ∀(k i v:Nat),own[k]? =a6 (i,v)-> ∃(j w:Nat) (e:Ty) (xs:List e.den),own1[k]? =a6 (j,w)/\dO O.hp j=a6 (.arr e w xs)/\dO B.hp i=a6 (.arr e (v+1) xs)/\B.mu i=O.mu j/\(.list e,true)∈s.cs:=fun k i v hk=>by
  have fi:k<own1.length:=by rw[df];exact(List.getElem?_eq_some_iff.1 hk).1
  obtain⟨⟨j,w⟩,hj⟩: ∃p,own1[k]? =a6 p:=⟨_,List.getElem?_eq_getElem fi⟩;have fj:U[k]? =a6 (i,v+1):=by simp[U,List.getElem?_map,hk]
  obtain⟨e,xs,d,l⟩:=Zl s.cs ao U aK k j w i (v+1) (by rw[aO];exact hj) fj;obtain⟨k',i1,v1,v2,e',aI,E,D,Y,J,q5⟩:=W9 s.cs ao U aK dl i _ l;have fk:i∈own.map (·.1):=List.mem_map.2 ⟨_,List.mem_of_getElem? hk,rfl⟩;have ds:id≠i:=fun e=>ch (e▸fk);obtain⟨e0,fl,h0⟩:=aF k i v hk;refine⟨j,w,e,xs,hj,d, ?_, ?_, ?_⟩
  .simp only[B];rw[jy,aq ds];exact DN _ _ _ _ fh l (by rw[h0];rfl)
  .simp only[B,aq (Ne.symm ds)];exact Uz _ _ k i j aw (by rw[List.getElem?_map,hk];rfl) (by rw[List.getElem?_map,hj];rfl)
  .cases Y;exact q5
 have bC:dO B.hp id=a6 (.box s.bt (Gx s.cs U z.1)):=by
  simp only[B];rw[jy,am rfl,oh _ _ _ fun h=>ch (bu id h),ab];rfl
 have aQ:B.mu id=c.mu id:=by simp[B]
 have dT:(O.mu 0).blk=(c.mu id).blk:=by rw[fe];simp[I]
 have aS: ∀(i:Nat) (Z:dL),S i->dO B.hp i=a6 Z-> ∃j o1,dO O.hp j=a6 o1/\o1.blk (O.mu j)=Z.blk (B.mu i)/\((i=id/\j=0/\o1=.box s.bt ao)\/ ∃(k v w:Nat),own[k]? =a6 (i,v)/\own1[k]? =a6 (j,w)/\ ∃(e:Ty) (xs:List e.den),o1=.arr e w xs):=fun i Z A q=>by
  rcases A with rfl|A
  .rw[bC]at q;cases q;exact⟨0,_,dd,by simp[dL.blk,aQ,dT],.inl ⟨rfl,rfl,rfl⟩⟩
  .obtain⟨p,W,rfl⟩:=List.mem_map.1 A;obtain⟨k,hk⟩:=az p W;obtain⟨j,w,e,xs,E,D,Y,J,_⟩:=aP k p.1 p.2 hk;rw[Y]at q;cases q;exact⟨j,_,D,by simp only[dL.blk];rw[J],.inr ⟨k,p.2,w,hk,E,e,xs,rfl⟩⟩
 have ea: ∀b,b<c.w.heap.size-> ¬aA b->O.out b/\O.w.heap[b]? =c.w.heap[b]? :=fun b G hn=>bn.out b ⟨G,fun q=>hn (aH b q),by simp[I]⟩;obtain⟨ee,fm⟩:=Cx.many (c2:=B) V S rfl rfl rfl (fun i A=>by
   have d:i≠id:=fun e=>A (.inl e);have l:i∉own.map (·.1):=fun e=>A (.inr e);refine⟨?_,by simp only[B,aq d];exact UA _ _ _ l⟩;simp only[B];rw[jy,aq (Ne.symm d),oh _ _ _ fun h=>l (bu i h)])
  (fun i A=>by
   rcases A with rfl|A
   .exact⟨_,_,ab,bC,by simp[dL.like,aQ],by simp⟩
   .obtain⟨p,W,rfl⟩:=List.mem_map.1 A;obtain⟨k,hk⟩:=az p W;obtain⟨j,w,e,xs,E,D,Y,J,_⟩:=aP k p.1 p.2 hk;obtain⟨e0,fl,h0⟩:=aF k p.1 p.2 hk;exact⟨_,_,h0,Y,⟨by omega,fun e=>by omega⟩,by simp⟩)
  au.bel bn.size (fun b G hn=>(ea b G fun⟨i,o,d,l,N⟩=>hn i o d l N).2)
  (fun i Z b A q G=>by
   by_cases hlt:b<c.w.heap.size
   .right;refine Classical.byContradiction fun hn=> ?_;obtain⟨j,o1,d,l,_⟩:=aS i Z A q;exact(ea b hlt fun⟨j,o,N,X,h5⟩=>hn ⟨j,o,N,X,h5⟩).1.2.1 ⟨j,o1,d,l.trans G⟩
   .left;omega)
  (fun i M Z p' b A fo q W G fp=>by
   obtain⟨j,o1,d,l,N⟩:=aS i Z A q;obtain⟨j',fq,av,aU,em⟩:=aS M p' fo W;have hj:=au.inj j j' o1 fq b d av (l.trans G) (aU.trans fp);subst hj;rw[d]at av;cases av;rcases N with ⟨rfl,rfl,rfl⟩|⟨k,v,w,E,D,e,xs,rfl⟩
   .rcases em with ⟨rfl,_⟩|⟨k',v',w',al,an,e',aI,he⟩
    .rfl
    .cases he
   .rcases em with ⟨_,_,he⟩|⟨k',v',w',al,an,e',aI,he⟩
    .cases he
    .have bf:k=k':=by
      have e1:(own1.map (·.1))[k]? =a6 j:=by rw[List.getElem?_map,D];rfl
      have e2:(own1.map (·.1))[k']? =a6 j:=by rw[List.getElem?_map,an];rfl
      exact(List.getElem?_inj (List.getElem?_eq_some_iff.1 e1).1 ff).1 (e1.trans e2.symm)
     subst bf;rw[E]at al;cases al;rfl)
  (fun b L i o A q G=>by
   obtain⟨o2,d,l⟩:=ew i A;rw[q]at d;cases d;exact(V.obj i o q).no_loop l G)
 have bD:s.rigid=true\/ ∀b,O.free b->B.free b:=by
  cases hrg2:s.rigid with
  |true=>exact .inl rfl
  |false=>
   right;intro b G;have bF: ∀b,b<c.w.heap.size-> ¬c.free b-> ¬aA b-> ¬O.free b:=fun b d l N hf=>hf.2.2.2 (by rw[bn.bar];exact⟨hrg2,d,l,N⟩);refine⟨G.1, ?_,fun hm=> ?_,fun hm=> ?_⟩
   .rintro ⟨i,Z,d,l⟩;by_cases A:S i
    .obtain⟨j,o1,N,X,_⟩:=aS i Z A d;exact G.2.1 ⟨j,o1,N,X.trans l⟩
    .have av:i≠id:=fun e=>A (.inl e);have aU:i∉own.map (·.1):=fun e=>A (.inr e);simp only[B]at d l;rw[jy,aq (Ne.symm av),oh _ _ _ fun h=>aU (bu i h)]at d;rw[aq av,UA _ _ _ aU]at l;refine bF b ((V.obj i Z d).lt l).2 (fun hf=>hf.2.1 ⟨i,Z,d,l⟩) ?_ G;rintro ⟨j,o,hj,N,X⟩;have:=V.inj i j Z o b d N l X;subst this;exact A hj
   .exact bF b (V.mark_lt hm) (fun hf=>hf.2.2.1 hm) (fun q=>V.mark_own hm (aW b q)) G
   .exact bF b (V.bar b hm).1 (fun hf=>hf.2.2.2 hm) (fun q=>(V.bar b hm).2.1 (aW b q)) G
 have cc:s.rigid=true->(∀p∈s.cs,p.1.rigid=true\/p.2=true/\p.1.elem.rigid=true)/\s.rs.all Ty.rigid=true:=fun h=>by
  simp only[fZ.rigid,af]at h;exact⟨fun p W=>by have:=List.all_eq_true.1 h.1 p W;simpa using this,h.2⟩
 have fs:B.Ok W0:=fm fun i Z A q=>by
  rcases A with rfl|A
  .rw[bC]at q;cases q;obtain⟨fA,eq,ft,fu,fv⟩:=au.obj 0 _ dd;refine⟨by rw[aQ];exact hB,eq,by rw[aQ,<-dT];exact ft, ?_,fv⟩;refine acS s.cs ao U eq.toList aK fu dl (fun k j w i v E D e xs Y=> ?_) fun t v x u E D Y J q5=> ?_
   .rw[aO]at E;have hk: ∃v0,own[k]? =a6 (i,v0)/\v=v0+1:=by
     simp only[U,List.getElem?_map,Option.map_eq_some_iff]at D;obtain⟨p,fw,fx⟩:=D;cases fx;exact⟨p.2,fw,rfl⟩
    obtain⟨v0,hk,rfl⟩:=hk;obtain⟨j',w',e',aI,p1,p2,p3,p4,_⟩:=aP k i v0 hk;rw[E]at p1;cases p1;rw[Y]at p2;cases p2;exact⟨p3,by rw[p4]⟩
   .rcases bD with hf|hf
    .have ht:t.rigid=true:=by
      rcases(cc hf).1 (t,false) E with h|h
      .exact h
      .cases h.1
     cases q:mQ v with
     |false=>exact VD.move (c':=O) (c2:=B) rfl (.inr ht) (Jj (cb:=O) (fun b G=>⟨G,rfl⟩) q J q5)
     |true=>
      refine VD.move (c':=O) (c2:=B) rfl (.inr ht) (afN (cb:=O) au (fun b G=>⟨G,rfl⟩) (fun i ai vw ad=> ?_) J q5);subst ad;cases t<;>simp[Ty.rigid]at ht<;>simp[bQ.as]at J
    .refine VD.move (c':=O) (c2:=B) rfl (.inl hf) (afN (cb:=O) au (fun b G=>⟨G,rfl⟩) (fun i ai vw ad=> ?_) J q5);subst ad;rcases D rfl with h8|h8
     .simp[mQ]at h8
     .cases t<;>simp[Ty.rigid]at h8<;>simp[bQ.as]at J
  .obtain⟨p,W,rfl⟩:=List.mem_map.1 A;obtain⟨k,hk⟩:=az p W;obtain⟨j,w,e,xs,E,D,Y,J,q5⟩:=aP k p.1 p.2 hk;rw[Y]at q;cases q;obtain⟨aZ,el,zs,w1,w2,w3⟩:=au.obj j _ D;refine⟨aZ,el,zs,by rw[J];exact w1,fP.move (c':=O) (c2:=B) rfl ?_ w2,w3⟩;rcases bD with hf|hf
   .right;rcases(cc hf).1 _ q5 with h|h
    .simp[Ty.rigid]at h
    .exact h.2
   .exact .inl hf
 have hd:AQ W0 c st B {st with hp:=iV (Ox (uh s.cs U z.1) st.hp) id (.box s.bt (Gx s.cs U z.1))}:=⟨by simp[B,hr.hp],hr.nxt,rfl,rfl,fs,ee⟩;exact hR B _ _ _ h (hr.did hd) (Ak (LU s.rs z.2 dc (pz.move (c':=O) (c2:=B) rfl s.rs z.2 dc (bD.symm.imp (fun h=>h) fun h=>(cc h).2) fg))) ee.mono
theorem ac9 {cl:Bool}: ∀(cs:List (Ty×Bool)) (n:Nat) (cells:List bQ) (st:St) (K:List bQ->St->Option R),sS cl n cs cells st K=a6 r-> ∀(c:Cx) (vs:List Value),c.Ok W0->c.hp=st.hp->c.nxt=st.nxt->bJ c cells vs->
  ∃c' d f,AQ W0 c st c' d/\c'.w=c.w/\bJ c' f vs/\K f d=a6 r/\ ∀i o,dO st.hp i=a6 o->dO d.hp i=a6 o:=by
 have G: ∀(cells:List bQ) (st:St) (K:List bQ->St->Option R),K cells st=a6 r-> ∀(c:Cx) (vs:List Value),c.Ok W0->c.hp=st.hp->c.nxt=st.nxt->bJ c cells vs->
   ∃c' d f,AQ W0 c st c' d/\c'.w=c.w/\bJ c' f vs/\K f d=a6 r/\ ∀i o,dO st.hp i=a6 o->dO d.hp i=a6 o:=
  fun cells st K h c vs j p q g=>⟨c,st,cells,AQ.refl j p q,rfl,g,h,fun i o h=>h⟩
 intro cs
 induction cs with
 |nil=>intro n cells st K h;cases cells<;>exact G _ st K h
 |cons tc cs I=>
  intro n cells st K h c vs j p q g;cases cells with
  |nil=>exact G _ st K (by obtain⟨t,o⟩:=tc;cases o<;>cases t<;>simpa only[sS] using h) c vs j p q g
  |cons v cells=>
   cases vs with
   |nil=>simp[bJ]at g
   |cons u vs=>
    have x:sS cl (n+1) cs cells st (fun l st=>K (v::l) st)=a6 r-> ∃c' d f,AQ W0 c st c' d/\c'.w=c.w/\bJ c' f (u::vs)/\K f d=a6 r/\ ∀i o,dO st.hp i=a6 o->dO d.hp i=a6 o:=fun h=>by
     simp only[bJ]at g;obtain⟨c',d,f,hd,z,A,B,hp⟩:=I (n+1) cells st _ h c vs j p q g.2;exact⟨c',d,v::f,hd,z,by simp only[bJ];exact⟨bU.le hd.le _ _ g.1,A⟩,B,hp⟩
    obtain⟨t,o⟩:=tc;cases o with
    |false=>exact x (by simpa only[sS] using h)
    |true=>
     cases t with
     |list e=>
      cases v with
      |nils=>
       simp only[sS]at h;replace h:=dG h;obtain⟨D,h⟩:=h;have D:0<e.size:=by simpa [PG] using D
       obtain⟨id,W,J,N,O,h⟩:=jf h;simp only[bJ]at g;have M:=g.1;simp only[bU]at M;subst M;obtain⟨S,s,U,V⟩:=qZ j p q J N O (y:=e) D (xs:=[]) (v:=.slice a7 0 0) (w:=c.w) (Below.refl _ _) nH [] ⟨by simp,.inl ⟨rfl,rfl⟩⟩ (by simp[fP]) rfl (fun _=>rfl);obtain⟨c',d,f,hd,z,A,B,hp⟩:=I (n+1) cells _ _ h S vs s.ok s.hp s.nxt (bJ.le s.le _ _ g.2);refine⟨c',d,.slc id 0 a7::f,s.trans hd,z.trans U,by simp only[bJ];exact⟨bU.le hd.le _ _ V,A⟩,B,fun i o E=>hp i o ?_⟩;have:id≠i:=fun e=>by subst e;rw[J]at E;cases E
       simp only[ed,aq this];exact E
      |_=>exact x (by simpa only[sS] using h)
     |_=>exact x (by simpa only[sS] using h)
theorem aGE {g:FuncId} {s:fZ} (V:dW P g s) (cl:Bool) (n:Nat):mg (R:=R) P W0 n (NV g s cl):=by
 intro b0 rd W X ay st K r h c a ats az i hr G Y o next Q Z
 cases W with
 |fn g' ab=>
  simp only[NV]at h;split at h
  .rename_i hg
   subst hg;simp only[bU]at G;obtain⟨j,rfl,ad⟩:=G;have I:=bJ.append_arr Y ad;have ag: ∀p:Ending->World->Prop,(∀d z u f,K z f=a6 r->iM W0 b0 rd d f a ats->bU d z u->c.Mono d->p (.returned u) d.w)->
     (callFunc g' (i++j)).run P c.w=.ok (.enter g' (i++j)) c.w/\Calls P g' (i++j) c.w p:=by
    intro p ah;generalize X++ab=al at h I;unfold fZ.call at h;split at h<;>try (cases h;done)
    rename_i id qs
    split at h<;>try (cases h;done)
    rename_i t cells q
    rw[cond_eq_ite]at h;split at h
    .rw[<-hr.hp]at q;obtain⟨hB,J,hw,ai,an⟩:=hr.ok.obj id _ q;obtain⟨d,f,x,hd,aA,ao,hK,M⟩:=ac9 s.cs _ cells st _ h c J.toList hr.ok hr.hp hr.nxt ai;have l:=hr.did hd;have A:dO d.hp id=a6 (.box t cells):=by rw[l.hp];exact M id _ (by rw[<-hr.hp];exact q)
     obtain⟨o1,y,B⟩:=hd.le.obj id _ (.inl ⟨_,q⟩) A;rw[q]at y;cases y;simp only[dL.like]at B;have N:dL.like (.box t cells) (d.mu id) (.box t x) (d.mu id):=rfl;have O: ∀b,(dL.box t x).blk (d.mu id)=a6 b->(dL.box t cells).blk (d.mu id)=a6 b\/d.w.heap.size<=b:=fun b hb=>.inl hb;have S: ∀(b:Nat) (L:Loop),(dL.box t cells).blk (d.mu id)=a6 b->d.w.heap[b]? =a6 (Obj.loop L)-> ∃L':Loop,d.w.heap[b]? =a6 (Obj.loop L'):=fun b L _ hL=>⟨L,hL⟩;have U:=Cx.Le.put (w:=d.w) l.ok A N (ae _) (fun b _ _=>rfl) O S;have au:AQ W0 d f (d.put id (.box t x) (d.mu id) d.w) {f with hp:=iV f.hp id (.box t x)}:=by
      refine⟨by simp only[Cx.put];rw[l.hp],l.nxt,rfl,rfl,Cx.Ok.put l.ok A N l.ok.bel (ae _) (fun b _ _=>rfl) O S ?_,U⟩;refine⟨by simp_all [Cx.put,upd_same],J,by simp_all [Cx.put,upd_same],bJ.le U _ _ ao,an⟩
     have D:=hd.trans au;have hG:=aHK V hK (hr.did D) (bJ.le D.le _ _ I) p fun c3 z u av k1 k2 k3 k4=>ah c3 z u av k1 k2 k3 (D.le.mono.trans k4);change (callFunc g' (i++j)).run P d.w=.ok (.enter g' (i++j)) d.w/\Calls P g' (i++j) d.w p at hG;simp_all
    grind [aHK]
   obtain⟨y,B⟩:=ag (fun e E=>match e with
     |.returned v=>next (a.put o.dst v) E
     |.panicked aw=>Q (.panic aw) a E
     |.outgrown=>LetsOut Q) (fun d z u f k1 k2 k3 k4=>Z d z u f k1 k2 k3 k4)
   rw[oL,y];exact⟨pG rd,(uj B).mono fun e E he=>by cases e<;>exact he⟩
  .cases h
 |_=>simp[NV]at h
end
end
section
open Option renaming some → a6, none → a7
open Bool renaming and_eq_true → af
open List renaming length_cons → aH, all_cons → aW
open Nat renaming le_trans → aB, lt_of_lt_of_le → bi
open Go.RowKit
section
variable {P:Program} {T:TT} {W0:World} {b0:Nat} {rd:Option Nat} {R:Type} {r:R} {c:Cx} {ats:List (Array Value)}
theorem aIW {g:FuncId} {s:Sum} (hs:dU P g s) (cl:Bool) (n:Nat):mg (R:=R) P W0 n (EM g s cl):=by
 intro b0 rd fv aQ aS st K r h c a ats aU ab hr ad al o next Q hn
 cases fv with
 |fn g' aV=>
  simp only[EM]at h;split at h
  .rename_i hg
   subst hg;simp only[bU]at ad;obtain⟨vs,rfl,an⟩:=ad;have ae:=bJ.append_arr al an;obtain⟨G,x,y,J,hy,z⟩:=afw h;rw[<-hr.hp]at J;obtain⟨q,ao,au,av⟩: ∃q:Nat->Prop,(∀b,q b->b<c.w.heap.size)/\pz (kQ c.w q) s.ps x (ab++vs).toList/\
     ((s.rs.all fun r=>r.1.rigid||(r.2&&r.1.elem.rigid))=true\/q=fun b=>b<c.w.heap.size/\ ¬c.free b):=by
    rcases G with G|G
    .refine⟨fun _=>False,fun b h=>h.elim,zH s.ps _ x _ J ae fun t v x u _ M z=>ait hr.ok (fun b f=>⟨H9.2 ⟨f,fun h=>h⟩,rfl⟩) M z,.inl G⟩
    .refine⟨fun b=>b<c.w.heap.size/\ ¬c.free b,fun b h=>h.1,zH s.ps _ x _ J ae fun t v x u hm M z=>Jj (fun b f=>⟨H9.2 ⟨f.1,fun h=>h.2 f⟩,rfl⟩) ?_ M z,.inr rfl⟩
     grind
   have aw: ∀e A,AX c.w q s.rs y e A->(match e with
     |.returned v=>next (a.put o.dst v) A
     |.panicked ax=>Q (.panic ax) a A
     |.outgrown=>LetsOut Q):= ?_
   .rw[oL];rcases hs c.w q (ab++vs) x y hr.ok.phiw ao au hy with ⟨N,O⟩|⟨u,N,O⟩
    .rw[N];exact⟨pG rd,(uj O).mono fun e A he=>by
      grind⟩
    .rw[N];exact aw (.returned u) c.w O
   rintro e A ⟨d,us,rfl,rfl,S,ay,aX,aY,U⟩;simp only;have B:Gw c d.w:=S.bel;have ag: ∀(p:Cx),p.w=d.w->(∀b,(c.at_ d.w).free b->d.free b->p.free b)->((s.rs.all fun r=>r.1.rigid||(r.2&&r.1.elem.rigid))=true\/ ∀b,d.free b->p.free b):=fun p hw hf=>by
    rcases av with V|V
    .exact .inl V
    .right;intro b f;exact hf b (axD hr.ok S (ay.trans V) f) f
   rcases z with ⟨aZ,ah,W⟩|⟨e,xs,id,i,bd,ah,h5,h6,h7,W⟩
   .have az:=hr.ext B;refine hn (c.at_ d.w) _ _ _ W az (Ak ?_) (Cx.Le.ext B).mono;refine Gv (c':=d) (c2:=c.at_ d.w) rfl 0 s.rs y us (fun t ht=> ?_) (.inl ah) U;rcases ag (c.at_ d.w) rfl (fun b h _=>h)with h8|h8
    all_goals grind
   .have aA:=S.obj 0 (.arr e 0 xs) (by simp_all [FV,ed]);obtain⟨aF,el,zs,X,hL,aG⟩:=aA;have hk:=Ag hr.hp hr.nxt h5 h6;obtain⟨u0,ai⟩:=afB s.rs y us (by omega) U;simp only[bU]at ai;have Y:dO d.hp 0=a6 (.arr e 0 xs):=by simp_all [FV,ed]
    have aI:(d.mu 0).v.oneCell'=true:=by
     have:=(ai.2.2 _ _ _ Y).2 rfl;simp_all [ja]
    have hl: ∀b,dL.blk (.arr e 0 xs) ⟨0,(d.mu 0).v⟩=a6 b->c.w.heap.size<=b:=fun b f=>(World.ownsRow.lt X b f).1;have aj:=Cx.Le.push (o:=.arr e 0 xs) (l:=⟨0,(d.mu 0).v⟩) (nxt:=i) (w:=d.w) hk (by rw[hr.nxt];exact h7) B.size B.block hl;have bf:=ag (c.push id (.arr e 0 xs) ⟨0,(d.mu 0).v⟩ i d.w) rfl (fun b Z aJ=>⟨Z.1,(by
     rintro ⟨j,o,I,D⟩;simp only[Cx.push,ed]at I D;split at I
     .rename_i E
      subst E;cases I;rw[upd_same]at D;exact aJ.2.1 ⟨0,_,Y,D⟩
     .rename_i E
      rw[upd_ne _ _ (Ne.symm E)]at D;exact Z.2.1 ⟨j,o,I,D⟩),Z.2.2⟩)
    have bg:d.w.ownsRow W0.heap.size el e.size (d.mu 0).v xs.length zs:=by
     refine⟨X.1, ?_⟩;rcases X.2 with h|⟨g,aK,aO,E,e2,e3⟩
     .exact .inl h
     .exact .inr ⟨g,aK,aO,E,aB hr.ok.size e2,e3⟩
    have ho:(c.push id (.arr e 0 xs) ⟨0,(d.mu 0).v⟩ i d.w).ORel W0.heap.size id (.arr e 0 xs):=by
     refine⟨aF,el,zs,by simp_all [Cx.push,upd_same],fP.move (c':=d) (c2:=c.push id (.arr e 0 xs) ⟨0,(d.mu 0).v⟩ i d.w) rfl ?_ hL,aG⟩
     grind [OU]
    have aP:=hr.ok.push hk (by rw[hr.nxt];exact h7) B hl ho;have hd:AQ W0 c st (c.push id (.arr e 0 xs) ⟨0,(d.mu 0).v⟩ i d.w) {st with hp:=(id,.arr e 0 xs)::st.hp,nxt:=i}:=⟨by simp[Cx.push,hr.hp],rfl,rfl,rfl,aP,aj⟩;refine hn (c.push id (.arr e 0 xs) ⟨0,(d.mu 0).v⟩ i d.w) _ _ _ W (hr.did hd) (Ak ?_) aj.mono;refine Gv (c':=d) (c2:=c.push id (.arr e 0 xs) ⟨0,(d.mu 0).v⟩ i d.w) rfl id s.rs y us (fun t ht=> ?_) (.inr fun u hu=> ?_) U
    .grind
    .simp only[bU]at hu ⊢;have ak:=(hu.2.2 _ _ _ Y).2 rfl;simp only[ja]at ak;subst ak;refine⟨aI,.inl ⟨.arr e 0 xs,by simp[Cx.push,ed]⟩,fun t u bn h=> ?_⟩;simp_all [Cx.push,ja,upd_same]
  .cases h
 |_=>simp[EM]at h
theorem TY: ∀(rs:List (Ty×Bool)),(rs.all fun r=> !r.2&&r.1.rigid)=true->news rs=0
 |[],_=>rfl
 |(t,true)::rs,h=>by simp at h
 |(t,false)::rs,h=>by
  simp only[aW,af]at h;exact TY rs h.2
theorem aIV {g:FuncId} {s:Sum} (G:dU P g s) (cl:Bool) (I:(s.rs.all fun r=> !r.2&&r.1.rigid)=true):nN (R:=R) P (EM g s cl):=by
 intro W0 b0 rd J ab ad st K r h c a ats ae f hr z M;cases J with
 |fn g' ag=>
  simp only[EM]at h;split at h
  .rename_i N
   subst N;simp only[bU]at z;obtain⟨i,rfl,O⟩:=z;have S:=bJ.append_arr M O;obtain⟨hc,x,y,A,U,j⟩:=afw h;rw[<-hr.hp]at A;rcases j with ⟨ah,V,W⟩|⟨e,xs,id,n',ai,V,_⟩
   .have l:=UB _ (I7 0 s.rs y I);refine⟨_,rv (Nv (oZ 0 s.rs y)),W,(IX l _).2 rfl,fun B d=> ?_⟩;have X:pz (kQ B fun _=>False) s.ps x (f++i).toList:=zH s.ps _ x _ A S fun t v x u _ Y j=>ait hr.ok (fun b D=>⟨H9.2 ⟨bi D d.size,fun h=>h⟩,d.block b D⟩) Y j;rcases G B (fun _=>False) (f++i) x y (XZ.below d hr.ok.phiw) (fun b h=>h.elim) X U with ⟨o,p⟩|⟨u,o,p⟩
    .refine .inl ⟨g',f++i,by rw[oL,o],p.mono ?_⟩;rintro e aj ⟨Z,us,rfl,rfl,E,ak,al,an,q⟩;exact⟨by rw[(IX l _).1 (Ak q)],d.trans (E.bel.mono d.size)⟩
    .obtain⟨Z,us,hu,_,E,_,_,_,q⟩:=p;cases hu;right;rw[oL,o,(IX l _).1 (Ak q)]
   simp_all [TY]
  .cases h
 |_=>simp[EM]at h
theorem aAZ {E:Env} (hT:TOk P E.T) (hb: ∀g,(E.bf g=true->xN P E.em g)/\(E.il g=true->Je P g)/\(E.sl g=true->Jh P g E.sc)) (h: ∀g s,E.sg g=a6 s->dU P g s) (hx: ∀g s,E.sb g=a6 s->dW P g s):wK P E:=
 ⟨hT,fun R W0 n g s d=>aGE (hx g s d) E.cl n,hb,fun R W0 n g s d=>aIW (h g s d) E.cl n,fun R g s d e=>aIV (h g s d) E.cl e⟩
def ES:(d:List Ty)->(d.foldr Ty.pair Ty.unit).den->List bQ
 |[],_=>[]
 |t::d,x=>.val t x.1::ES d x.2
def frozen (hp:gK):bQ->bQ
 |.val t x=>.val t x
 |.nils=>.nils
 |.slc id ver d=>match dO hp id with
  |some (.arr e v xs)=>bif v==ver then .val (.list e) (acy xs d)else .undef
  |_=>.undef
 |_=>.undef
def bQ.asR (hp:gK) (own:Bool) (t:Ty) (v:bQ):Option t.den:=bif own then v.as hp t else match v with
 |.agg l=>bif t.isAgg then G6 t (l.map (frozen hp))else a7
 |v=>v.as hp t
def jQ (own:Bool):(rs:List (Ty×Bool))->List bQ->gK->Option ((rs.map (·.1)).foldr Ty.pair Ty.unit).den
 |[],[],_=>a6 ()
 |(t,false)::rs,v::l,d=>match(bif own&&(mQ v&& !t.rigid)then a7 else v.asR d own t),jQ own rs l d with
  |some x,a6 y=>a6 (x,y)
  |_,_=>a7
 |(.list e,true)::rs,.slc id ver a7::l,d=>match dO d id with
  |some (.arr t u xs)=>bif u==ver then(match jD (.list e) (t':=.list t) xs,jQ own rs l d with
   |some x,a6 y=>a6 (x,y)
   |_,_=>a7)else a7
  |_=>a7
 |_,_,_=>a7
def Ew (n:Nat) (v:bQ):List bQ:=
 match n,v with
 |1,v=>[v]
 |_,.tup l=>l
 |_,_=>[.undef]
def UC (E:Env) (g:FuncId) (d:List Ty) (rs:List (Ty×Bool)) (x:(d.foldr Ty.pair Ty.unit).den):Option ((rs.map (·.1)).foldr Ty.pair Ty.unit).den:=
 kX E 1000000 (.call g (ES d x)) ⟨[],[],[],0⟩ fun v st=>jQ (!Nat.beq (news rs) 0) rs (Ew rs.length v) st.hp
theorem Oc: ∀(d:List Ty) x (us:List Value),pz c d x us->bJ c (ES d x) us
 |[],x,us,h=>by
  simp_all [pz,ES,bJ]
 |t::d,x,us,h=>by
  obtain⟨u,e,rfl,f,g⟩:=h;simp only[ES,bJ,bU];exact⟨f,Oc d x.2 e g⟩
theorem vS {own:Bool}: ∀(rs:List (Ty×Bool)) (l:List bQ) {hp:gK},(jQ own rs l hp).isSome=true->l.length=rs.length
 |[],[],_,_=>rfl
 |[],_::_,_,h=>by simp[jQ]at h
 |(t,false)::rs,[],_,h=>by simp[jQ]at h
 |(t,false)::rs,v::l,hp,h=>by
  simp only[jQ]at h;split at h
  .rename_i d
   simp[vS rs l (hp:=hp) (by rw[d];rfl)]
  .cases h
 |(t,true)::rs,[],_,h=>by simp_all [jQ]
 |(t,true)::rs,v::l,hp,h=>by
  cases t with
  |list e=>
   cases v with
   |slc id ver f=>
    cases f with
    |none=>
     simp only[jQ]at h;split at h
     .rw[cond_eq_ite]at h;split at h
      .split at h
       .rename_i d
        simp[vS rs l (hp:=hp) (by rw[d];rfl)]
       .cases h
      .cases h
     .cases h
    |some p=>simp[jQ]at h
   |_=>simp[jQ]at h
  |_=>simp[jQ]at h
theorem aeZ {own:Bool} {v:bQ} {u:Value} {rs:List (Ty×Bool)} {hp:gK} (h:(jQ own rs (Ew rs.length v) hp).isSome=true) (d:bU c v u): ∃us,u=IU us/\bJ c (Ew rs.length v) us:=by
 match rs,h with
 |[t],h=>exact⟨[u],rfl,by simpa [Ew,bJ] using d⟩
 |[],h=>
  cases v with
  |tup l=>
   simp only[List.length_nil,Ew]at h ⊢;cases l with
   |nil=>
    simp only[bU]at d;obtain⟨e,rfl,f⟩:=d;have:e= #[]:=by
     have:=bJ.length _ _ f
     grind
    subst this;exact⟨[],rfl,by simp[bJ]⟩
   |cons _ _=>simp[jQ]at h
  |_=>simp[Ew,jQ]at h
 |g::i::rs,h=>
  cases v with
  |tup l=>
   simp only[bU]at d;obtain⟨e,rfl,f⟩:=d;have hl:=bJ.length _ _ f;have o:l.length=(g::i::rs).length:=vS _ _ h;simp only[aH,Ew];refine⟨e.toList, ?_,f⟩;cases hvs:e.toList with
   |nil=>simp_all
   |cons v1 j=>
    cases j with
    |nil=>simp_all
    |cons v2 p=>simp only[IU];rw[<-hvs]
  |_=>
   exfalso;have:=vS _ _ h;simp[Ew]at this
end
end
section
open Option renaming some → a6, none → a7
open Bool renaming and_eq_true → af, and_true → ay, not_false → az
open List renaming map_cons → ax
open Nat renaming le_refl → ae, eq_of_beq_eq_true → aj
open Go.RowKit
structure eu (E:Env):Prop where
 T:TOk E.P E.T
 m:E.P.follows .mixedOrders=true
 ng:Jf E.P
 S: ∀g s,E.sg g=a6 s->dU E.P g s
 L:sQ E.P E
 R:afJ E
 B: ∀g,(E.bf g=true->xN E.P E.em g)/\(E.il g=true->Je E.P g)/\(E.sl g=true->Jh E.P g E.sc)
 X: ∀g s,E.sb g=a6 s->dW E.P g s
section
variable {P:Program} {T:TT} {W0:World} {b0:Nat} {rd:Option Nat} {R:Type} {r:R} {c:Cx} {ats:List (Array Value)}
theorem Dw {E:Env} (h:eu E) (m:Nat) (R:Type) (W0:World):uX E.P W0 (kX E m (R:=R)):=
 (Ii h.T h.m h.ng rfl rfl (aAZ h.T h.B h.S h.X) h.L h.R m R W0).1
theorem zI {w:World} {d:Nat->Prop} (e:XZ w) (hb: ∀b,d b->b<w.heap.size):iM w 0 a7 (kQ w d) ⟨[],[],[],0⟩ ⟨#[],[]⟩ []:=
 ⟨rfl,rfl,⟨Below.refl _ _,fun id o h=>by simp[kQ,dO]at h,fun i j o p b h=>by simp[kQ,dO]at h,fun r hr=>by simp[kQ]at hr,fun b h=>⟨hb b h,(by rintro ⟨i,o,h,_⟩;simp[kQ,dO]at h),by simp[kQ]⟩,e⟩,by simp[kQ,bJ],trivial,⟨[],rfl,List.nodup_nil,fun r hr=>by simp at hr⟩,fun l hl=>by cases hl⟩
theorem abC {own:Bool} {c':Cx} (o:c'.w=c.w) (hf: ∀b,c.free b->c'.free b) (z:own=false-> ∀b,b<c.w.heap.size-> ¬c.bar b->c'.free b) {t:Ty} {v:bQ} {x:t.den} {u:Value} (y:c.Ok W0)
  (h:(bif own&&(mQ v&& !t.rigid)then a7 else v.asR c.hp own t)=a6 x) (d:bU c v u):VD c' t x u:=by
 have p: ∀b,c.free b->c'.free b/\c'.w.heap[b]? =c.w.heap[b]? :=fun b A=>⟨hf b A,by rw[o]⟩;rw[cond_eq_ite]at h;split at h
 .cases h
 rename_i V
 have B: ∀{id g i} {u:Value} {e:Ty} {x:List e.den},own=false->(bQ.slc id g i).as c.hp (.list e)=a6 x->bU c (.slc id g i) u->VD c' (.list e) x u:=fun {id g i u e x} D h d=>by
  obtain⟨a,cp,E,j,q,G⟩:=UN y h d;have I:=abL y h d j;exact(VD.leaf rfl).2 ⟨a,cp,E,by rw[j],I,fP.mono (eY.mono p e) _ _ q,G.imp (fun h=>h) fun⟨b,J,K,M,N,O⟩=>⟨b,J,K,z D b M N,O.of_block (by rw[o])⟩⟩
 cases own with
 |true=>
  have h:v.as c.hp t=a6 x:=h;cases ho:mQ v with
  |false=>exact Jj p ho h d
  |true=>
   cases v with
   |slc id g i=>
    cases t with
    |list e=>grind [Ty.rigid]
    |_=>simp[bQ.as]at h
   |agg l=>
    simp only[bQ.as]at h;rw[cond_eq_ite]at h;split at h
    .rename_i s
     simp only[bU]at d;obtain⟨f,rfl,j,q⟩:=d;exact VD.move o (.inl hf) ((VD.agg s).2 ⟨f,rfl,oO h j⟩)
    .cases h
   |_=>simp[mQ]at ho
 |false=>
  cases v with
  |slc id g i=>
   have h:(bQ.slc id g i).as c.hp t=a6 x:=h;cases t with
   |list e=>grind
   |_=>simp[bQ.as]at h
  |agg l=>
   have h:(bif t.isAgg then G6 t (l.map (frozen c.hp))else a7)=a6 x:=h;obtain⟨s,h⟩:=dG h;simp only[bU]at d;obtain⟨f,rfl,j,q⟩:=d;have S: ∀(l:List bQ) (f:List Value),bJ c l f->bJ c' (l.map (frozen c.hp)) f:=by
    intro l
    induction l with
    |nil=>grind [bJ]
    |cons v l U=>intro f h;cases f with
     |nil=>simp[bJ]at h
     |cons u f=>
      simp only[bJ,ax]at h ⊢;refine⟨?_,U f h.2⟩;have d:=h.1;cases v with
      |val t x=>
       grind [frozen,bU,VD.move]
      |nils=>assumption
      |slc id g i=>
       simp only[frozen];split
       .rename_i e v xs W
        rw[cond_eq_ite];split
        .rename_i X
         simp only[bU];refine B rfl ?_ d;simp_all [bQ.as,Bg,fV]
        .simp[bU]
       .simp[bU]
      |_=>simp[frozen,bU]
   exact(VD.agg s).2 ⟨f,rfl,oO h (S l _ j)⟩
  |_=>
   simp only[bQ.asR,ac]at h;exact Jj p rfl h d
theorem abA {own:Bool} {c':Cx} (f:c.Ok W0) (g:c'.w=c.w) (hf: ∀b,c.free b->c'.free b) (i:own=false-> ∀b,b<c.w.heap.size-> ¬c.bar b->c'.free b): ∀(rs:List (Ty×Bool)) (l:List bQ) (y) (us:List Value),jQ own rs l c.hp=a6 y->news rs=0->bJ c l us->bJ c' (oZ 0 rs y) us
 |[],[],y,[],_,_,_=>by simp[oZ,bJ]
 |[],[],_,_::_,_,_,d=>by simp[bJ]at d
 |[],_::_,_,_,h,_,_=>by simp[jQ]at h
 |(t,true)::rs,_,_,_,_,e,_=>by simp[news]at e
 |(t,false)::rs,[],_,_,h,_,_=>by simp[jQ]at h
 |(t,false)::rs,v::l,y,[],h,_,d=>by simp[bJ]at d
 |(t,false)::rs,v::l,y,u::us,h,e,d=>by
  simp only[jQ]at h;split at h
  .rename_i x j o p
   cases h;simp only[bJ]at d;simp only[oZ,bJ,bU];exact⟨abC g hf i f o d.1,abA f g hf i rs l j us p (by simpa [news] using e) d.2⟩
  .cases h
theorem ak6 (z:c.Ok W0): ∀(rs:List (Ty×Bool)) (l:List bQ) (y) (us:List Value),jQ true rs l c.hp=a6 y->news rs=1->bJ c l us->
  ∃(id f:Nat) (e:Ty) (xs:List e.den),dO c.hp id=a6 (.arr e f xs)/\x8 rs y=a6 ⟨e,xs⟩/\
   ∀c':Cx,c'.w=c.w->(∀b,c.free b->c'.free b)->c'.hp=[(0,.arr e 0 xs)]->(c'.mu 0).v=(c.mu id).v->bJ c' (oZ 0 rs y) us
 |[],_,_,_,_,g,_=>by simp[news]at g
 |(t,false)::rs,[],_,_,h,_,_=>by simp[jQ]at h
 |(t,false)::rs,v::l,y,[],h,_,d=>by simp[bJ]at d
 |(t,false)::rs,v::l,y,u::us,h,g,d=>by
  simp only[jQ]at h;split at h
  .rename_i x j i o
   cases h;simp only[bJ]at d;obtain⟨id,f,e,xs,k1,k2,k3⟩:=ak6 z rs l j us o (by simpa [news] using g) d.2;refine⟨id,f,e,xs,k1,k2,fun c' A B D G=> ?_⟩
   grind [oZ,bJ,bU,abC]
  .cases h
 |(t,true)::rs,[],_,_,h,_,_=>by simp_all [jQ]
 |(t,true)::rs,v::l,y,[],h,_,d=>by simp[bJ]at d
 |(t,true)::rs,v::l,y,u::us,h,g,d=>by
  cases t with
  |list e=>
   cases v with
   |slc id f I=>
    cases I with
    |none=>
     simp only[jQ]at h;split at h
     .rename_i M w xs E
      rw[cond_eq_ite]at h;split at h
      .rename_i q
       have q:w=f:=by simpa using q
       subst q;split at h
       .rename_i x j i o
        cases h;have J:=iy i;cases J;rw[fV]at i;cases i;simp only[bJ]at d;refine⟨id,w,e,x,E,rfl,fun c' A B D G=> ?_⟩;simp only[oZ,bJ];refine⟨?_,abA z A B (fun h=>by cases h) rs l j us o (by simpa [news] using g) d.2⟩;have s:=d.1;simp only[bU]at s ⊢;have K:=(s.2.2 _ _ _ E).2 rfl;simp only[ja]at K;refine⟨s.1,.inl ⟨.arr e 0 x,by rw[D];simp[ed]⟩,fun t N O h=> ?_⟩;simp_all [ja]
       .cases h
      .cases h
     .cases h
    |some p=>simp[jQ]at h
   |_=>simp[jQ]at h
  |_=>simp[jQ]at h
theorem TW: ∀(rs:List (Ty×Bool)) y,news rs=0->x8 rs y=a7
 |[],_,_=>rfl
 |(t,true)::rs,_,h=>by simp[news]at h
 |(t,false)::rs,y,h=>TW rs y.2 (by simpa [news] using h)
theorem abB (g:c.Ok W0) {rs:List (Ty×Bool)} {l:List bQ} {y} {us:List Value} (h:jQ (!Nat.beq (news rs) 0) rs l c.hp=a6 y) (B:news rs<=1) (u:bJ c l us):
  ∃c':Cx,c'.w=c.w/\c'.Ok W0/\c'.bar=c.bar/\c'.mks=[]/\c'.hp=FV rs y/\bJ c' (oZ 0 rs y) us:=by
 by_cases h0:news rs=0
 .let c':Cx:=⟨c.mu,[],c.nxt,c.w,[],c.bar⟩
  have s: ∀b,c.free b->c'.free b:=fun b f=>⟨f.1,(by rintro ⟨i,o,h,_⟩;simp[c',dO]at h),by simp[c'],f.2.2.2⟩;exact⟨c',rfl,⟨g.bel,fun id o h=>by simp[c',dO]at h,fun i j o p b h=>by simp[c',dO]at h,fun r hr=>by simp[c']at hr,fun b f=>⟨(g.bar b f).1,(by rintro ⟨i,o,h,_⟩;simp[c',dO]at h),by simp[c']⟩,g.phi⟩,rfl,rfl,by rw[FV,TW rs y h0],abA g (c':=c') rfl s (fun _ b d q=>⟨d,(by rintro ⟨i,o,h,_⟩;simp[c',dO]at h),by simp[c'],q⟩) rs l y us h h0 u⟩
 .have v:news rs=1:=by omega
  rw[show(!Nat.beq (news rs) 0)=true by rw[v];rfl]at h;obtain⟨id,D,e,xs,k1,k2,k3⟩:=ak6 g rs l y us h v u
  let c':Cx:=⟨fun _=>c.mu id,[(0,.arr e 0 xs)],c.nxt,c.w,[],c.bar⟩
  have s: ∀b,c.free b->c'.free b:=fun b f=>⟨f.1,(by
   rintro ⟨i,o,d,q⟩;simp only[c',ed]at d q;split at d
   .cases d;exact f.2.1 ⟨id,_,k1,q⟩
   .simp[dO]at d),by simp[c'],f.2.2.2⟩
  refine⟨c',rfl,⟨g.bel,fun i o h=> ?_,fun i j o p b d q _ _=> ?_,fun r hr=>by simp[c']at hr,fun b f=>⟨(g.bar b f).1,(by
   rintro ⟨i,o,d,q⟩;simp only[c',ed]at d q;split at d
   .cases d;exact(g.bar b f).2.1 ⟨id,_,k1,q⟩
   .simp[dO]at d),by simp[c']⟩,g.phi⟩,rfl,rfl,by rw[FV,k2],k3 c' rfl s rfl rfl⟩
  .simp only[c',ed]at h;split at h
   .cases h;obtain⟨h0,x,z,d,q,A⟩:=g.obj id _ k1;exact⟨h0,x,z,d,fP.mono (eY.mono (fun b f=>⟨s b f,rfl⟩) e) _ _ q,A⟩
   .simp[dO]at h
  grind [dO]
theorem AP {E:Env} (j:eu E) {g:FuncId} {s:Sum} (l:news s.rs<=1) (h: ∀x y,s.f x=a6 y->UC E g s.ps s.rs x=a6 y) (w:World) (d:Nat->Prop) (e:Array Value) (x) (y) (o:XZ w) (p: ∀b,d b->b<w.heap.size)
  (q:pz (kQ w d) s.ps x e.toList) (v:s.f x=a6 y):(callFunc g e).run E.P w=.ok (.enter g e) w/\Calls E.P g e w (AX w d s.rs y):=by
 have i:=h x y v;unfold UC at i;refine Dw j 1000000 _ w g (ES s.ps x) _ _ y i 0 a7 (kQ w d) ⟨#[],[]⟩ [] e (zI o p) (Oc _ _ _ q) (AX w d s.rs y) fun N z u O k1 k2 k3 k4=> ?_;obtain⟨us,rfl,A⟩:=aeZ (by rw[k1];rfl) k3;rw[<-k2.hp]at k1;obtain⟨B,D,G,I,J,K,M⟩:=abB k2.ok k1 l A;exact⟨B,us,rfl,D,G,I.trans k4.bar,J,K,M⟩
theorem U2 {E:Env} (d:eu E) {g:FuncId} {s:Sum} (e:news s.rs<=1) (h: ∀x y,s.f x=a6 y->UC E g s.ps s.rs x=a6 y):dU E.P g s:=fun w i j x y l o p q=>.inl (AP d e h w i j x y l o p q)
theorem acR {E:Env} (i:eu E) {g:FuncId} {d:List Ty} {x:(d.foldr Ty.pair Ty.unit).den} {t:Ty} {y:t.den} (v:t.rigid=true) (h:UC E g d [(t,false)] x=a6 (y,())) {w:World} {args:Array Value} (j:pz (kQ w fun _=>False) d x args.toList) (l:XZ w:=by exact trivial):
  Calls E.P g args w fun e w'=>e=.returned (Js t y)/\Below w.heap.size w w':=by
 obtain⟨_,o⟩:=AP i (g:=g) (s:=⟨d,[(t,false)],fun p=>UC E g d [(t,false)] p⟩) (by simp[news]) (fun x y h=>h) w (fun _=>False) args x (y,()) l (fun b h=>h.elim) j h;refine o.mono ?_;rintro e w' ⟨z,us,rfl,rfl,q,_,_,_,f⟩;refine⟨?_,q.bel⟩;cases us with
 |nil=>simp[oZ,bJ]at f
 |cons u us=>
  cases us with
  |cons _ _=>simp[oZ,bJ]at f
  |nil=>
   simp_all [oZ,bJ,bU,IU,VD.rigid]
theorem CZ {E:Env} (O:eu E) {g:FuncId} {e e2:Ty} (X:0<e.size) (Y:0<e2.size) {f:List e.den->Option (List e2.den)} (Z: ∀xs y,f xs=a6 y->kX E 1000000 (.call g [.lst e xs false]) ⟨[],[],[],0⟩ (fun v st=>jQ true [(.list e2,true)] (Ew 1 v) st.hp)=a6 (y,()))
  (h2: ∀y,f []=a6 y->y=[]/\kX E 1000000 (.call g [.lst e [] true]) ⟨[],[],[],0⟩ (fun v st=>match v,st.hp with|.nils,[]=>a6 ()|_,_=>a7)=a6 ()):
  dU E.P g ⟨[.list e],[(.list e2,true)],fun x=>match f x.1 with|some y=>a6 (y,())|none=>a7⟩:=fun w i B x y S U ab o=>.inl (by
 obtain⟨u,ad,hu,hx,ag⟩:=ab;obtain⟨a,n,zs,p,q,j,s⟩:=qW hx;simp only at o;split at o
 .rename_i y' D
  cases o;have A:bJ (kQ w i) [.lst e x.1 a.isNone] B.toList:=by
   rw[hu,show ad=[] from ag];simp only[bJ,bU,and_true];simp_all
  cases ha:a.isNone with
  |true=>
   have hz:zs=[]:=by
    simp_all
   have hl:=fP.length _ _ j;rw[hz]at hl;have V:x.1=[]:=by
    cases hxx:x.1 with
    |nil=>rfl
    |cons a l=>rw[hxx]at hl;have:=Nat.mul_pos (show 0<(a::l).length by simp) X;simp_all
   rw[ha,V]at A;rw[V]at D;obtain⟨rfl,G⟩:=h2 _ D;refine Dw O 1000000 _ w g [.lst e [] true] _ _ _ G 0 a7 (kQ w i) ⟨#[],[]⟩ [] B (zI S U) A (AX w i [(.list e2,true)] ([],())) fun c1 z u d k1 k2 k3 k4=> ?_;split at k1
   .rename_i ak ah
    simp only[bU]at k3;obtain⟨W,I,d2,d3⟩:=qZ (W0:=w) k2.ok k2.hp k2.nxt (id:=d.nxt) (n':=d.nxt+1) (by rw[ah];rfl) (ae _) (by omega) Y (xs:=[]) (Below.refl _ _) (if e2=.int .u8 then nH else 0) [] (World.ownsRow_nil _ _ _ _) (by simp[fP]) (v:=.slice a7 0 0) rfl (fun h=>by simp[h]);have ai:jQ true [(.list e2,true)] [.slc d.nxt 0 a7] W.hp=a6 (([],()):List e2.den×Unit):=by
     rw[I.hp];simp only[jQ,dO,beq_self_eq_true,Nat.beq_refl,aa,fV];rfl
    have J:bJ W [.slc d.nxt 0 a7] [.slice a7 0 0]:=by simp_all [bJ]
    obtain⟨K,p,q,j,s,M,N⟩:=abB (rs:=[(.list e2,true)]) I.ok ai (by simp[news]) J;exact⟨K,[.slice a7 0 0],by rw[k3];rfl,p.trans d2,q,j.trans (I.le.bar.trans k4.bar),s,M,N⟩
   .cases k1
  |false=>
   rw[ha]at A;have G:=Z _ _ D;refine Dw O 1000000 _ w g [.lst e x.1 false] _ _ _ G 0 a7 (kQ w i) ⟨#[],[]⟩ [] B (zI S U) A (AX w i [(.list e2,true)] (y',())) fun c1 z u d k1 k2 k3 k4=> ?_;obtain⟨us,rfl,J⟩:=aeZ (own:=true) (rs:=[(.list e2,true)]) (hp:=d.hp) (by grind) k3;rw[<-k2.hp]at k1;obtain⟨K,p,q,j,s,M,N⟩:=abB (rs:=[(.list e2,true)]) k2.ok k1 (by simp[news]) J;exact⟨K,us,rfl,p,q,j.trans k4.bar,s,M,N⟩
 .cases o)
def aoA:(rs:List Ty)->List bQ->gK->Option (rs.foldr Ty.pair Ty.unit).den
 |[],[],_=>a6 ()
 |t::rs,v::l,d=>match(bif true&&(mQ v&& !t.rigid)then a7 else v.as d t),aoA rs l d with
  |some x,a6 y=>a6 (x,y)
  |_,_=>a7
 |_,_,_=>a7
def as4:Nat->List Ty->List (Nat×Ty)
 |_,[]=>[]
 |n,.list t::d=>(n,t)::as4 (n+1) d
 |n,_::d=>as4 (n+1) d
def aGI (n:Nat) (v:bQ):Bool:=Nat.beq n 1||(match v with
 |.tup l=>Nat.beq l.length n&& !Nat.beq n 1
 |_=>false)
def avy (E:Env) (g:FuncId) (d:TypeId) (cs:List (Ty×Bool)) (e rs:List Ty) (x:((cs.map (·.1)).foldr Ty.pair Ty.unit).den) (y:(e.foldr Ty.pair Ty.unit).den):Option (((cs.map (·.1)).foldr Ty.pair Ty.unit).den×(rs.foldr Ty.pair Ty.unit).den):=
 kX E 1000000 (.call g (.ptr 0 0::Ju e y)) ⟨[.ptr 0 0],[],(0,.box d (Gx cs (je cs 1) x))::uh cs (je cs 1) x,0⟩ fun v st=>match st.fr with
  |[.ptr 0 0]=>bif aGI rs.length v then(match zT (as4 1 rs) {st with fr:=.ptr 0 0::Ew rs.length v}with
   |some st=>match st.fr with
    |.ptr 0 0::l=>match dO st.hp 0 with
     |some (.box t cells)=>bif Nat.beq t d&&TZ ((oU cs cells).map (·.1))then(match jL st.hp true cs cells with
      |some f=>match aoA rs l st.hp with
       |some h=>a6 (f,h)
       |none=>a7
      |none=>a7)else a7
     |_=>a7
    |_=>a7
   |none=>a7)else a7
  |_=>a7
theorem axJ {n:Nat} {v:bQ} {u:Value} (h:aGI n v=true) (d:bU c v u): ∃us,u=IU us/\bJ c (Ew n v) us:=by
 by_cases h1:n=1
 .subst h1;exact⟨[u],rfl,by simpa [Ew,bJ] using d⟩
 .have j:Nat.beq n 1=false:=by
   cases hq:Nat.beq n 1 with
   |false=>rfl
   |true=>exact absurd (aj hq) h1
  simp only[aGI,j,Bool.false_or]at h;split at h
  .rename_i l
   simp only[az,ay]at h;have hl:=aj h;simp only[bU]at d;obtain⟨g,rfl,i⟩:=d;refine⟨g.toList, ?_, ?_⟩
   .have f:=bJ.length _ _ i
    match hq:g.toList,f with
    |[],_=>simp_all [IU]
    |[x],f=>simp at f;omega
    |x::y::r,_=>simp only[IU];rw[<-hq]
   .have:Ew n (.tup l)=l:=by
     unfold Ew;split
     .exact absurd rfl h1
     .rename_i e;cases e;rfl
     .rename_i e;exact(e _ rfl).elim
    rw[this];exact i
  .cases h
theorem aeY (e:c.Ok W0): ∀(rs:List Ty) (l:List bQ) (z) (us:List Value),aoA rs l c.hp=a6 z->bJ c l us->pz c rs z us
 |[],[],z,[],_,_=>rfl
 |[],[],_,_::_,_,d=>by simp[bJ]at d
 |[],_::_,_,_,h,_=>by simp[aoA]at h
 |_::_,[],_,_,h,_=>by simp[aoA]at h
 |t::rs,v::l,z,[],_,d=>by simp[bJ]at d
 |t::rs,v::l,z,u::us,h,d=>by
  simp only[aoA]at h;split at h
  .rename_i x y f g
   cases h;simp only[bJ]at d;exact⟨u,us,rfl,abC (own:=true) (c':=c) rfl (fun b h=>h) (fun h=>by cases h) e f d.1,aeY e rs l y us g d.2⟩
  .cases h
theorem afu {E:Env} (O:eu E) {g:FuncId} {s:fZ} (h: ∀x y z,s.f x y=a6 z->avy E g s.bt s.cs s.ps s.rs x y=a6 z):dW E.P g s:=fun W0 c x y z S ao U A V j W=>by
 have B:=h x y z W;unfold avy at B;obtain⟨us⟩:=V;cases us with
 |nil=>simp[bJ]at j
 |cons u0 us=>
 have D:=j;simp only[bJ]at D;obtain⟨G,_⟩:=D;have hr:iM W0 0 a7 c ⟨[.ptr 0 0],[],(0,.box s.bt (Gx s.cs (je s.cs 1) x))::uh s.cs (je s.cs 1) x,0⟩ ⟨#[u0],[]⟩ []:=
  ⟨A,U,S,by simp_all [bJ],trivial,⟨[],rfl,List.nodup_nil,fun r hr=>by simp at hr⟩,fun l hl=>by cases hl⟩
 refine Dw O 1000000 _ W0 g (.ptr 0 0::Ju s.ps y) _ _ z B 0 a7 c ⟨#[u0],[]⟩ [] ⟨u0::us⟩ hr j (aA6 W0 c s z) fun X v u Y k1 k2 k3 k4=> ?_;split at k1<;>try (cases k1;done)
 rename_i Z
 replace k1:=dG k1;obtain⟨ab,k1⟩:=k1;split at k1<;>try (cases k1;done)
 rename_i au ad
 split at k1<;>try (cases k1;done)
 rename_i l ag
 split at k1<;>try (cases k1;done)
 rename_i t cells o
 replace k1:=dG k1;obtain⟨I,k1⟩:=k1;simp only[af]at I;obtain⟨p,ah⟩:=I;have p:t=s.bt:=aj p;subst p;split at k1<;>try (cases k1;done)
 rename_i x' J
 split at k1<;>try (cases k1;done)
 rename_i z' K
 cases k1;obtain⟨e,rfl,h3⟩:=axJ ab k3;have q:=k2.fr;rw[Z]at q;simp only[bJ,and_true]at q;have ai:iM W0 0 a7 X {Y with fr:=.ptr 0 0::Ew s.rs.length v} ⟨(u0::e).toArray,[]⟩ []:=
  ⟨k2.hp,k2.nxt,k2.ok,⟨q,h3⟩,k2.stk,k2.df,k2.rd⟩
 obtain⟨M,i,ak,al⟩:=yP _ ai ad;have d:=i.fr;rw[ag]at d;have d:bJ M (.ptr 0 0::l) (u0::e):=d;simp only[bJ]at d;obtain⟨N,an⟩:=d;rw[<-i.hp]at o J K;refine⟨M,e,cells,rfl,al,i.ok,k4.trans ak,o, ?_,Ea ah,J,aeY i.ok s.rs l z' e K an⟩;simp only[bU]at N G;have e1:=N.2.2 _ _ o;have e2:=G.2.2 _ _ (by rw[A];simp[ed];exact⟨rfl,rfl⟩);simp_all
end
end
section
open Go.RowKit
def axA:Sum:=⟨[.str,.int .u8],[(.int .i64,false)],fun x=>some (Lib.indexByte x.1 x.2.1.toNat.toUInt8,())⟩
theorem Rq {w:World} {d:Nat->Prop} (e:XZ w) (hb: ∀b,d b->b<w.heap.size):(kQ w d).Ok w:=(zI e hb).ok
theorem afv {P:Program} {g:FuncId} {fn:Func} (hf:P.funcs[g]? =some fn) (e:(fn.name== "runtime.NumGoroutine")=false) (hb:fn.body.isNone=true) (f:Extern.findNext fn=none)
  (h:Extern.find fn=some Extern.BytealgIndexByte.indexByte):dU P g axA:=by
 intro w i j x y l o p q;obtain⟨u,I,J,s,v,K,z,A,d⟩:=p;simp only[pz]at d;subst d z;have B:j= #[u,v]:=by
  grind
 subst B;have D:=s.str_inv;have E:=A.int_inv;subst D E;have G:=Option.some.inj q;subst G;refine .inr ⟨_,by rw[run_callFunc_extern hf e hb f h,Lib.run_indexByteString];rfl,kQ w i,[_],rfl,rfl,Rq l o,rfl,rfl,rfl, ?_⟩;simp_all [axA,oZ,bJ,bU,VD.int_mk]
def acp:Sum:=⟨[.str,.str],[(.int .i64,false)],fun x=>some (Lib.compareBytes x.1 x.2.1,())⟩
theorem XN {P:Program} {g:FuncId} {fn:Func} (hf:P.funcs[g]? =some fn) (e:(fn.name== "runtime.NumGoroutine")=false) (hb:fn.body.isNone=true) (f:Extern.findNext fn=none)
  (h:Extern.find fn=some Extern.BytealgCompare.compare):dU P g acp:=by
 intro w i j x y l o p q;obtain⟨u,I,J,s,v,K,z,A,d⟩:=p;simp only[pz]at d;subst d z;have B:j= #[u,v]:=by
  grind
 subst B;have D:=s.str_inv;have E:=A.str_inv;subst D E;have G:=Option.some.inj q;subst G;refine .inr ⟨_,by rw[run_callFunc_extern hf e hb f h,Lib.run_compareString];rfl,kQ w i,[_],rfl,rfl,Rq l o,rfl,rfl,rfl, ?_⟩;simp_all [acp,oZ,bJ,bU,VD.int_mk]
end
section
open Option renaming some → a6, none → a7
open Bool renaming and_eq_true → af, false_eq_true → ah
open List renaming mem_cons_of_mem → ak, mem_cons_self → aF
open Nat renaming eq_of_beq_eq_true → aj
open Go.RowKit
inductive FK where
 |u
 |v (t:Ty)
 |slc (id:Nat)
 |ptr (id off:Nat)
 |nils
 |slf (id:Nat)
 |yld (id:Nat)
 |nilp
 |e
 |fn (f:FuncId) (caps:List (Nat×Nat))
 |cp (t:Ty)
 |mpv (id:Nat)
 |mfn (f:FuncId) (fst:List (Nat×Nat))
 |kb (b:Bool)
def us (l:List FK) (n:Nat):List FK:=l++List.replicate n .u
def FKs.den:List FK->Ty
 |[]=>.unit
 |.v t::l=>.pair t (FKs.den l)
 |.u::l=>FKs.den l
 |.slc _::l=>FKs.den l
 |.ptr _ _::l=>FKs.den l
 |.nils::l=>FKs.den l
 |.slf _::l=>FKs.den l
 |.mpv _::l=>FKs.den l
 |.mfn _ _::l=>FKs.den l
 |.kb _::l=>FKs.den l
 |.yld _::l=>FKs.den l
 |.nilp::l=>FKs.den l
 |.e::l=>FKs.den l
 |.fn _ _::l=>FKs.den l
 |.cp t::l=>.pair t (FKs.den l)
def Nu:List (Nat×Nat)->List bQ
 |[]=>[]
 |(i,o)::l=>.ptr i o::Nu l
def Vm:(l:List FK)->(FKs.den l).den->List bQ
 |[],_=>[]
 |.v t::l,y=>.val t y.1::Vm l y.2
 |.u::l,y=>.undef::Vm l y
 |.slc id::l,y=>.slc id 0 a7::Vm l y
 |.ptr id d::l,y=>.ptr id d::Vm l y
 |.nils::l,y=>.nils::Vm l y
 |.slf id::l,y=>.slf id::Vm l y
 |.mpv id::l,y=>.mpv id::Vm l y
 |.mfn f c::l,y=>.mfn f (Nu c)::Vm l y
 |.kb b::l,y=>.val .bool b::Vm l y
 |.yld id::l,y=>.yld id::Vm l y
 |.nilp::l,y=>.nilp::Vm l y
 |.e::l,y=>.tup []::Vm l y
 |.fn f g::l,y=>.fn f (Nu g)::Vm l y
 |.cp t::l,y=>.cellp t y.1::Vm l y.2
def amw (t:Ty):bQ->Option t.den
 |.val t' x=>jD t x
 |_=>a7
def ax7 (t:Ty):bQ->Option t.den
 |.cellp t' x=>jD t x
 |_=>a7
def ayR (b:Bool):bQ->Bool
 |.val .bool c=>bif b then c else !c
 |_=>false
def isU:bQ->Bool
 |.undef=>true
 |_=>false
def isNils:bQ->Bool
 |.nils=>true
 |_=>false
def YT:bQ->Bool
 |.nilp=>true
 |_=>false
def isE:bQ->Bool
 |.tup l=>l.isEmpty
 |_=>false
def ajA (id:Nat):bQ->Bool
 |.slf i=>Nat.beq i id
 |_=>false
def ajz (id:Nat):bQ->Bool
 |.mpv i=>Nat.beq i id
 |_=>false
def ajB (id:Nat):bQ->Bool
 |.yld i=>Nat.beq i id
 |_=>false
def adQ (id:Nat):bQ->Bool
 |.slc i v w=>Nat.beq i id&&(Nat.beq v 0&&(match w with|none=>true|some _=>false))
 |_=>false
def isPtr (id off:Nat):bQ->Bool
 |.ptr i o=>Nat.beq i id&&Nat.beq o off
 |_=>false
def Ip:List (Nat×Nat)->List bQ->Bool
 |[],[]=>true
 |(i,o)::c,v::l=>isPtr i o v&&Ip c l
 |_,_=>false
def atg (f:FuncId) (c:List (Nat×Nat)):bQ->Bool
 |.fn g l=>Nat.beq g f&&Ip c l
 |_=>false
def adN (f:FuncId) (c:List (Nat×Nat)):bQ->Bool
 |.mfn g l=>Nat.beq g f&&Ip c l
 |_=>false
theorem aio {t:Ty} {v:bQ} {x:t.den} (h:amw t v=a6 x):v=.val t x:=by
 cases v with
 |val t' z=>
  grind [amw,iy,fV]
 |_=>simp[amw]at h
theorem amJ {t:Ty} {v:bQ} {x:t.den} (h:ax7 t v=a6 x):v=.cellp t x:=by
 cases v with
 |cellp t' z=>
  grind [ax7,iy,fV]
 |_=>simp[ax7]at h
theorem ath {v:bQ} (h:isU v=true):v=.undef:=by grind [isU]
theorem adP {v:bQ} (h:isNils v=true):v=.nils:=by grind [isNils]
theorem DU: ∀{c:List (Nat×Nat)} {l:List bQ},Ip c l=true->l=Nu c
 |[],[],_=>rfl
 |(i,o)::c,v::l,h=>by
  simp only[Ip,af]at h;have d:v=.ptr i o:=by
   have:=h.1;cases v<;>simp only[isPtr,ah]at this;simp_all
  rw[d,DU h.2];rfl
 |[],_::_,h=>by simp[Ip]at h
 |_::_,[],h=>by simp[Ip]at h
theorem an3 {f:FuncId} {c:List (Nat×Nat)} {v:bQ} (h:atg f c v=true):v=.fn f (Nu c):=by
 cases v with
 |fn g l=>
  simp only[atg,af]at h;rw[aj h.1,DU h.2]
 |_=>simp[atg]at h
theorem an4 {b:Bool} {v:bQ} (h:ayR b v=true):v=.val .bool b:=by
 unfold ayR at h;split at h
 .rename_i c
  cases b<;>cases c<;>first|rfl|exact absurd h (by decide)
 .exact absurd h (by decide)
theorem agN {f:FuncId} {c:List (Nat×Nat)} {v:bQ} (h:adN f c v=true):v=.mfn f (Nu c):=by
 cases v with
 |mfn g l=>
  simp only[adN,af]at h;rw[aj h.1,DU h.2]
 |_=>simp[adN]at h
theorem adO {v:bQ} (h:YT v=true):v=.nilp:=by grind [YT]
theorem atf {v:bQ} (h:isE v=true):v=.tup []:=by
 cases v with
 |tup l=>simp_all [isE]
 |_=>simp[isE]at h
theorem agR {id:Nat} {v:bQ} (h:ajA id v=true):v=.slf id:=by
 cases v with
 |slf i=>rw[aj h]
 |_=>simp[ajA]at h
theorem agO {id:Nat} {v:bQ} (h:ajz id v=true):v=.mpv id:=by
 cases v with
 |mpv i=>rw[aj h]
 |_=>simp[ajz]at h
theorem agS {id:Nat} {v:bQ} (h:ajB id v=true):v=.yld id:=by
 cases v with
 |yld i=>rw[aj h]
 |_=>simp[ajB]at h
theorem agP {id:Nat} {v:bQ} (h:adQ id v=true):v=.slc id 0 a7:=by
 cases v with
 |slc i k w=>
  simp only[adQ,af]at h;obtain rfl:i=id:=aj h.1;obtain rfl:k=0:=aj h.2.1
  grind
 |_=>simp[adQ]at h
theorem agQ {id off:Nat} {v:bQ} (h:isPtr id off v=true):v=.ptr id off:=by
 cases v with
 |ptr i o=>
  simp_all [isPtr]
 |_=>simp[isPtr]at h
def kC:(l:List FK)->List bQ->Option (FKs.den l).den
 |[],d=>match d with
  |[]=>a6 ()
  |_=>a7
 |.v t::l,d=>match d with
  |v::d=>match amw t v,kC l d with
   |some x,a6 y=>a6 (x,y)
   |_,_=>a7
  |[]=>a7
 |.u::l,d=>match d with
  |v::d=>bif isU v then kC l d else a7
  |[]=>a7
 |.slc id::l,d=>match d with
  |v::d=>bif adQ id v then kC l d else a7
  |[]=>a7
 |.ptr id g::l,d=>match d with
  |v::d=>bif isPtr id g v then kC l d else a7
  |[]=>a7
 |.nils::l,d=>match d with
  |v::d=>bif isNils v then kC l d else a7
  |[]=>a7
 |.nilp::l,d=>match d with
  |v::d=>bif YT v then kC l d else a7
  |[]=>a7
 |.e::l,d=>match d with
  |v::d=>bif isE v then kC l d else a7
  |[]=>a7
 |.fn f c::l,d=>match d with
  |v::d=>bif atg f c v then kC l d else a7
  |[]=>a7
 |.mfn f c::l,d=>match d with
  |v::d=>bif adN f c v then kC l d else a7
  |[]=>a7
 |.kb b::l,d=>match d with
  |v::d=>bif ayR b v then kC l d else a7
  |[]=>a7
 |.slf id::l,d=>match d with
  |v::d=>bif ajA id v then kC l d else a7
  |[]=>a7
 |.mpv id::l,d=>match d with
  |v::d=>bif ajz id v then kC l d else a7
  |[]=>a7
 |.yld id::l,d=>match d with
  |v::d=>bif ajB id v then kC l d else a7
  |[]=>a7
 |.cp t::l,d=>match d with
  |v::d=>match ax7 t v,kC l d with
   |some x,a6 y=>a6 (x,y)
   |_,_=>a7
  |[]=>a7
theorem iR: ∀(l:List FK) (fr:List bQ) (y:(FKs.den l).den),kC l fr=a6 y->fr=Vm l y
 |[],fr,y,h=>by
  simp only[kC]at h;split at h
  .rfl
  .cases h
 |.v t::l,fr,y,h=>by
  simp only[kC]at h;split at h
  .split at h
   .rename_i x g i j
    cases h;rw[aio i,iR l _ g j];rfl
   .cases h
  .cases h
 |.u::l,fr,y,h=>by
  simp only[kC]at h;split at h
  .rename_i v fr
   obtain⟨d,h⟩:isU v=true/\kC l fr=a6 y:=dG h;rw[ath d,iR l fr y h];rfl
  .cases h
 |.slc id::l,fr,y,h=>by
  simp only[kC]at h;split at h
  .rename_i v fr
   obtain⟨d,h⟩:adQ id v=true/\kC l fr=a6 y:=dG h;rw[agP d,iR l fr y h];rfl
  .cases h
 |.ptr id o::l,fr,y,h=>by
  simp only[kC]at h;split at h
  .rename_i v fr
   obtain⟨d,h⟩:isPtr id o v=true/\kC l fr=a6 y:=dG h;rw[agQ d,iR l fr y h];rfl
  .cases h
 |.nils::l,fr,y,h=>by
  simp only[kC]at h;split at h
  .rename_i v fr
   obtain⟨d,h⟩:isNils v=true/\kC l fr=a6 y:=dG h;rw[adP d,iR l fr y h];rfl
  .cases h
 |.nilp::l,fr,y,h=>by
  simp only[kC]at h;split at h
  .rename_i v fr
   obtain⟨d,h⟩:YT v=true/\kC l fr=a6 y:=dG h;rw[adO d,iR l fr y h];rfl
  .cases h
 |.e::l,fr,y,h=>by
  simp only[kC]at h;split at h
  .rename_i v fr
   obtain⟨d,h⟩:isE v=true/\kC l fr=a6 y:=dG h;rw[atf d,iR l fr y h];rfl
  .cases h
 |.fn f c::l,fr,y,h=>by
  simp only[kC]at h;split at h
  .rename_i v fr
   obtain⟨d,h⟩:atg f c v=true/\kC l fr=a6 y:=dG h;rw[an3 d,iR l fr y h];rfl
  .cases h
 |.mfn f c::l,fr,y,h=>by
  simp only[kC]at h;split at h
  .rename_i v fr
   obtain⟨d,h⟩:adN f c v=true/\kC l fr=a6 y:=dG h;rw[agN d,iR l fr y h];rfl
  .cases h
 |.kb b::l,fr,y,h=>by
  simp only[kC]at h;split at h
  .rename_i v fr
   obtain⟨d,h⟩:ayR b v=true/\kC l fr=a6 y:=dG h;rw[an4 d,iR l fr y h];rfl
  .cases h
 |.slf id::l,fr,y,h=>by
  simp only[kC]at h;split at h
  .rename_i v fr
   obtain⟨d,h⟩:ajA id v=true/\kC l fr=a6 y:=dG h;rw[agR d,iR l fr y h];rfl
  .cases h
 |.mpv id::l,fr,y,h=>by
  simp only[kC]at h;split at h
  .rename_i v fr
   obtain⟨d,h⟩:ajz id v=true/\kC l fr=a6 y:=dG h;rw[agO d,iR l fr y h];rfl
  .cases h
 |.yld id::l,fr,y,h=>by
  simp only[kC]at h;split at h
  .rename_i v fr
   obtain⟨d,h⟩:ajB id v=true/\kC l fr=a6 y:=dG h;rw[agS d,iR l fr y h];rfl
  .cases h
 |.cp t::l,fr,y,h=>by
  simp only[kC]at h;split at h
  .split at h
   .rename_i x g i j
    cases h;rw[amJ i,iR l _ g j];rfl
   .cases h
  .cases h
noncomputable def rfA (f:FuncId) (k:Nat):Code:=match rH f k with
 |some (a,_)=>a
 |none=>.skip
noncomputable def rfB (f:FuncId) (k:Nat):Code:=match rH f k with
 |some (_,b)=>b
 |none=>.skip
inductive HK where
 |arr (id:Nat) (e:Ty)
 |box (id:Nat) (t:TypeId) (cs:List FK)
 |mp (id:Nat) (kk vk:IntKind)
 |lp (id:Nat) (f:FuncId) (fr:List FK) (ps:List Nat) (key:Nat) (n:Nat) (p:Option Ex)
def HKs.den:List HK->Ty
 |[]=>.unit
 |.arr _ e::l=>.pair (.list e) (HKs.den l)
 |.mp _ kk d::l=>.pair (.list (.pair (.int kk) (.int d))) (HKs.den l)
 |.box _ _ cs::l=>.pair (FKs.den cs) (HKs.den l)
 |.lp _ _ fr _ _ _ _::l=>.pair (FKs.den fr) (HKs.den l)
noncomputable def mkH:(l:List HK)->(HKs.den l).den->gK
 |[],_=>[]
 |.arr id e::l,y=>(id,.arr e 0 y.1)::mkH l y.2
 |.mp id kk d::l,y=>(id,.mp kk d y.1)::mkH l y.2
 |.box id t cs::l,y=>(id,.box t (Vm cs y.1))::mkH l y.2
 |.lp id f fr ps key n p::l,y=>(id,.lp f (Vm fr y.1) ps (rfA f key) (rfB f key) (a6 key) n p)::mkH l y.2
def ais (e:Ty):dL->Option (List e.den)
 |.arr e' v xs=>bif Nat.beq v 0 then jD (.list e) (t':=.list e') xs else a7
 |_=>a7
def azW (d e:IntKind):dL->Option (List (Int×Int))
 |.mp k v f=>bif decide (k=d)&&decide (v=e)then a6 f else a7
 |_=>a7
theorem aok {d e:IntKind} {o:dL} {x:List (Int×Int)} (h:azW d e o=a6 x):o=.mp d e x:=by
 cases o with
 |mp k v f=>
  simp only[azW]at h
  grind
 |_=>simp[azW]at h
def aiw (t:TypeId) (cs:List FK):dL->Option (FKs.den cs).den
 |.box t' l=>bif Nat.beq t' t then kC cs l else a7
 |_=>a7
def aDG:Ex->Ex->Bool
 |.normal,.normal=>true
 |.exit i,.exit j=>Nat.beq i j
 |.goto i,.goto j=>Nat.beq i j
 |.ret,.ret=>true
 |_,_=>false
def avh:Option Ex->Option Ex->Bool
 |none,a7=>true
 |some a,a6 b=>aDG a b
 |_,_=>false
def MX:List Nat->List Nat->Bool
 |[],[]=>true
 |a::l,b::m=>Nat.beq a b&&MX l m
 |_,_=>false
theorem anI {a b:Ex} (h:aDG a b=true):a=b:=by
 cases a<;>cases b<;>simp only[aDG,ah]at h<;>first|rfl|simp_all
theorem ahX {a b:Option Ex} (h:avh a b=true):a=b:=by
 cases a<;>cases b<;>simp only[avh,ah]at h<;>first|rfl|rw[anI h]
theorem OT: ∀{l m:List Nat},MX l m=true->l=m
 |[],[],_=>rfl
 |a::l,b::m,h=>by
  simp only[MX,af]at h;rw[aj h.1,OT h.2]
 |[],_::_,h=>by simp[MX]at h
 |_::_,[],h=>by simp[MX]at h
def auj (f:FuncId) (fr:List FK) (d:List Nat) (key n:Nat) (p:Option Ex):dL->Option (FKs.den fr).den
 |.lp f' fr' ps' _ _ (a6 e) n' g=>bif Nat.beq f' f&&(MX ps' d&&(Nat.beq e key&&(Nat.beq n' n&&avh g p)))then kC fr fr' else a7
 |_=>a7
theorem afM {e:Ty} {o:dL} {x:List e.den} (h:ais e o=a6 x):o=.arr e 0 x:=by
 cases o with
 |arr e' v xs=>
  simp only[ais]at h;rw[cond_eq_ite]at h;split at h
  .rename_i d
   obtain rfl:v=0:=aj d
   grind [iy,fV]
  .cases h
 |_=>simp[ais]at h
theorem afT {t:TypeId} {cs:List FK} {o:dL} {x:(FKs.den cs).den} (h:aiw t cs o=a6 x):o=.box t (Vm cs x):=by
 cases o with
 |box t' l=>
  simp only[aiw]at h;obtain⟨d,h⟩:=dG h;rw[iR cs l x h,aj d]
 |_=>simp[aiw]at h
theorem aof {f:FuncId} {fr:List FK} {q:List Nat} {key n:Nat} {p:Option Ex} {o:dL} {x:(FKs.den fr).den} (v:WfO o) (h:auj f fr q key n p o=a6 x):o=.lp f (Vm fr x) q (rfA f key) (rfB f key) (a6 key) n p:=by
 cases o with
 |lp f' fr' ps' jo bd ky n' y=>
  cases ky with
  |none=>simp[auj]at h
  |some d=>
   simp only[auj]at h;replace h:=dG h;obtain⟨s,h⟩:=h;simp only[af]at s;obtain⟨e,g,i,j,l⟩:=s;have e:=aj e;have g:=OT g;have i:=aj i;have j:=aj j;have l:=ahX l;subst e g i j l;have u:rH f' d=a6 (jo,bd):=v;have z:rfA f' d=jo:=by unfold rfA;rw[u]
   have A:rfB f' d=bd:=by unfold rfB;rw[u]
   grind [iR]
 |_=>simp[auj]at h
def PE:(l:List HK)->gK->Option (HKs.den l).den
 |[],d=>match d with
  |[]=>a6 ()
  |_=>a7
 |.arr id e::l,d=>match d with
  |(j,o)::d=>bif Nat.beq j id then(match ais e o,PE l d with
   |some x,a6 y=>a6 (x,y)
   |_,_=>a7)else a7
  |[]=>a7
 |.mp id kk g::l,d=>match d with
  |(j,o)::d=>bif Nat.beq j id then(match azW kk g o,PE l d with
   |some x,a6 y=>a6 (x,y)
   |_,_=>a7)else a7
  |[]=>a7
 |.box id t cs::l,d=>match d with
  |(j,o)::d=>bif Nat.beq j id then(match aiw t cs o,PE l d with
   |some x,a6 y=>a6 (x,y)
   |_,_=>a7)else a7
  |[]=>a7
 |.lp id f fr ps key n p::l,d=>match d with
  |(j,o)::d=>bif Nat.beq j id then(match auj f fr ps key n p o,PE l d with
   |some x,a6 y=>a6 (x,y)
   |_,_=>a7)else a7
  |[]=>a7
theorem vY: ∀(l:List HK) (hp:gK) (y:(HKs.den l).den),(∀e∈hp,WfO e.2)->PE l hp=a6 y->hp=mkH l y
 |[],hp,y,_,h=>by
  simp only[PE]at h;split at h
  .rfl
  .cases h
 |.arr id e::l,hp,y,d,h=>by
  simp only[PE]at h;split at h
  .rw[cond_eq_ite]at h;split at h
   .rename_i g
    split at h
    .rename_i x i j o
     cases h;rw[afM j,vY l _ i (fun e q=>d e (ak _ q)) o,aj g];rfl
    .cases h
   .cases h
  .cases h
 |.mp id kk u::l,hp,y,d,h=>by
  simp only[PE]at h;split at h
  .rw[cond_eq_ite]at h;split at h
   .rename_i g
    split at h
    .rename_i x i j o
     cases h;rw[aok j,vY l _ i (fun e q=>d e (ak _ q)) o,aj g];rfl
    .cases h
   .cases h
  .cases h
 |.box id t cs::l,hp,y,d,h=>by
  simp only[PE]at h;split at h
  .rw[cond_eq_ite]at h;split at h
   .rename_i g
    split at h
    .rename_i x i j o
     cases h;rw[afT j,vY l _ i (fun e q=>d e (ak _ q)) o,aj g];rfl
    .cases h
   .cases h
  .cases h
 |.lp id f fr ps key n p::l,hp,y,d,h=>by
  simp only[PE]at h;split at h
  .rw[cond_eq_ite]at h;split at h
   .rename_i g
    split at h
    .rename_i x i j o
     cases h;have s:=d _ aF;dsimp only at s;rw[aof s j,vY l _ i (fun e q=>d e (ak _ q)) o,aj g];rfl
    .cases h
   .cases h
  .cases h
structure SP where
 fr:List FK
 hp:List HK
def SP.den (p:SP):Type:=(FKs.den p.fr).den×(HKs.den p.hp).den
noncomputable def lw (p:SP) (y:p.den):St:=⟨Vm p.fr y.1,[[]],mkH p.hp y.2,0⟩
def as3 (p:SP) (st:St):Option p.den:=
 match st.stk,st.nxt with
 |[[]],0=>match kC p.fr st.fr,PE p.hp st.hp with
  |some x,a6 y=>bif sZ st.hp then a6 (x,y)else a7
  |_,_=>a7
 |_,_=>a7
theorem S9 {p:SP} {st:St} {y:p.den} (d:WfH st.hp) (h:as3 p st=a6 y):st=lw p y:=by
 obtain⟨l,o,hp,q⟩:=st;unfold as3 at h;split at h
 .rename_i e f
  subst e f;split at h
  .rename_i x s g i
   replace h:=dG h;obtain⟨j,h⟩:=h;cases h;have u:=iR _ _ _ g;have v:=vY _ _ _ (N9 _ j d) i;simp_all [lw]
  .cases h
 .cases h
def Ap {R:Type} (E:Env) (d:Nat) (f:FuncId) (c:Code):St->(Ex->St->Option R)->Option R:=run (E.at d) (kX E d) (We E d) f c
noncomputable def fJ (k:eQ) (l d e:SP) (g:Ex) (h:l.den->Option (d.den⊕e.den)) (f:Nat:=0) (i:Ex:=.ret):dE:={
 V:=l.den
 A:=fun _=>d.den
 B:=fun _=>e.den
 get:=fun st=>match Lt k.slots k.owns st with
  |some st=>as3 l st
  |none=>a7
 spec:=h
 exA:=fun _=>g
 stA:=fun _ _ a=>lw d a
 stB:=fun _ _ b=>lw e b
 dep:=f
 exB:=fun _=>i}
theorem aod {E:Env} {f:FuncId} {c:Code} {k:eQ} {l g i:SP} {q:Ex} {j:l.den->Option (g.den⊕i.den)} {s:Nat} {u:Ex} (hk:E.kp f (dH c)=a6 k)
  (h: ∀(R:Type) (d:Nat) (K:Ex->St->Option R) (v:l.den) o,j v=a6 o->
   ∃m,iter (a6 k) (Ap E (d+s) f c) m (lw l v) K=dN o (fun a=>K q (lw g a)) fun b=>K u (lw i b)):dQ E f c (fJ k l g i q j s u):=by
 intro R d r st v K z p hr;simp only[fJ]at p;split at p
 .rename_i B x
  have e:=S9 (z _ _ _ x) p;subst e;simp only[fJ]at hr;cases ho:j v with
  |none=>rw[ho]at hr;cases hr
  |some o=>
   rw[ho]at hr;obtain⟨m,A⟩:=h R d K v o ho;have y:(E.at (d+(fJ k l g i q j s u).dep)).kp f (dH c)=a6 k:=hk;refine⟨m,lw l v,by rw[y];exact x, ?_⟩;rw[y];exact A.trans hr
 .cases p
theorem Jr {E:Env} {f:FuncId} {c:Code} {k:eQ} {l g i:SP} {q:Ex} {j:l.den->Option (g.den⊕i.den)} {s:Nat} {u:Ex} (hk:E.kp f (800000+dH c)=a6 k)
  (h: ∀(R:Type) (d:Nat) (K:Ex->St->Option R) (v:l.den) o,j v=a6 o->
   ∃m,iter (a6 k) (Du (Ap E (d+s) f c)) m (lw l v) K=dN o (fun a=>K q (lw g a)) fun b=>K u (lw i b)):zD E f c (fJ k l g i q j s u):=by
 intro R d r st v K z p hr;simp only[fJ]at p;split at p
 .rename_i B x
  have e:=S9 (z _ _ _ x) p;subst e;simp only[fJ]at hr;cases ho:j v with
  |none=>rw[ho]at hr;cases hr
  |some o=>
   rw[ho]at hr;obtain⟨m,A⟩:=h R d K v o ho;have y:(E.at (d+(fJ k l g i q j s u).dep)).kp f (800000+dH c)=a6 k:=hk;refine⟨m,lw l v,by rw[y];exact x, ?_⟩;rw[y];exact A.trans hr
 .cases p
def FKss.den:List (List FK)->Type
 |[]=>Unit
 |l::d=>(FKs.den l).den×FKss.den d
def mkK:(l:List (List FK))->FKss.den l->List (List bQ)
 |[],_=>[]
 |l::d,y=>Vm l y.1::mkK d y.2
def as2:(l:List (List FK))->List (List bQ)->Option (FKss.den l)
 |[],st=>match st with
  |[]=>a6 ()
  |_=>a7
 |l::d,st=>match st with
  |e::st=>match kC l e,as2 d st with
   |some x,a6 y=>a6 (x,y)
   |_,_=>a7
  |[]=>a7
theorem WB: ∀(l:List (List FK)) (st:List (List bQ)) (y:FKss.den l),as2 l st=a6 y->st=mkK l y
 |[],st,y,h=>by
  simp only[as2]at h;split at h
  .rfl
  .cases h
 |l::d,st,y,h=>by
  simp only[as2]at h;split at h
  .split at h
   .rename_i x e f g
    cases h;rw[iR _ _ _ f,WB d _ e g];rfl
   .cases h
  .cases h
structure SQ where
 fr:List FK
 stk:List (List FK)
 hp:List HK
def SQ.den (p:SQ):Type:=(FKs.den p.fr).den×(FKss.den p.stk×(HKs.den p.hp).den)
noncomputable def mY (p:SQ) (y:p.den):St:=⟨Vm p.fr y.1,mkK p.stk y.2.1,mkH p.hp y.2.2,0⟩
def agM (p:SQ) (st:St):Option p.den:=
 match st.nxt with
 |0=>match kC p.fr st.fr,as2 p.stk st.stk,PE p.hp st.hp with
  |some x,a6 k,a6 y=>bif sZ st.hp then a6 (x,k,y)else a7
  |_,_,_=>a7
 |_=>a7
theorem Ot {p:SQ} {st:St} {y:p.den} (d:WfH st.hp) (h:agM p st=a6 y):st=mY p y:=by
 obtain⟨j,l,hp,o⟩:=st;unfold agM at h;split at h
 .rename_i e
  subst e;split at h
  .rename_i x k q f hk g
   replace h:=dG h;obtain⟨i,h⟩:=h;cases h;have s:=iR _ _ _ f;have u:=vY _ _ _ (N9 _ i d) g
   grind [WB,mY]
  .cases h
 .cases h
noncomputable def fF (k:eQ) (l d e:SQ) (g:Ex) (h:l.den->Option (d.den⊕e.den)) (f:Nat:=0) (i:Ex:=.ret):dE:={
 V:=l.den
 A:=fun _=>d.den
 B:=fun _=>e.den
 get:=fun st=>match Lt k.slots k.owns st with
  |some st=>agM l st
  |none=>a7
 spec:=h
 exA:=fun _=>g
 stA:=fun _ _ a=>mY d a
 stB:=fun _ _ b=>mY e b
 dep:=f
 exB:=fun _=>i}
theorem ag5 {E:Env} {f:FuncId} {c:Code} {k:eQ} {l g i:SQ} {q:Ex} {j:l.den->Option (g.den⊕i.den)} {s:Nat} {u:Ex} (hk:E.kp f (dH c)=a6 k)
  (h: ∀(R:Type) (d:Nat) (K:Ex->St->Option R) (v:l.den) o,j v=a6 o->
   ∃m,iter (a6 k) (Ap E (d+s) f c) m (mY l v) K=dN o (fun a=>K q (mY g a)) fun b=>K u (mY i b)):dQ E f c (fF k l g i q j s u):=by
 intro R d r st v K z p hr;simp only[fF]at p;split at p
 .rename_i B x
  have e:=Ot (z _ _ _ x) p;subst e;simp only[fF]at hr;cases ho:j v with
  |none=>rw[ho]at hr;cases hr
  |some o=>
   rw[ho]at hr;obtain⟨m,A⟩:=h R d K v o ho;have y:(E.at (d+(fF k l g i q j s u).dep)).kp f (dH c)=a6 k:=hk;refine⟨m,mY l v,by rw[y];exact x, ?_⟩;rw[y];exact A.trans hr
 .cases p
theorem amK {E:Env} {f:FuncId} {c:Code} {k:eQ} {l g i:SQ} {q:Ex} {j:l.den->Option (g.den⊕i.den)} {s:Nat} {u:Ex} (hk:E.kp f (800000+dH c)=a6 k)
  (h: ∀(R:Type) (d:Nat) (K:Ex->St->Option R) (v:l.den) o,j v=a6 o->
   ∃m,iter (a6 k) (Du (Ap E (d+s) f c)) m (mY l v) K=dN o (fun a=>K q (mY g a)) fun b=>K u (mY i b)):zD E f c (fF k l g i q j s u):=by
 intro R d r st v K z p hr;simp only[fF]at p;split at p
 .rename_i B x
  have e:=Ot (z _ _ _ x) p;subst e;simp only[fF]at hr;cases ho:j v with
  |none=>rw[ho]at hr;cases hr
  |some o=>
   rw[ho]at hr;obtain⟨m,A⟩:=h R d K v o ho;have y:(E.at (d+(fF k l g i q j s u).dep)).kp f (800000+dH c)=a6 k:=hk;refine⟨m,mY l v,by rw[y];exact x, ?_⟩;rw[y];exact A.trans hr
 .cases p
def nI (L M:dE):dE:={
 V:=L.V⊕M.V
 A:=fun v=>match v with|.inl v=>L.A v|.inr v=>M.A v
 B:=fun v=>match v with|.inl v=>L.B v|.inr v=>M.B v
 get:=fun st=>match L.get st with
  |some v=>a6 (.inl v)
  |none=>match M.get st with
   |some v=>a6 (.inr v)
   |none=>a7
 spec:=fun v=>match v with|.inl v=>L.spec v|.inr v=>M.spec v
 exA:=fun v=>match v with|.inl v=>L.exA v|.inr v=>M.exA v
 stA:=fun st v=>match v with|.inl v=>L.stA st v|.inr v=>M.stA st v
 stB:=fun st v=>match v with|.inl v=>L.stB st v|.inr v=>M.stB st v
 dep:=L.dep+M.dep
 exB:=fun v=>match v with|.inl v=>L.exB v|.inr v=>M.exB v}
theorem rX {E:Env} {f:FuncId} {c:Code} {L M:dE} (j:dQ E f c L) (h2:dQ E f c M):dQ E f c (nI L M):=fun R m r st v K i d hr=>by
 simp only[nI]at d;split at d
 .rename_i g h
  cases d;have e:m+(nI L M).dep=(m+M.dep)+L.dep:=by show m+(L.dep+M.dep)=_;omega
  rw[e];exact j R _ r st g K i h hr
 .split at d
  .rename_i g h
   cases d;have e:m+(nI L M).dep=(m+L.dep)+M.dep:=by show m+(L.dep+M.dep)=_;omega
   rw[e];exact h2 R _ r st g K i h hr
  .cases d
end
end Go.Proofs.YtlhpdcadgbjhiaaGreatDoor
