/- Parts of the proof, joined and shortened by a program: the plain machine, the functions as it prints them, and the mathematics over them. -/
import Derived.Stop.Looks
import Derived.RangeFuncNested
import Derived.RangeFuncRecord
import Derived.Sort.LoopGhostIn
import Derived.Laws.Externs
import Derived.Lib.Bytealg
import Derived.Test.YtlhpdcadgbjhiaaGreatDoorZ1
set_option linter.unusedVariables false
set_option linter.unusedSimpArgs false
set_option maxRecDepth 100000
set_option maxHeartbeats 4000000
namespace Go.Proofs.YtlhpdcadgbjhiaaGreatDoor
section
open Option renaming some → a6, none → a7
open Bool renaming and_eq_true → af
open List renaming mem_append_right → bn, mem_append_left → bF, eq_nil_of_length_eq_zero → bG
open Nat renaming le_refl → ae, eq_of_beq_eq_true → ah
open Go.RowKit
section
variable {P:Program} {T:TT} {W0:World} {b0 n:Nat} {rd:Option Nat} {c:Cx} {R:Type} {r:R} {st:St} {a:Act} {ats:List (Array Value)}
theorem aCB {n lo hi:Int} (h:fH n lo hi=true):0<=lo/\lo<=hi/\hi<=n:=by
 simp_all [fH]
theorem OV (hr:iM W0 b0 rd c st a ats) {s:Nat} {t:Ty} {E:St} (h:xQ s t st=a6 E): ∃c',iM W0 b0 rd c' E a ats/\c.Mono c'/\c'.w=c.w:=by
 have i: ∀j:s<a.tmps.toList.length,bW c (st.fr.getD s .undef) a.tmps.toList[s]:=fun j=>by
  have:=hr.fr.getD s;rwa [Array.getD,dif_pos (by simpa using j)]at this
 obtain⟨O,G,S,x⟩:=st;simp only[xQ]at h;split at h
 .rename_i z
  simp only at i;rw[z]at i;split at h
  .cases h
  .rename_i d
   rw[cond_eq_ite]at h;split at h
   .rename_i f
    cases h;simp only[af]at f;have A:x<=1000000*G.length+800000+s:=by simp_all
    have B:0<t.size:=by simp_all
    obtain⟨c',hd,U,p⟩:=qm hr.ok (st:=⟨O,G,S,x⟩) hr.hp hr.nxt d A (ae x) (y:=t) B (xs:=[]) (v:=.slice a7 0 0) (w:=c.w) (Below.refl _ _) mP [] ⟨by simp,.inl ⟨rfl,rfl⟩⟩ (by simp[fQ]) rfl (fun _=>rfl);have g:=hr.did hd;refine⟨c',⟨g.hp,g.nxt,g.ok,bK.setL _ _ _ g.fr fun j=> ?_,g.stk,g.df,g.rd⟩,hd.le.mono,U⟩
    grind [bW]
   .cases h
 .rename_i id V vw z
  simp only at i;rw[z]at i;split at h
  .rename_i u w xs d
   rw[cond_eq_ite]at h;split at h
   .rename_i D
    have D:w=V:=by simpa using D
    subst D;split at h
    .cases h;exact⟨c,hr,Cx.Mono.refl c,rfl⟩
    .rename_i lo l
     rw[cond_eq_ite]at h;split at h
     .rename_i f
      cases h;simp only[beq_iff_eq]at f;subst f;have I:=hr.hp;simp only at I;subst I;have W:=hr.ok.obj id _ d;obtain⟨X,e,Y,J,o,Z⟩:=W;by_cases j:s<a.tmps.toList.length
      .have p:=i j;simp only[bW]at p;have K:=(p.2.2 _ _ _ d).2 rfl;have⟨ab,ad⟩:0<=l/\l<=bM xs:=by
        obtain⟨a1,n1,c1,M,_,p2,p3,_⟩:=K;obtain⟨a2,c2,e2,_⟩:=qE J;rw[e2]at M;cases M;exact⟨p2,p3⟩
       obtain⟨aj,N⟩:=Ho J ab ad K;have hk:(dM.arr u w xs).like (c.mu id) (.arr u (w+1) (xs.take l.toNat)) ⟨(c.mu id).blk,a.tmps.toList[s]⟩:=⟨by omega,fun e=>by omega⟩;have q:=Cx.Le.put (w:=c.w) hr.ok d hk (ae _) (fun _ _ _=>rfl) (fun b f=>.inl (N b f)) (fun b L _ o=>⟨L,o⟩);have ag:=Cx.Ok.put (w:=c.w) hr.ok d hk hr.ok.bel (ae _) (fun _ _ _=>rfl) (fun b f=>.inl (N b f)) (fun b L _ o=>⟨L,o⟩) (by
        refine⟨X,e,Y.take (l.toNat*u.size), ?_,fQ.take _ _ _ (fQ.mono (eY.mono q.free u) _ _ o),Z⟩;simp_all [bM,Cx.put,upd_same])
       refine⟨c.put id (dM.arr u (w+1) (List.take l.toNat xs)) ⟨(c.mu id).blk,a.tmps.toList[s]⟩ c.w,⟨rfl,hr.nxt,ag,bK.setL _ _ _ (bK.le q _ _ hr.fr) fun _=> ?_,Dh.le q _ _ hr.stk, ?_, ?_⟩,q.mono,rfl⟩
       .simp only[bW];refine⟨p.1,.inl ⟨_,Cx.put_get d⟩,fun t' u' ak ai=> ?_⟩;rw[Cx.put_get d]at ai;simp_all [ja,Cx.put,upd_same]
       .obtain⟨ds,A,B,h3⟩:=hr.df;exact⟨ds,A,B,h3⟩
       .exact hr.rd
      .exfalso;have hl:=bK.length _ _ hr.fr;simp_all
     .cases h
   .cases h
  .cases h
 .cases h
theorem JQ (hr:iM W0 b0 rd c st a ats) {s:Nat} {t:Ty} {D:St} (h:DV s t st=a6 D): ∃c',iM W0 b0 rd c' D a ats/\c.Mono c'/\c'.w=c.w:=by
 have E: ∀d:s<a.tmps.toList.length,bW c (st.fr.getD s .undef) a.tmps.toList[s]:=fun d=>by
  have:=hr.fr.getD s;rwa [Array.getD,dif_pos (by simpa using d)]at this
 have ad: ∀(q: ∀d:s<a.tmps.toList.length,∃A,a.tmps.toList[s]=.slice A 0 0),∃c',iM W0 b0 rd c' {st with fr:=st.fr.set s (.val (.list t) [])} a ats/\c.Mono c'/\c'.w=c.w:=fun q=>
  ⟨c,⟨hr.hp,hr.nxt,hr.ok,bK.setL _ _ _ hr.fr fun d=>by
   obtain⟨A,U⟩:=q d;rw[U];simp only[bW];exact(VD.leaf rfl).2 ⟨A,0,[],rfl,ae _,rfl,.inl rfl⟩,hr.stk,hr.df,hr.rd⟩,Cx.Mono.refl c,rfl⟩
 unfold DV at h;split at h
 .simp_all [bW]
 .simp_all [bW]
 .rename_i id ag G
  rw[G]at E;split at h
  .rename_i u w xs v
   replace h:=dG h;obtain⟨y,h⟩:=h;simp only[af,beq_iff_eq]at y;obtain⟨rfl,I⟩:=y;cases h;obtain⟨B,V,J,W⟩:=st;have K:=hr.hp;simp only at K v I G;subst K;have X:bK c (B.set s .undef) a.tmps.toList:=bK.setL _ _ _ hr.fr fun _=>by simp[bW]
   have hk:=Cx.keeps_filter (c:=c) (p:=fun i=> !Nat.beq i id) (tN I);have Y:=hr.ok.filter (p:=fun i=> !Nat.beq i id) hk.right;have f:iM W0 b0 rd {c with hp:=c.hp.filter fun e=> !Nat.beq e.1 id} ⟨B.set s .undef,V,c.hp.filter fun e=> !Nat.beq e.1 id,W⟩ a ats:=
    ⟨rfl,hr.nxt,Y,bK.keeps _ _ hk.left.left X,Dh.keeps _ _ hk.left.right hr.stk,hr.df,hr.rd⟩
   refine⟨{c with hp:=c.hp.filter fun e=> !Nat.beq e.1 id},⟨rfl,f.nxt,f.ok, ?_,f.stk,f.df,f.rd⟩,⟨fun _ h=>h,fun b L h=>⟨L,h⟩,ae _,rfl,Uc c fun i=> !Nat.beq i id⟩,rfl⟩;have iU:=bK.setL (z:=.val (.list u) xs) s _ _ f.fr fun d=>by
    have q:=E d;simp only[bW]at q ⊢;have M:=(q.2.2 _ _ _ v).2 rfl;simp only[ja]at M;obtain⟨ai,e,Z,N,hL,aj⟩:=hr.ok.obj id _ v;rw[M];have ab:=fQ.mono (eY.mono hk.free u) _ _ hL;rcases N.2 with ⟨l,O⟩|⟨g,ak,al,l,O,e3,e4,e5,e6,e7⟩
    .have hx:xs=[]:=bG O;subst hx;rw[l];exact(VD.leaf rfl).2 ⟨a7,0,[],rfl,ae _,rfl,.inl rfl⟩
    .obtain⟨a2,an,S,f2,f3⟩:=Gh N;rw[l]at S;cases S;rw[l];refine(VD.leaf rfl).2 ⟨_,_,Z,rfl,e4,ab,f3.imp (fun h=>h) fun⟨g',q1,q2,q4,q3⟩=> ?_⟩;cases q1;refine⟨g,0,rfl,⟨q2, ?_, ?_,fun y=>(hr.ok.bar _ y).2.1 ⟨id,_,v,by simp[dM.blk,l,Value.ownBlock]⟩⟩,q3⟩
     .rintro ⟨j,o,x,h2⟩;simp only at x;rw[jW (fun i=> !Nat.beq i id)]at x;split at x
      .rename_i hj
       have:=hr.ok.inj j id o _ g x v h2 (by simp[dM.blk,l,Value.ownBlock]);simp_all
      .cases x
     .intro hm;obtain⟨_,hd⟩:=hr.ok.mks g hm;simp_all
   simp_all
  .cases h
 .cases h
 .cases h;exact⟨c,hr,Cx.Mono.refl c,rfl⟩
theorem ZI (hr:iM W0 b0 rd c st a ats) {id off:Nat} {t:Ty} {q:St} (h:Ud id off t st=a6 q): ∃c',iM W0 b0 rd c' q a ats/\c.Mono c'/\c'.w=c.w:=by
 have same:a6 st=a6 q-> ∃c',iM W0 b0 rd c' q a ats/\c.Mono c'/\c'.w=c.w:=fun h=>by cases h;exact⟨c,hr,Cx.Mono.refl c,rfl⟩
 obtain⟨N,O,S,u⟩:=st;simp only[Ud]at h;split at h
 .rename_i g cs U
  split at h
  .rename_i J
   split at h
   .rename_i K
    cases h;have j:dQ c.hp id=a6 (.box g cs):=by rw[hr.hp];exact U
    obtain⟨x,us,z,s,A⟩:=hr.ok.obj id _ j;have M: ∀l:off<us.toList.length,us.toList[off]=.slice a7 0 0:=fun l=>by
     have:=bK.getD s off;rw[J,Array.getD,dif_pos (by simpa using l)]at this
     assumption
    have p:(dM.box g cs).like (c.mu id) (.box g (cs.set off (.val (.list K) []))) (c.mu id):=rfl;have i:=Cx.Le.put (w:=c.w) hr.ok j p (ae _) (fun _ _ _=>rfl) (fun b d=>.inl d) (fun b L _ o=>⟨L,o⟩);have B:=Cx.Ok.put (w:=c.w) hr.ok j p hr.ok.bel (ae _) (fun _ _ _=>rfl) (fun b d=>.inl d) (fun b L _ o=>⟨L,o⟩) (by
     refine⟨by simp only[Cx.put,upd_same];exact x,us,by simp only[Cx.put,upd_same];exact z, ?_,A⟩;exact bK.le i _ _ (bK.setL off _ _ s fun l=>by
      rw[M l];simp only[bW];exact(VD.leaf rfl).2 ⟨a7,0,[],rfl,ae _,rfl,.inl rfl⟩))
    refine⟨c.put id (.box g (cs.set off (.val (.list K) []))) (c.mu id) c.w,⟨?_,hr.nxt,B,bK.le i _ _ hr.fr,Dh.le i _ _ hr.stk, ?_, ?_⟩,i.mono,rfl⟩
    .simp only[Cx.put];rw[hr.hp]
    .obtain⟨D,E,G,I⟩:=hr.df;exact⟨D,E,G,I⟩
    .exact hr.rd
   generalize id+500000+2000*off=nm at h;split at h
   .cases h
   .rename_i V
    rw[cond_eq_ite]at h;split at h
    .rename_i d
     cases h;simp only[af]at d;have W:u<=nm:=by simpa [Nat.ble_eq] using d.1
     have X:0<t.size:=by have:=d.2;simp[Nat.blt]at this;omega
     have Z:nm≠id:=fun e=>by simp_all
     obtain⟨c',hd,Y,hv⟩:=qm hr.ok (st:=⟨N,O,S,u⟩) hr.hp hr.nxt V W (ae u) (y:=t) X (xs:=[]) (v:=.slice a7 0 0) (w:=c.w) (Below.refl _ _) mP [] ⟨by simp,.inl ⟨rfl,rfl⟩⟩ (by simp[fQ]) rfl (fun _=>rfl);have f:=hr.did hd;have j:dQ c'.hp id=a6 (.box g cs):=by
      rw[hd.hp];simp only[eG]
      grind
     obtain⟨x,us,z,s,A⟩:=f.ok.obj id _ j;have M: ∀l:off<us.toList.length,us.toList[off]=.slice a7 0 0:=fun l=>by
      have:=bK.getD s off;rw[J,Array.getD,dif_pos (by simpa using l)]at this
      assumption
     have p:(dM.box g cs).like (c'.mu id) (.box g (cs.set off (.slc nm 0 a7))) (c'.mu id):=rfl;have i:=Cx.Le.put (w:=c'.w) f.ok j p (ae _) (fun _ _ _=>rfl) (fun b d=>.inl d) (fun b L _ o=>⟨L,o⟩);have B:=Cx.Ok.put (w:=c'.w) f.ok j p f.ok.bel (ae _) (fun _ _ _=>rfl) (fun b d=>.inl d) (fun b L _ o=>⟨L,o⟩) (by
      refine⟨by simp only[Cx.put,upd_same];exact x,us,by simp only[Cx.put,upd_same];exact z, ?_,A⟩
      grind [bK.le,bK.setL])
     refine⟨c'.put id (.box g (cs.set off (.slc nm 0 a7))) (c'.mu id) c'.w,⟨?_,f.nxt,B,bK.le i _ _ f.fr,Dh.le i _ _ f.stk, ?_, ?_⟩,hd.le.mono.trans i.mono,Y⟩
     .simp only[Cx.put];rw[hd.hp]
     .obtain⟨D,E,G,I⟩:=f.df;exact⟨D,E,G,I⟩
     .exact f.rd
    .cases h
  .exact same h
 .exact same h
theorem WR (k:Nat) (o:dM) (i:Nat): ∀h:gQ,dQ (atz k o h) i=if k=i then a6 o else dQ h i
 |[]=>by simp[atz,eG]
 |(j,p)::h=>by
  simp only[atz];rw[cond_eq_ite];split
  .rw[eG]
  .rename_i d
   have f:j≠k:=fun e=>d (by simp_all);rw[eG,WR k o i h,eG]
   grind
theorem wM (i:Nat): ∀h:gQ,dQ (lu h) i=dQ h i
 |[]=>rfl
 |(k,o)::h=>by simp only[lu];rw[WR,wM i h,eG]
theorem iM.sorted (hr:iM W0 b0 rd c st a ats): ∃c',iM W0 b0 rd c' {st with hp:=lu st.hp} a ats/\c.Mono c'/\c'.w=c.w:=by
 have f: ∀i,dQ (lu c.hp) i=dQ c.hp i:=fun i=>wM i _;have q: ∀(o:dM) (l:Loc),o.like l o l:=fun o l=>by
  cases o<;>simp[dM.like]
 have d:c.Le {c with hp:=lu c.hp}:=by
  refine⟨fun b e=>⟨⟨e.1,fun⟨j,o,s,g⟩=>e.2.1 ⟨j,o,by simp_all,g⟩,e.2.2⟩,rfl⟩,fun id hk=> ?_,fun id u _ h=>⟨u,by rw[<-f];exact h,q _ _⟩,fun _ h=>h,fun b L h=>⟨L,h⟩,ae _,rfl⟩;rcases hk with ⟨o,h⟩|h
  .exact .inl ⟨o,by simp_all⟩
  .exact .inr h
 have v:({c with hp:=lu c.hp}:Cx).Ok W0:=by
  refine⟨hr.ok.bel,fun id o h=> ?_,fun i j o p b s g=>hr.ok.inj i j o p b (by simp_all) (by simp_all),hr.ok.mks,fun b e=>(d.out b (hr.ok.bar b e)).1,hr.ok.phi⟩;exact(hr.ok.obj id o (by rw[<-f];exact h)).le d rfl fun b _=>rfl
 exact⟨{c with hp:=lu c.hp},⟨by show lu c.hp=lu st.hp;rw[hr.hp],hr.nxt,v,bK.le d _ _ hr.fr,Dh.le d _ _ hr.stk,hr.df,hr.rd⟩,d.mono,rfl⟩
theorem ae3 (hr:iM W0 b0 rd c st a ats) {id off:Nat} {t:Ty} {d:St} (h:PW id off t st=a6 d): ∃c',iM W0 b0 rd c' d a ats/\c.Mono c'/\c'.w=c.w:=by
 simp only[PW]at h;split at h
 .rename_i q e
  cases h;obtain⟨s,f,g,i⟩:=ZI hr e;obtain⟨j,l,o,p⟩:=f.sorted;exact⟨j,l,g.trans o,p.trans i⟩
 .cases h
theorem ais (hr:iM W0 b0 rd c st a ats) {s id N:Nat} {u:TypeId} {xs:List bU} (hn:st.fr.getD s .undef=.ptr id 0) (K:dQ st.hp id=a6 (.box u xs)) (aF:id≠N)
  (ab:st.nxt.ble N=true) (ad:Eg [id,N] (lq (st.fr.set s .undef)++qZ st.stk++(lq xs++wS (st.hp.filter fun e=> !(Nat.beq e.1 id||Nat.beq e.1 N))))=true):
  ∃c',iM W0 b0 rd c' {st with fr:=st.fr.set s (.ptr N 0),hp:=lu ((N,.box u xs)::st.hp.filter fun e=> !(Nat.beq e.1 id||Nat.beq e.1 N))} a ats/\c.Mono c'/\c'.w=c.w:=by
 have au: ∀U:s<a.tmps.toList.length,bW c (.ptr id 0) a.tmps.toList[s]:=fun U=>by
  have:=hr.fr.getD s;rw[hn]at this;rwa [Array.getD,dif_pos (by simpa using U)]at this
 obtain⟨fr,stk,hp,nxt⟩:=st;have ag:=hr.hp;have ai:=hr.nxt;simp only at ag K ad hn ab ai;subst ag;subst ai;have ab:c.nxt<=N:=by simp_all
 have X: ∀i∈lq (fr.set s .undef)++qZ stk++(lq xs++wS (c.hp.filter fun e=> !(Nat.beq e.1 id||Nat.beq e.1 N))),i≠id/\i≠N:=fun i A=>by
  have:=tN ad i A;simp_all
 have V: ∀i,dQ (lu ((N,.box u xs)::c.hp.filter fun e=> !(Nat.beq e.1 id||Nat.beq e.1 N))) i=if N=i then a6 (.box u xs)else if i=id then a7 else dQ c.hp i:=fun i=>by
  rw[wM,eG];split
  .rfl
  .rename_i av
   rw[jW (fun i=> !(Nat.beq i id||Nat.beq i N))];have d:Nat.beq i N=false:=Bool.eq_false_iff.2 fun h=>av (ah h).symm;simp_all [Bool.eq_false_iff]
 generalize hH:lu ((N,.box u xs)::c.hp.filter fun e=> !(Nat.beq e.1 id||Nat.beq e.1 N))=H at*;generalize E:({c with mu:=Go.Proofs.YtlhpdcadgbjhiaaGreatDoor.upd c.mu N (c.mu id),hp:=H}:Cx)=c2;have M:c2.hp=H:=by rw[<-E]
 have B:c2.w=c.w:=by rw[<-E]
 have aj:c2.nxt=c.nxt:=by rw[<-E]
 have W:c2.mks=c.mks:=by rw[<-E]
 have ak:c2.bar=c.bar:=by rw[<-E]
 have O:c2.mu N=c.mu id:=by rw[<-E];exact upd_same ..
 have J: ∀i,i≠N->c2.mu i=c.mu i:=fun i A=>by rw[<-E];simp[Go.Proofs.YtlhpdcadgbjhiaaGreatDoor.upd,A]
 have al: ∀b,(∃i o,dQ c2.hp i=a6 o/\o.blk (c2.mu i)=a6 b)-> ∃i o,dQ c.hp i=a6 o/\o.blk (c.mu i)=a6 b:=fun b ⟨i,o,d,g⟩=>by
  grind
 have an: ∀b,c.out b->c2.out b:=fun b D=>⟨by rw[B];exact D.1,fun h=>D.2.1 (al b h),by rw[W];exact D.2.2⟩;have aw: ∀b,c.free b->c2.free b/\c2.w.heap[b]? =c.w.heap[b]? :=fun b D=>⟨⟨by rw[B];exact D.1,fun h=>D.2.1 (al b h),by rw[W,ak];exact D.2.2⟩,by rw[B]⟩;have keeps: ∀l:List Nat,(∀i∈l,i≠id/\i≠N)->c.Keeps c2 l:=fun l hl=>by
  refine⟨aw,fun i A hk=> ?_,fun i A o' x=> ?_⟩
  .rcases hk with ⟨o,x⟩|hk
   .left
    grind
   .right;rw[aj];exact hk
  .rw[M,V,aq (fun e=>(hl i A).2 e.symm),aq (hl i A).1]at x;refine⟨o',x, ?_⟩;rw[J i (hl i A).2];exact o'.like_refl _
 have ax: ∀i o,i≠id->i≠N->dQ c.hp i=a6 o->(i,o)∈c.hp.filter fun e=> !(Nat.beq e.1 id||Nat.beq e.1 N):=fun i o A ay x=>List.mem_filter.2 ⟨wL _ _ _ x,by
  have d:Nat.beq i N=false:=Bool.eq_false_iff.2 fun h=>ay (ah h);have g:Nat.beq i id=false:=Bool.eq_false_iff.2 fun h=>A (ah h);simp_all⟩
 have az:c2.Ok W0:=by
  refine⟨by rw[B];exact hr.ok.bel,fun i o x=> ?_,fun i j o q b d g v y=> ?_,fun r aG=>by rw[B];exact hr.ok.mks r (by simp_all),fun b D=>an b (hr.ok.bar b (by simp_all)),hr.ok.phi⟩
  .rw[M,V]at x;split at x
   .rename_i e;subst e;cases x
    obtain⟨d,Y,g,v,y⟩:=hr.ok.obj id _ K;exact⟨by rw[O];exact d,Y,by rw[B,O];exact g,bK.keeps _ _ (keeps _ fun j Z=>X j (bn _ (bF _ Z))) v,y⟩
   .rename_i e
    split at x
    .cases x
    .rename_i G
     have I:=hr.ok.obj i o x;have hm:=ax i o G (fun q=>e q.symm) x;have hk:=fun j Z=>X j (bn _ (bn _ (Aj _ _ hm j Z)));have ao:=J i (fun q=>e q.symm);cases o with
     |box e cs=>
      obtain⟨d,Y,g,v,y⟩:=I;refine⟨by rw[ao];exact d,Y,by simp_all,bK.keeps _ _ (keeps _ hk) v,y⟩
     |arr t ver xs=>
      obtain⟨I,e,zs,d,g,v⟩:=I;refine⟨I,e,zs,by simp_all, ?_,v⟩
      grind [fQ.mono,eY.mono]
     |lp f fr ps asg bd ky n p=>
      obtain⟨I,d,L,g,v,y⟩:=I;refine⟨I,by rw[ao];exact d,L,by simp_all,bK.keeps _ _ (keeps _ hk) v,y⟩
     |dead=>trivial
     |mp kk vk es=>
      simp_all [Cx.ORel]
  .rw[M,V]at d g;split at d<;>split at g
   .omega
   .rename_i S G
    split at g
    .cases g
    .rename_i e3
     subst S;cases d;rw[O]at v;rw[J j (fun q=>G q.symm)]at y;exact absurd (hr.ok.inj id j _ q b K g v y).symm e3
   .rename_i S G
    split at d
    .cases d
    .rename_i e3
     subst G;cases g;rw[O]at y;rw[J i (fun q=>S q.symm)]at v;exact absurd (hr.ok.inj i id o _ b d K v y) e3
   .rename_i S G
    split at d
    .cases d
    .split at g
     .cases g
     .rw[J i (fun q=>S q.symm)]at v;rw[J j (fun q=>G q.symm)]at y;exact hr.ok.inj i j o q b d g v y
 have aA:bK c (fr.set s .undef) a.tmps.toList:=bK.setL _ _ _ hr.fr fun _=>by simp[bW]
 have kl:=keeps _ X;have aB:=bK.keeps _ _ kl.left.left aA;have iU:=bK.setL (z:=.ptr N 0) s _ _ aB fun U=>by
  have hv:=au U;simp only[bW]at hv ⊢;exact⟨hv.1,.inl ⟨_,by rw[M,V,am rfl]⟩,fun _ _ _=>by rw[O];exact hv.2.2 _ _ K⟩
 rw[List.set_set]at iU;exact⟨c2,⟨by rw[M],aj,az,iU,Dh.keeps _ _ kl.left.right hr.stk,by rw[W];exact hr.df,by rw[B];exact hr.rd⟩,
  ⟨fun _ h=>by rw[W];exact h,fun b L h=>⟨L,by rw[B];exact h⟩,by simp_all,ak,fun b D=>⟨an b D,by rw[B]⟩⟩,B⟩
theorem afd (hr:iM W0 b0 rd c st a ats) {s:Nat} {t:Ty} {ab:St} (h:Ql s t st=a6 ab): ∃c',iM W0 b0 rd c' ab a ats/\c.Mono c'/\c'.w=c.w:=by
 have ad: ∀V:s<a.tmps.toList.length,bW c (st.fr.getD s .undef) a.tmps.toList[s]:=fun V=>by
  have:=hr.fr.getD s;rwa [Array.getD,dif_pos (by simpa using V)]at this
 unfold Ql at h;generalize hN:1000000*st.stk.length+800000+s=N at h;split at h
 .rename_i id ag W
  rw[W]at ad;rw[cond_eq_ite]at h;split at h
  .cases h;exact hr.sorted
  .rename_i K
   have K:id≠N:=fun e=>K (by simp[e]);split at h
   .rename_i u w xs M
    obtain⟨d,h⟩:=dG h;simp only[af]at d;obtain⟨ai,aj⟩:=d;cases h;obtain⟨Z,az,hp,aX⟩:=st;have ak:=hr.hp;have al:=hr.nxt;simp only at ak M aj W ai al;subst ak;subst al;have ai:c.nxt<=N:=by simp_all
    have an: ∀i∈lq (Z.set s .undef)++qZ az++wS (c.hp.filter fun e=> !(Nat.beq e.1 id||Nat.beq e.1 N)),i≠id/\i≠N:=fun i B=>by
     have:=tN aj i B;simp_all
    have X: ∀i,dQ (lu ((N,.arr u w xs)::c.hp.filter fun e=> !(Nat.beq e.1 id||Nat.beq e.1 N))) i=if N=i then a6 (.arr u w xs)else if i=id then a7 else dQ c.hp i:=fun i=>by
     rw[wM,eG];split
     .rfl
     .rename_i aA
      rw[jW (fun i=> !(Nat.beq i id||Nat.beq i N))];have g:Nat.beq i N=false:=Bool.eq_false_iff.2 fun h=>aA (ah h).symm;simp_all [Bool.eq_false_iff]
    generalize hH:lu ((N,.arr u w xs)::c.hp.filter fun e=> !(Nat.beq e.1 id||Nat.beq e.1 N))=H at*;generalize G:({c with mu:=Go.Proofs.YtlhpdcadgbjhiaaGreatDoor.upd c.mu N (c.mu id),hp:=H}:Cx)=v;have S:v.hp=H:=by rw[<-G]
    have E:v.w=c.w:=by rw[<-G]
    have ao:v.nxt=c.nxt:=by rw[<-G]
    have Y:v.mks=c.mks:=by rw[<-G]
    have au:v.bar=c.bar:=by rw[<-G]
    have av:v.mu N=c.mu id:=by rw[<-G];exact upd_same ..
    have O: ∀i,i≠N->v.mu i=c.mu i:=fun i B=>by rw[<-G];simp[Go.Proofs.YtlhpdcadgbjhiaaGreatDoor.upd,B]
    have aw: ∀b,(∃i o,dQ v.hp i=a6 o/\o.blk (v.mu i)=a6 b)-> ∃i o,dQ c.hp i=a6 o/\o.blk (c.mu i)=a6 b:=fun b ⟨i,o,g,y⟩=>by
     grind
    have ax: ∀b,c.out b->v.out b:=fun b d=>⟨by rw[E];exact d.1,fun h=>d.2.1 (aw b h),by rw[Y];exact d.2.2⟩;have aB: ∀b,c.free b->v.free b/\v.w.heap[b]? =c.w.heap[b]? :=fun b d=>⟨⟨by rw[E];exact d.1,fun h=>d.2.1 (aw b h),by rw[Y,au];exact d.2.2⟩,by rw[E]⟩;have keeps: ∀l:List Nat,(∀i∈l,i≠id/\i≠N)->c.Keeps v l:=fun l hl=>by
     refine⟨aB,fun i B hk=> ?_,fun i B o' x=> ?_⟩
     .rcases hk with ⟨o,x⟩|hk
      .left
       grind
      .right;rw[ao];exact hk
     .rw[S,X,aq (fun e=>(hl i B).2 e.symm),aq (hl i B).1]at x;refine⟨o',x, ?_⟩;rw[O i (hl i B).2];exact o'.like_refl _
    have aF: ∀i o,i≠id->i≠N->dQ c.hp i=a6 o->(i,o)∈c.hp.filter fun e=> !(Nat.beq e.1 id||Nat.beq e.1 N):=fun i o B aG x=>List.mem_filter.2 ⟨wL _ _ _ x,by
     have g:Nat.beq i N=false:=Bool.eq_false_iff.2 fun h=>aG (ah h);have y:Nat.beq i id=false:=Bool.eq_false_iff.2 fun h=>B (ah h);simp_all⟩
    have aH:v.Ok W0:=by
     refine⟨by rw[E];exact hr.ok.bel,fun i o x=> ?_,fun i j o q b g y A D=> ?_,fun r aY=>by rw[E];exact hr.ok.mks r (by simp_all),fun b d=>ax b (hr.ok.bar b (by simp_all)),hr.ok.phi⟩
     .rw[S,X]at x;split at x
      .rename_i e;subst e;cases x
       obtain⟨aI,e,zs,aZ,hL,aJ⟩:=hr.ok.obj id _ M;refine⟨aI,e,zs, ?_, ?_,aJ⟩
       .simp_all
       grind [fQ.mono,eY.mono]
      .rename_i e
       split at x
       .cases x
       .rename_i I
        have J:=hr.ok.obj i o x;have hm:=aF i o I (fun q=>e q.symm) x;have hk:=fun j hj=>an j (bn _ (Aj _ _ hm j hj));have ay:=O i (fun q=>e q.symm);cases o with
        |box e cs=>
         obtain⟨g,vs,y,A,D⟩:=J;refine⟨by rw[ay];exact g,vs,by simp_all,bK.keeps _ _ (keeps _ hk) A,D⟩
        |arr t ag xs=>
         obtain⟨J,e,zs,g,y,A⟩:=J;refine⟨J,e,zs,by simp_all, ?_,A⟩
         grind [fQ.mono,eY.mono]
        |lp f Z ps asg bd ky n p=>
         obtain⟨J,g,L,y,A,D⟩:=J;refine⟨J,by rw[ay];exact g,L,by simp_all,bK.keeps _ _ (keeps _ hk) A,D⟩
        |dead=>trivial
        |mp kk vk es=>
         simp_all [Cx.ORel]
     .rw[S,X]at g y;split at g<;>split at y
      .omega
      .rename_i U I
       split at y
       .cases y
       .rename_i e3
        subst U;cases g;rw[av]at A;rw[O j (fun q=>I q.symm)]at D;exact absurd (hr.ok.inj id j _ q b M y A D).symm e3
      .rename_i U I
       split at g
       .cases g
       .rename_i e3
        subst I;cases y;rw[av]at D;rw[O i (fun q=>U q.symm)]at A;exact absurd (hr.ok.inj i id o _ b g M A D) e3
      .rename_i U I
       split at g
       .cases g
       .split at y
        .cases y
        .rw[O i (fun q=>U q.symm)]at A;rw[O j (fun q=>I q.symm)]at D;exact hr.ok.inj i j o q b g y A D
    have aK:bK c (Z.set s .undef) a.tmps.toList:=bK.setL _ _ _ hr.fr fun _=>by simp[bW]
    have kl:=keeps _ an;have aO:=bK.keeps _ _ kl.left.left aK;have iU:=bK.setL (z:=.slc N ag a7) s _ _ aO fun V=>by
     have hv:=ad V;simp only[bW]at hv ⊢;refine⟨hv.1,.inl ⟨_,by rw[S,X,am rfl]⟩,fun t' u' bf bg=> ?_⟩
     grind
    rw[List.set_set]at iU;exact⟨v,⟨by rw[S],ao,aH,iU,Dh.keeps _ _ kl.left.right hr.stk,by rw[Y];exact hr.df,by rw[E];exact hr.rd⟩,
     ⟨fun _ h=>by rw[Y];exact h,fun b L h=>⟨L,by rw[E];exact h⟩,by simp_all,au,fun b d=>⟨ax b d,by rw[E]⟩⟩,E⟩
   .cases h
 .rename_i id W
  rw[cond_eq_ite]at h;split at h
  .cases h;exact hr.sorted
  .rename_i K
   have K:id≠N:=fun e=>K (by simp[e]);split at h
   .rename_i u xs M
    obtain⟨d,h⟩:=dG h;simp only[af]at d;cases h;exact ais hr W M K d.1 d.2
   .cases h
 .cases x:xQ s t st with
  |none=>simp_all
  |some bi=>
   rw[x]at h;cases h;obtain⟨c1,aP,aQ,aS⟩:=OV hr x;obtain⟨v,aU,aV,aW⟩:=aP.sorted;exact⟨v,aU,aQ.trans aV,aW.trans aS⟩
theorem VL {s:Nat} {t:Ty} {l:List (Nat×Ty)} {st d:St} (h:jF ((s,t)::l) st=a6 d):(∃t' st1,DV s t' st=a6 st1/\jF l st1=a6 d)\/(∃t' st1,PW (s/100) (s %100) t' st=a6 st1/\jF l st1=a6 d)\/(∃t' st1,Ql s t' st=a6 st1/\jF l st1=a6 d)\/ ∃st1,xQ s t st=a6 st1/\jF l st1=a6 d:=by
 have own:(match xQ s t st with|some st=>jF l st|none=>a7)=a6 d-> ∃st1,xQ s t st=a6 st1/\jF l st1=a6 d:=fun h=>by
  grind
 cases t with
 |pair x y=>
  cases x with
  |unit=>
   grind [jF]
  |list z=>
   cases z with
   |unit=>
    grind [jF]
   |bool=>
    grind [jF]
   |_=>right;right;right;exact own h
  |_=>right;right;right;exact own h
 |_=>right;right;right;exact own h
theorem qp: ∀(l:List (Nat×Ty)) {c:Cx} {st:St},iM W0 b0 rd c st a ats-> ∀{u:St},jF l st=a6 u-> ∃c',iM W0 b0 rd c' u a ats/\c.Mono c'/\c'.w=c.w
 |[],c,st,hr,u,h=>by cases h;exact⟨c,hr,Cx.Mono.refl c,rfl⟩
 |(s,t)::l,c,st,hr,u,h=>by
  rcases VL h with ⟨y,v,d,e⟩|⟨y,v,d,e⟩|⟨y,v,d,e⟩|⟨v,d,e⟩
  .obtain⟨x,f,g,i⟩:=JQ hr d;obtain⟨j,o,p,q⟩:=qp l f e;exact⟨j,o,g.trans p,q.trans i⟩
  .obtain⟨x,f,g,i⟩:=ae3 hr d;obtain⟨j,o,p,q⟩:=qp l f e;exact⟨j,o,g.trans p,q.trans i⟩
  .obtain⟨x,f,g,i⟩:=afd hr d;obtain⟨j,o,p,q⟩:=qp l f e;exact⟨j,o,g.trans p,q.trans i⟩
  .obtain⟨x,f,g,i⟩:=OV hr d;obtain⟨j,o,p,q⟩:=qp l f e;exact⟨j,o,g.trans p,q.trans i⟩
theorem oV (hr:iM W0 b0 rd c st a ats) {y:List Nat} {g:List (Nat×Ty)} {d:St} (h:LC y g st=a6 d): ∃c',iM W0 b0 rd c' d a ats/\c.Mono c'/\c'.w=c.w:=by
 have i:iM W0 b0 rd c {st with fr:=Hg y 0 st.fr} a ats:=⟨hr.hp,hr.nxt,hr.ok,zU 0 _ _ hr.fr,hr.stk,hr.df,hr.rd⟩;have go: ∀{e:Cx} {j:St},iM W0 b0 rd e j a ats->(match jF g j with
   |some st=>match gc (1000000*st.stk.length) .undef st with
    |some st=>a6 (Yf st)
    |none=>a7
   |none=>a7)=a6 d-> ∃c',iM W0 b0 rd c' d a ats/\e.Mono c'/\c'.w=e.w:=fun {e j} i h=>by
  split at h
  .rename_i A f
   obtain⟨B,l,o,p⟩:=qp g i f;split at h
   .rename_i K D
    cases h;obtain⟨z,q,_,s,x,_,_⟩:=l.gc (v:=.undef) (u:=undef) (by simp[bW]) D;obtain⟨E,G,I,J⟩:=q.anew;exact⟨E,G,(o.trans s).trans I,J.trans (x.trans p)⟩
   .cases h
  .cases h
 unfold LC at h;split at h
 .rename_i A f
  split at f
  .grind
  .obtain⟨B,l,_,o,p,_,_⟩:=i.gc (v:=.undef) (u:=undef) (by simp[bW]) f;obtain⟨z,q,s,x⟩:=go l h;exact⟨z,q,o.trans s,x.trans p⟩
 .cases h
theorem yE: ∀(l:List (Nat×Ty)) {c:Cx} {st:St},iM W0 b0 rd c st a ats-> ∀{d:St},zS l st=a6 d-> ∃c',iM W0 b0 rd c' d a ats/\c.Mono c'/\c'.w=c.w
 |[],c,st,hr,d,h=>by cases h;exact⟨c,hr,Cx.Mono.refl c,rfl⟩
 |(s,t)::l,c,st,hr,d,h=>by
  simp only[zS]at h;split at h
  .rename_i u e
   obtain⟨v,f,g,i⟩:=JQ hr e;obtain⟨j,o,p,q⟩:=yE l f h;exact⟨j,o,g.trans p,q.trans i⟩
  .cases h
theorem X6 (hr:iM W0 b0 rd c st a ats) {k:eQ} {d:St} (h:ayb k st=a6 d): ∃c',iM W0 b0 rd c' d a ats/\c.Mono c'/\c'.w=c.w:=by
 simp only[ayb]at h;split at h
 .rename_i A e
  have f:iM W0 b0 rd c {st with fr:=Hg k.rets 0 st.fr} a ats:=⟨hr.hp,hr.nxt,hr.ok,zU 0 _ _ hr.fr,hr.stk,hr.df,hr.rd⟩;obtain⟨B,g,i,j⟩:=yE k.give f e;split at h
  .rename_i D l
   cases h;obtain⟨E,o,_,p,q,_,_⟩:=g.gc (v:=.undef) (u:=undef) (by simp[bW]) l;obtain⟨s,x,y,z⟩:=o.anew;exact⟨s,x,(i.trans p).trans y,z.trans (q.trans j)⟩
  .cases h
 .cases h
end
end
section
open Option renaming some → a6, none → a7
open Bool renaming and_eq_true → af, false_eq_true → ag
open List renaming mem_cons_of_mem → ak
open Nat renaming le_refl → ae, lt_or_ge → aJ
open Go.RowKit
def mV {R:Type} (P:Program) (call:gI R):Prop:=
 ∀(W0:World) (b0:Nat) (rd:Option Nat) (l:bU) (o:List bU) (q:Option Nat) (st:St) (K:bU->St->Option R) (r:R),call l o q st K=a6 r->
  ∀(c:Cx) (a:Act) (ats:List (Array Value)) (i:Value) (j:Array Value),iM W0 b0 rd c st a ats->bW c l i->bK c o j.toList->
   ∃z v,K z st=a6 r/\bW c z v/\ ∀f,GK c f->(∃g p,(do let d<-Deferred.ofValue i j;invoke d.target d.args:Sem Next).run P f=.ok (.enter g p) f/\
    Calls P g p f (fun e s=>e=.returned v/\GK c s))\/(do let d<-Deferred.ofValue i j;invoke d.target d.args:Sem Next).run P f=.ok (.value v) f
section
variable {P:Program} {T:TT} {W0:World} {b0 n:Nat} {rd:Option Nat} {c:Cx} {R:Type} {r:R} {st:St} {a:Act} {ats:List (Array Value)}
theorem iM.ext (h:iM W0 b0 rd c st a ats) {w:World} (e:GK c w):iM W0 b0 rd (c.at_ w) st a ats:=by
 have d:=Cx.Le.ext e;exact⟨h.hp,h.nxt,h.ok.ext e,bK.le d _ _ h.fr,Dh.le d _ _ h.stk,let⟨f,g,i,j⟩:=h.df;⟨f,g,i,j⟩,fun l hl=>let⟨L,o⟩:=h.rd l hl;d.lp l L o⟩
theorem ae1 (hT:TOk P T) {cl:Bool} {call:gI R} (J:mV P call) {o:Oper} (B:jM o.op=true) {K:bU->St->Option R} (h:eH T cl call o st K=a6 r) (hr:iM W0 b0 rd c st a ats):
  ∃z v,K z st=a6 r/\bW c z v/\ ∀w',GK c w'->o.quietAtIn (FW rd) n P a (GK c) w' v:=by
 by_cases hq2:iy o.op=true
 .obtain⟨z,u,i,j,l⟩:=Ai hT hr.ok hq2 hr.hp hr.fr h;refine⟨z,u,i,j,fun w' p=> ?_⟩;unfold Oper.quietAtIn;rw[l w' p];exact⟨rfl,rfl⟩
 .obtain⟨q,L,D,E,G,I⟩:=o;cases L<;>simp only[jM,ag]at B<;>(try (exact absurd rfl hq2))
  case call cc=>
   obtain⟨s,d,e⟩:=cc;cases s with
   |builtin b=>cases b<;>simp only[ag]at B<;>exact absurd rfl hq2
   |invoke x m=>simp_all
   |value f=>
    simp only[eH]at h;obtain⟨z,v,i,j,l⟩:=J W0 b0 rd _ _ q st K r h c a ats (a.eval f) (d.map a.eval) hr (dU hr.fr f) (by
     have:=bK.map_eval (c:=c) hr.fr d.toList;simpa using this)
    refine⟨z,v,i,j,fun w' p=> ?_⟩;unfold Oper.quietAtIn;rcases l w' p with ⟨g,M,y,N⟩|y
    .have A:(execOp a.eval ⟨q,.call {callee:=.value f,args:=d,argTypes:=e},D,E,G,I⟩).run P w'=.ok (.enter g M) w':=y;rw[A];exact⟨rfl,oK rd,(callsIn_wide (n:=n-1)).2 N⟩
    .have A:(execOp a.eval ⟨q,.call {callee:=.value f,args:=d,argTypes:=e},D,E,G,I⟩).run P w'=.ok (.value v) w':=y;rw[A];exact⟨rfl,rfl⟩
theorem MZ (hT:TOk P T) {cl:Bool} {call:gI R} (s:mV P call) (ops:Array Oper) {K:St->Option R}: ∀(l:List Oper) (st:St) (a:Act),(∀o∈l,jM o.op=true)->ig T cl call ops K l st=a6 r->iM W0 b0 rd c st a ats->
  wpQuietIn (FW rd) n P ops (GK c) (fun i=> ∃e,K e=a6 r/\iM W0 b0 rd c e i ats) l a
 |[],st,a,u,h,hr=>by
  simp only[ig]at h;exact⟨st,h,hr⟩
 |o::l,st,a,u,h,hr=>by
  simp only[ig]at h;have D: ∀o∈l,jM o.op=true:=fun G I=>u G (ak _ I);have y: ∀(st:St) (a:Act),iM W0 b0 rd c st a ats->eH T cl call o st (fun v st=>ig T cl call ops K l (st.put o.dst v))=a6 r->
    o.quietIn (FW rd) n P a (GK c) (wpQuietIn (FW rd) n P ops (GK c) (fun i=> ∃e,K e=a6 r/\iM W0 b0 rd c e i ats) l):=fun st a hr h=>by
   obtain⟨z,v,p,J,L⟩:=ae1 (n:=n) hT s (u o (by simp)) h hr;exact⟨v,L,MZ hT s ops l _ _ D p (hr.put J)⟩
  have A: ∀(st:St),iM W0 b0 rd c st a ats->ig T cl call ops K l (st.put o.dst (.tup []))=a6 r->wpQuietIn (FW rd) n P ops (GK c) (fun i=> ∃e,K e=a6 r/\iM W0 b0 rd c e i ats) l (a.put o.dst undef):=fun st hr h=>
   MZ hT s ops l (st.put o.dst (.tup [])) (a.put o.dst undef) D h (hr.put (by simp only[bW];exact⟨#[],rfl,by simp[bK]⟩))
  simp only[wpQuietIn];refine⟨fun _ _ _ _=>trivial, ?_⟩;cases hg:o.guard with
  |none=>
   rw[hg]at h;rw[am (by simp[Region.wanted,hg])];exact y st a hr h
  |some M=>
   obtain⟨j,N⟩:=M;rw[hg]at h;simp only at h;split at h
   .cases h
   .rename_i d hd
    have f:=Je ops j d hd a.tmps;have g:=hr.fr.getD d;split at h
    .rename_i b B
     rw[B]at g;simp only[bW]at g;have O:=g.bool_inv;have V:d<a.tmps.size:=by
      rcases aJ d a.tmps.size with p|p
      .exact p
      simp_all [undef]
     have E:a.tmps[d]? =a6 (.bool b):=by
      simp_all
     rw[E]at f;simp only at f;have S:a.put (a6 d) (.bool b)=a:=by
      simp only[Act.put];obtain⟨W,X⟩:=Array.getElem?_eq_some_iff.1 E;have:a.tmps.setIfInBounds d (.bool b)=a.tmps:=by
       grind
      rw[this]
     have q:iM W0 b0 rd c (st.put (a6 d) (.val .bool b)) a ats:=by
      have:=hr.put (dst:=a6 d) (z:=.val .bool b) (v:=.bool b) (by simp_all [bW]);rwa [S]at this
     cases b<;>cases N<;>(try simp only[aa,ac]at h)
     .rw[am (by simp[Region.wanted,hg,f])];exact y _ a q h
     .rw[aq (by simp[Region.wanted,hg,f])];exact A _ q h
     .rw[aq (by simp[Region.wanted,hg,f])];exact A _ q h
     .rw[am (by simp[Region.wanted,hg,f])];exact y _ a q h
    .rename_i B
     rw[B]at g;simp only[bW]at g;obtain⟨Y,O,_⟩:=g;have U:yielded ops a.tmps j=a7:=by
      rw[f];cases he:a.tmps[d]? with
      |none=>rfl
      |some x=>
       simp_all
     rw[aq (by simp[Region.wanted,hg,U])];exact A st hr h
    .cases h
section
variable {ops:Array Oper} {md:Region.Mode} {C:World->Prop} {F:Fence}
theorem Vo {o:Oper} (hd:qh o.op=false) {a:Act} {K:Act->Prop} {g:Act->World->Prop} {j:Exit->Act->World->Prop} {w:World} (i:C w) (h: ∀a w',C w'->K a->g a w')
  (l:o.askedIn F P a C) (p:o.quietIn F n P a C K):o.wpIn F n P a w g j:=by
 obtain⟨v,q,z⟩:=p;have d:=q w i;unfold Oper.quietAtIn at d;unfold Oper.wpIn;refine⟨l w i, ?_⟩;rw[wU hd];generalize (execOp a.eval o).run P w=r at*;cases r with
 |ok x w'=>
  cases x<;>simp only[Oper.quietUponIn]at d<;>simp only[Oper.uponIn]
  case value u=>
   simp_all
  case skip=>
   simp_all
  case enter f args=>
   obtain⟨s,hd,y⟩:=d;rw[s];exact⟨hd,y.mono fun e A ⟨B,D⟩=>by simp_all⟩
 |halt x w'=>simp only[Oper.quietUponIn]at d
theorem N9 {i:Nat} (hd: ∀(i:Nat) (o:Oper),ops[i]? =a6 o->qh o.op=false) {a:Act} {K:Act->Prop} {f:Act->World->Prop} {j:Exit->Act->World->Prop} {w:World} (g:C w) (h: ∀a w',C w'->K a->f a w')
  (d:qOpIn F n P ops C i K a):wpOpIn F n P ops j i f a w:=by
 unfold qOpIn at d;unfold wpOpIn;split
 .simp_all
 .rename_i o l
  simp only[l]at d;obtain⟨p,d⟩:=d;split
  .rename_i e;simp only[e,if_true]at d;grind [Vo]
  .rename_i e;simp only[e]at d;exact⟨p w g,h _ _ g d⟩
theorem yB {Q:Act->Prop} {g:Exit->Act->World->Prop} (hd: ∀(i:Nat) (o:Oper),ops[i]? =a6 o->qh o.op=false) (f: ∀a w,C w->Q a->g .normal a w): ∀(d:Nat) (j:Array Bool) (a:Act) (w:World),C w->
  wpAnyQIn F n P md ops C Q d j a->wpAnyIn F n P md ops g d j a w
 |0,_,_,_,e,h=>⟨h.1,f _ _ e h.2⟩
 |d+1,_,_,_,e,h=>⟨fun l=>f _ _ e (h.1 l),fun i p=>N9 hd e (fun q s u=>yB hd f d _ q s u) (h.2 i p)⟩
theorem Jd {id:Nat} {Q:Exit->Act->World->Prop} {a:Act} {w:World} (hd: ∀(i:Nat) (o:Oper),ops[i]? =a6 o->qh o.op=false) (f:P.follows .mixedOrders=true) (d:Region.lexB .any ops=true) (g:C {w with drawn:=w.drawn+1})
  (h:wpQuietIn F n P ops C (fun e=> ∀w',C w'->Q .normal e w') ops.toList a):(Code.region id ops true).wpIn F n P Q a w:=by
 simp only[Region.lexB,af]at d;refine wpIn_region_any f (yB (Q:=fun e=> ∀w',C w'->Q .normal e w') hd (fun _ w' j h=>h w' j) _ _ _ _ g ?_);have:=wpAnyQIn_lex (F:=F) (n:=n) (C:=C) (md:=.any) d.1 ops.toList 0 (Array.replicate ops.size false) a (by simp) (by simpa using d.2) h;simpa using this
end
theorem xg {F:Fence} {ops:Array Oper} {C:World->Prop} {Q g:Act->Prop} (h: ∀a,Q a->g a): ∀(l:List Oper) (a:Act),wpQuietIn F n P ops C Q l a->wpQuietIn F n P ops C g l a
 |[],a,d=>h a d
 |o::l,a,d=>by
  simp only[wpQuietIn]at d ⊢;refine⟨d.1, ?_⟩;have e:=d.2;split
  .rename_i f
   rw[am f]at e;exact Oper.quietIn_mono (xg h l) e
  .rename_i f
   rw[aq f]at e;exact xg h l _ e
theorem VN {d:Op} (h:jM d=true):qh d=false:=by cases d<;>first|rfl|(simp[jM]at h)
theorem Og (hT:TOk P T) (l:P.follows .mixedOrders=true) {cl:Bool} {call:gI R} (p:mV P call) {id:Nat} {ops:Array Oper} (f:KJ ops=true) {K:St->Option R} {Q:Exit->Act->World->Prop}
  (h:ig T cl call ops K ops.toList st=a6 r) (hr:iM W0 b0 rd c st a ats) (q: ∀c' d e,K d=a6 r->iM W0 b0 rd c' d e ats->c.Mono c'->Q .normal e c'.w):
  (Code.region id ops true).wpIn (FW rd) n P Q a c.w:=by
 simp only[KJ,af]at f;have g: ∀o∈ops.toList,jM o.op=true:=List.all_eq_true.1 f.1;refine Jd (C:=GK c) (fun i o y=>VN (g o (by grind))) l f.2 ⟨rfl,rfl,rfl,ae _,fun _ _=>rfl⟩ ?_;refine xg (fun e s u j=> ?_) _ _ (MZ (n:=n) hT p ops ops.toList st a g h hr);obtain⟨d,v,x⟩:=s;exact q (c.at_ u) d e v (x.ext j) (Cx.Le.ext j).mono
end
end
section
open Option renaming some → a6, none → a7
open Bool renaming and_eq_true → af, false_eq_true → ag
open List renaming map_cons → au, map_nil → aU
open Nat renaming le_refl → ae
open Go.RowKit
section
variable {P:Program} {T:TT} {W0:World} {b0 n:Nat} {rd:Option Nat} {c:Cx} {R:Type} {r:R} {st:St} {a:Act} {ats:List (Array Value)} {t:TypeId}
theorem aBg (hT:TOk P T) (V:c.Ok W0) {cl:Bool} {call:gI R} {o:Oper} {st:St} {a:Act} {K:bU->St->Option R} (N:IR o.op=true) (J:c.hp=st.hp) (p:bK c st.fr a.tmps.toList)
  (h:eH T cl call o st K=a6 r): ∃z u,K z st=a6 r/\bW c z u/\ ∀w',(execOp a.eval o).run P w'=.ok (.value u) w':=by
 have I: ∀{s:Sem Value} {u:Value} {w':World},s.run P w'=.ok u w'->(do pure (Next.value (<-s)):Sem Next).run P w'=.ok (.value u) w':=fun W=>by
  simp[Sem.run_bind,W]
 obtain⟨ax,X,ty,ay,az,aA⟩:=o;simp only at N;cases X<;>simp only[IR,ag]at N
 case move x=>exact⟨_,_,h,dU p x,fun w'=>rfl⟩
 case assign x=>exact⟨_,_,h,dU p x,fun w'=>rfl⟩
 case pick x y z=>
  simp only[eH]at h;have Y:=dU p x;split at h
  .rename_i b B
   rw[B]at Y;simp only[bW]at Y;have ad:=Y.bool_inv;cases b
   .exact⟨_,_,h,dU p z,fun w'=>by simp[execOp,ad,asBool]⟩
   .exact⟨_,_,h,dU p y,fun w'=>by simp[execOp,ad,asBool]⟩
  .cases h
 case nilCheck x=>
  simp only[eH]at h;have d:=dU p x;split at h
  .rename_i id ak L
   rw[L]at d;split at h
   .rename_i bt cs ah
    have O:=d;simp only[bW]at d;rw[<-J]at ah;have E:=d.2.2 _ _ ah;exact⟨_,_,h,O,fun w'=>by simp[execOp,E]⟩
   .cases h
  .rename_i y e L
   rw[L]at d;have O:=d;simp only[bW]at d;obtain⟨b,o,zs,E,_⟩:=d;exact⟨_,_,h,O,fun w'=>by simp[execOp,E]⟩
  .rename_i id an i ak L
   rw[L]at d;split at h
   .rename_i e u xs ai
    replace h:=dG h;obtain⟨G,h⟩:=h;have G:u=an:=by simpa using G
    subst G;have O:=d;simp only[bW]at d;rw[<-J]at ai;obtain⟨g,n,cp,_,E⟩:=(d.2.2 _ _ _ ai).2 rfl;exact⟨_,_,h,O,fun w'=>by simp[execOp,E]⟩
   .cases h
  .cases h
 case binOp X t x y yt=>
  simp only[eH]at h;rw[<-J]at h;obtain⟨z,u,j,q,A⟩:=avJ (P:=P) (ox:=x) (oy:=y) (K:=fun v=>K v st) hT V h (dU p x) (dU p y);exact⟨z,u,j,q,fun w'=>I (A w')⟩
 case unOp X t x=>
  simp only[eH]at h;obtain⟨z,u,j,q,A⟩:=aKh (P:=P) (K:=fun v=>K v st) h (dU p x);exact⟨z,u,j,q,fun w'=>I (A w')⟩
 case slice t x lo hi mx=>
  simp only[eH]at h;rw[<-J]at h;obtain⟨z,u,j,q,A⟩:=alx (P:=P) (K:=fun v=>K v st) hT V h (dU p x) (lD.map p lo) (lD.map p hi) (lD.map p mx);exact⟨z,u,j,q,fun w'=>I (A w')⟩
 case fieldAddr t x f=>
  simp only[eH]at h;rw[<-J]at h;obtain⟨z,u,j,q,A⟩:=O0 (P:=P) (K:=fun v=>K v st) hT h (dU p x);exact⟨z,u,j,q,fun w'=>I (A w')⟩
 case field t x f=>
  simp only[eH]at h;obtain⟨z,u,j,q,A⟩:=alu (P:=P) (K:=fun v=>K v st) hT h (dU p x);exact⟨z,u,j,q,fun w'=>I (A w')⟩
 case indexAddr t x i=>
  simp only[eH]at h;rw[<-J]at h;obtain⟨z,u,j,q,A⟩:=O1 (P:=P) (K:=fun v=>K v st) hT V h (dU p x) (dU p i);exact⟨z,u,j,q,fun w'=>I (A w')⟩
 case index t x i=>
  simp only[eH]at h;split at h
  .rename_i s n W Z
   replace h:=gG h;obtain⟨j,h⟩:=h;have d:=dU p x;rw[W]at d;obtain⟨q,A⟩:=alv (P:=P) hT d (dU p i) Z j;exact⟨_,_,h,q,fun w'=>I (A w')⟩
  .cases h
 case extract x n=>
  simp only[eH]at h;have d:=dU p x;split at h
  .rename_i l hl
   rw[hl]at d;split at h
   .rename_i v E
    simp only[bW]at d;obtain⟨vs,L,aj⟩:=d;obtain⟨Z,E⟩:=List.getElem?_eq_some_iff.1 E;have ao:=bK.length _ _ aj;simp at ao;have j:=bK.get _ _ aj n Z (by simp;omega);rw[E]at j;simp only[Array.getElem_toList]at j;refine⟨_,_,h,j,fun w'=>I ?_⟩;rw[L];have:vs[n]? =a6 vs[n]:=Array.getElem?_eq_getElem (by omega);simp[Instr.extract,this]
   .cases h
  .cases h
 case call cc=>
  obtain⟨aB,S,av⟩:=cc;simp only at N;have D:=bK.map_eval (c:=c) p S.toList;split at N
  all_goals try (cases N;done)
  .
   simp only[eH,kD]at h;split at h<;>try (cases h;done)
   .rename_i x B d
    split at h<;>try (cases h;done)
    rename_i t ht
    rw[<-J]at h;obtain⟨M,aw⟩: ∃M,S= #[M]:=by
     obtain⟨l⟩:=S
     match l,d with
     |[M],_=>exact⟨M,rfl⟩
    subst aw;obtain⟨t0⟩:=av;simp only at ht;subst ht;simp only[au,aU,List.cons.injEq,and_true]at d;subst d;obtain⟨z,u,j,q,A⟩:=q_len (P:=P) (K:=fun v=>K v st) hT V h (dU p M) (ty:=ty);exact⟨z,u,j,q,fun w'=>by simp[execOp,resolve,invoke,builtin,Sem.run_bind,A w']⟩
   all_goals (rename_i B _;cases B)
  .
   simp only[eH,kD]at h;split at h<;>try (cases h;done)
   all_goals try (rename_i B _;cases B;done)
   rename_i k n l B d
   split at h<;>try (cases h;done)
   rename_i ns ab
   rw[d]at D;obtain⟨U⟩:=S;cases U with
   |nil=>simp[bK]at D
   |cons M U=>
    simp only[au,bK]at D;have G:=D.1;simp only[bW]at G;have j:=G.int_inv;have q:=sK _ _ _ ab D.2;exact⟨_,_,h,by simp only[bW];exact VD.int_mk,fun w'=>by simp[execOp,resolve,invoke,builtin,Sem.run_bind,Builtin.min_,j,q,UD]⟩
  .
   simp only[eH,kD]at h;split at h<;>try (cases h;done)
   all_goals try (rename_i B _;cases B;done)
   rename_i k n l B d
   split at h<;>try (cases h;done)
   rename_i ns ab
   rw[d]at D;obtain⟨U⟩:=S;cases U with
   |nil=>simp[bK]at D
   |cons M U=>
    simp only[au,bK]at D;have G:=D.1;simp only[bW]at G;have j:=G.int_inv;have q:=sK _ _ _ ab D.2;exact⟨_,_,h,by simp only[bW];exact VD.int_mk,fun w'=>by simp[execOp,resolve,invoke,builtin,Sem.run_bind,Builtin.max_,j,q,UC]⟩
def iJ {e:Type} (x:Sem e):Prop:= ∀P w v d,x.run P w=.ok v d->Below w.heap.size w d
theorem iJ.pure {d:Type} (v:d):iJ (pure v:Sem d):=fun P w v e h=>by simp_all [Below.refl]
theorem iJ.looks {d:Type} {x:Sem d} (h:x.Looks):iJ x:=fun P w v e hr=>by rw[h.ok hr];exact Below.refl _ _
theorem iJ.bind {g j:Type} {x:Sem g} {f:g->Sem j} (hx:iJ x) (hf: ∀a,iJ (f a)):iJ (x>>=f):=fun P w v l h=>by
 rw[Sem.run_bind]at h;cases hr:x.run P w with
 |halt e d=>simp_all
 |ok u d=>
  rw[hr,Result.andThen_ok]at h;have i:=hx P w u d hr;exact i.trans ((hf u P d v l h).mono i.size)
theorem iJ.never {d:Type} {x:Sem d} (h: ∀P w v w',x.run P w≠ .ok v w'):iJ x:=fun P w v w' hr=>absurd hr (h P w v w')
theorem iJ.ite {d:Type} {p:Prop} [Decidable p] {x y:Sem d} (hx:iJ x) (e:iJ y):iJ (if p then x else y):=by split<;>assumption
theorem iJ.new (o:Obj):iJ (newObj o):=fun P w v d h=>by
 have e:(newObj o).run P w=.ok w.heap.size (w.alloc o):=rfl;rw[e]at h;cases h;exact(Below.refl _ _).alloc (ae _) o
theorem uH (t:TypeId):iJ (underlying t):=.looks (underlying_looks t)
theorem ag9 (t:TypeId):iJ (typeInfo t):=.looks (typeInfo_looks t)
theorem SL (t:TypeId):iJ (sizeOf t):=.looks (sizeOf_looks t)
theorem o5 {d:Type} (s:String):iJ (stuck s:Sem d):=.looks (stuck_looks s)
theorem G9 {d:Type} (u:Unsupported):iJ (unsupported u:Sem d):=.looks (unsupported_looks u)
theorem ajP (t:TypeId):iJ (isAgg t):=by
 unfold isAgg;refine(uH t).bind fun d=> ?_;split<;>exact .pure _
theorem adR (t:TypeId):iJ (zeroValue t):=by
 unfold zeroValue;refine(ag9 t).bind fun d=> ?_;split
 .exact .pure _
 .exact G9 _
theorem ag8 (v:Value):iJ (Instr.sureAddr v):=by
 unfold Instr.sureAddr;split
 .exact .pure _
 .exact o5 _
theorem aol (t:TypeId) (a:Addr):iJ (loadVar t a):=by
 unfold loadVar;refine(ajP t).bind fun d=> ?_;split
 .exact(SL t).bind fun k=>(iJ.looks (loadCells_looks a k)).bind fun _=>.pure _
 .exact .looks (load_looks _ _)
theorem aoj (v:Value):iJ (asIntOf v):=by
 unfold asIntOf;split
 .exact .pure _
 .exact G9 _
 .exact o5 _
theorem ato (v:Value):iJ (asBool v):=by
 unfold asBool;split
 .exact .pure _
 .exact o5 _
theorem TS {d g:Type} {x:Sem d} {f:d->Sem g} (hf: ∀a P w v w',(f a).run P w≠ .ok v w'): ∀P w v w',(x>>=f).run P w≠ .ok v w':=fun P w v w' h=>by
 rw[Sem.run_bind]at h;cases hr:x.run P w with
 |halt e i=>simp_all
 |ok u i=>simp_all
theorem VE {d:Type} (v:Value): ∀P w u w',(goPanic v:Sem d).run P w≠ .ok u w':=fun P w u w' h=>by cases h
theorem IE {d:Type} (e:RuntimeError): ∀P w u w',(runtimePanic e:Sem d).run P w≠ .ok u w':=by
 grind [runtimePanic,TS,VE]
theorem Vx {d:Type} (k:IntKind) (x y:Int) (code:BoundsCode):iJ (boundsPanic k x y code:Sem d):=by
 unfold boundsPanic;dsimp only;split<;>exact .never (TS fun _=>IE _)
theorem adP (e:TypeId) (cs:Array Value):iJ (newRow e cs):=by
 unfold newRow;exact(iJ.new _).bind fun _=>.pure _
theorem aEf (t:TypeId) (cs:Array Value) (off:Nat):iJ (part t cs off):=by
 unfold part;refine(ajP t).bind fun b=> ?_;split
 .exact(SL t).bind fun _=>.pure _
 .split
  .exact .pure _
  .exact o5 _
theorem atq (t:TypeId) (v:Value):iJ (Instr.loadAt t v):=by
 unfold Instr.loadAt;exact(ag8 v).bind fun a=>aol t a
theorem aok (t:Value) (i:Nat):iJ (Instr.extract t i):=by
 unfold Instr.extract;split
 .split
  .exact .pure _
  .exact o5 _
 .exact o5 _
theorem azi (t:TypeId) (x i:Value):iJ (Instr.index t x i):=by
 unfold Instr.index;refine(aoj i).bind fun e=> ?_;refine(uH t).bind fun d=> ?_
 repeat' first
  |exact Vx _ _ _ _
  |exact o5 _
  |exact .pure _
  |exact(SL _).bind fun _=>aEf _ _ _
  |split
  |dsimp only
theorem aJu (t:TypeId) (v:Value):iJ (Instr.box t v):=by
 unfold Instr.box newVar;exact(adP _ _).bind fun _=>.pure _
theorem azh (t:TypeId):iJ (Instr.alloc t true (.tuple #[])):=by
 unfold Instr.alloc;refine(adR t).bind fun z=> ?_;dsimp only;unfold newVar;exact(adP _ _).bind fun _=>.pure _
theorem Y0 (r:Nat):(getObj r).Looks:=fun _=>trivial
theorem adO (r:Nat):iJ (getObj r):=.looks (Y0 r)
theorem azj (r:Nat):iJ (Go.shape r):=.looks (fun _=>trivial)
theorem atr (r:Nat):iJ (viewAt r):=by
 unfold viewAt
 repeat' first
  |exact .pure _
  |exact azj _
  |exact adO _
  |(refine iJ.bind ?_ fun _=> ?_)
  |split
  |dsimp only
theorem atp (t:TypeId):iJ (elemOf t):=by
 unfold elemOf;refine(uH t).bind fun d=> ?_;split
 .exact .pure _
 .exact o5 _
theorem aJv (d:Array TypeId) (ty:TypeId) (args:Array Value):iJ (Builtin.len_ d ty args):=by
 unfold Builtin.len_
 repeat' first
  |exact .pure _
  |exact o5 _
  |exact uH _
  |exact adO _
  |(refine iJ.bind ?_ fun _=> ?_)
  |split
  |dsimp only
theorem adQ (d:Array TypeId) (ty:TypeId) (args:Array Value):iJ (Builtin.unsafeSliceData_ d ty args):=by
 obtain⟨l⟩:=args
 match l with
 |[]=>exact o5 _
 |_::_::_=>exact o5 _
 |[v]=>
  cases v with
  |slice a n c=>
   cases a with
   |none=>exact iJ.pure _
   |some a=>
    have e:Builtin.unsafeSliceData_ d ty #[.slice (a6 a) n c]=(do
      if c≠0 then pure (.pointer (a6 a))
      else if(<-viewAt a.block).isSome then pure (.pointer (a6 a))
      else pure (.pointer (a6 ⟨<-newObj (.view a (<-elemOf ty)),0,a7⟩))):=rfl
    rw[e]
    repeat' first
     |exact .pure _
     |exact atr _
     |exact atp _
     |exact iJ.new _
     |(refine iJ.bind ?_ fun _=> ?_)
     |split
     |dsimp only
  |_=>exact o5 _
theorem ahi {o:Oper} (hk:PP o.op=true) (d:Operand->Value) (P:Program) (w:World) (v:Next) (w':World) (h:(execOp d o).run P w=.ok v w'):(∃u,v=.value u)/\Below w.heap.size w w':=by
 have f: ∀{s:Sem Value},iJ s->(do pure (Next.value (<-s)):Sem Next).run P w=.ok v w'->(∃u,v=.value u)/\Below w.heap.size w w':=fun {s} E h=>by
  rw[Sem.run_bind]at h;cases hr:s.run P w with
  |halt e G=>simp_all
  |ok u G=>
   rw[hr,Result.andThen_ok,Sem.run_pure]at h;cases h;exact⟨⟨u,rfl⟩,E P w u w' hr⟩
 obtain⟨l,I,g,p,q,A⟩:=o;simp only at hk;cases I<;>simp only[PP,ag]at hk
 case move x=>cases h;exact⟨⟨_,rfl⟩,Below.refl _ _⟩
 case assign x=>cases h;exact⟨⟨_,rfl⟩,Below.refl _ _⟩
 case pick x y z=>
  have e:execOp d ⟨l,.pick x y z,g,p,q,A⟩=(do pure (Next.value (<-(do pure (if<-asBool (d x)then d y else d z):Sem Value))):Sem Next):=by
   simp[execOp,bind_assoc]
  rw[e]at h;exact f ((ato _).bind fun _=>.pure _) h
 case load t x=>exact f (atq t (d x)) h
 case index t x i=>exact f (azi t (d x) (d i)) h
 case extract x i=>exact f (aok (d x) i) h
 case box t x=>exact f (aJu t (d x)) h
 case alloc t=>exact f (azh t) h
 case call cc=>
  obtain⟨B,j,D⟩:=cc;cases B with
  |builtin b=>
   cases b<;>simp only[ag]at hk
   case len=>
    grind [execOp,builtin,resolve,invoke,aJv]
   case unsafeSliceData=>
    have e:execOp d ⟨l,.call {callee:=.builtin .unsafeSliceData,args:=j,argTypes:=D},g,p,q,A⟩=(do pure (Next.value (<-Builtin.unsafeSliceData_ D g (j.map d))):Sem Next):=by
     rfl
    grind [adQ]
  |_=>simp at hk
theorem nX {ops:Array Oper} (h:mr ops=true) (i:Nat) (o:Oper) (d:ops[i]? =a6 o):qh o.op=false/\ ∀cs b,o.op≠ .select cs b:=by
 have:=List.all_eq_true.1 h o (by grind)
 grind [qh]
def oW (P:Program) (ops:Array Oper) (C:World->Prop) (o:Oper) (v:Value) (a:Act):Prop:=
 (Region.wanted o (yielded ops a.tmps)=true/\ ∀w,C w->(execOp a.eval o).run P w=.ok (.value v) w)\/(Region.wanted o (yielded ops a.tmps)=false/\v=undef)
def Yb (P:Program) (C:World->Prop) (o:Oper):Prop:=(∀w,C w)\/ ∀e w v d,C w->(execOp e o).run P w=.ok v d->(∃u,v=.value u)/\C d
variable {ops:Array Oper} {C:World->Prop} {Q:Exit->Act->World->Prop}
theorem oW.of_same {o:Oper} {v:Value} {a d:Act} (i:oW P ops C o v a) (j:execOp d.eval o=execOp a.eval o)
  (f:Region.wanted o (yielded ops d.tmps)=Region.wanted o (yielded ops a.tmps)):oW P ops C o v d:=by
 rcases i with ⟨e,g⟩|⟨e,g⟩
 .exact .inl ⟨by rw[f];exact e,fun w l=>by simp_all⟩
 .exact .inr ⟨by rw[f];exact e,g⟩
theorem oW.wpOpIn {i:Nat} {o:Oper} {v:Value} {a:Act} (hd:mr ops=true) (hi:ops[i]? =a6 o) (e:oW P ops C o v a) {K:Act->World->Prop} {w:World} (f:C w) (h:K (a.put o.dst v) w):wpOpIn (FW rd) n P ops Q i K a w:=by
 unfold Go.wpOpIn;simp only[hi];rcases e with ⟨d,g⟩|⟨d,rfl⟩
 .rw[am d];refine⟨pX o w _, ?_⟩;rw[wU (nX hd i o hi).1,g w f];exact h
 .rw[aq (by rw[d];simp)]
  grind [pX]
theorem afV {j:Nat} {e g:Oper} {v:Value} (hd:mr ops=true) (hi: ∃i:Nat,ops[i]? =a6 e) (p:ops[j]? =a6 g) (A:e.apart ops g=true) (B:Yb P C g) (I: ∀c a w,¬Q (.panic c) a w) {K:Act->World->Prop} {a:Act} {w:World} (J:C w)
  (l:oW P ops C e v a) (h:wpOpIn (FW rd) n P ops Q j K (a.put e.dst v) w):wpOpIn (FW rd) n P ops Q j (fun q w'=>C w'/\oW P ops C e v q/\K (q.put e.dst v) w') a w:=by
 obtain⟨s,L,y⟩:=Oper.apart_spec A;obtain⟨i,hi⟩:=hi;have D:=(nX hd i e hi).2;obtain⟨z,E⟩:=nX hd j g p;have M: ∀(a:Act),oW P ops C e v a-> ∀u,oW P ops C e v (a.put g.dst u):=fun a l u=>l.of_same (execOp_put e D a g.dst u y) (wanted_put e a g.dst u y);unfold wpOpIn at*;simp only[p]at*;rw[wanted_put g a e.dst v s]at h;split
 .rename_i o
  rw[am o]at h;unfold Oper.wpIn at*;refine⟨pX g w _, ?_⟩;have h:=h.2;rw[wU z,execOp_put g E a e.dst v s]at h;rw[wU z];have hk:(∀w,C w)\/ ∀x w',(execOp a.eval g).run P w=.ok x w'->(∃u,x=.value u)/\C w':=by
   rcases B with hk|hk
   all_goals grind
  generalize (execOp a.eval g).run P w=r at*;cases r with
  |ok x w'=>
   have G:(∀w,C w)\/((∃u,x=.value u)/\C w'):=by
    simp_all
   cases x<;>simp only[Oper.uponIn]at h ⊢
   case value u=>
    grind [Act.put_comm]
   case skip=>
    grind [Act.put_comm]
   case defer d=>
    rcases G with hk|hk
    .have N: ∀d,oW P ops C e v {a with defers:=d::a.defers}:=fun d=>l.of_same rfl rfl
     grind [Act.put_comm,Act.put_defers]
    simp_all
   case enter f args=>
    grind [Act.put_comm]
   case row row args=>
    grind [Act.put_comm]
   grind [Act.put_comm]
  |halt x w'=>
   cases x<;>simp only[Oper.uponIn]at h ⊢;simp_all
 .rename_i o
  rw[aq o]at h
  grind [pX,Act.put_comm]
theorem MP {l:List Nat} {i:Nat}:Xb l i=true↔i∈l:=by
 simp_all [Xb]
theorem Fb {i:Nat} {p:Oper} {v:Value} (hd:mr ops=true) (hi:ops[i]? =a6 p) (B: ∀c a w,¬Q (.panic c) a w) (D:List Nat) (E: ∀j∈D,j≠i->Fa ops j D=true):
  ∀(q:Nat) (d:Array Bool) (a:Act) (w:World),C w->(∀j∈D,d.getD j true=false)->
   (∀j o,ops[j]? =a6 o->j∉D->d.getD j true=false->p.apart ops o=true/\Yb P C o)->i∈D->
   i∈Region.ready .any ops d->oW P ops C p v a->
   wpAnyIn (FW rd) n P .any ops Q q (d.setIfInBounds i true) (a.put p.dst v) w->wpAnyIn (FW rd) n P .any ops Q (q+1) d a w:=by
 have G: ∀(d:Array Bool) (j:Nat),(∀j∈D,d.getD j true=false)->j∈Region.ready .any ops d->j≠i->j∉D:=fun d j hl l f s=>by
  have g:=E j s f;unfold Fa at g;obtain⟨_,o,u,I⟩:=mem_ready.1 l;rw[u]at g;obtain⟨e,Z,J⟩:=Array.any_eq_true'.1 g;simp only[af]at J
  grind [MP]
 intro q
 induction q with
 |zero=>
  intro d a w g hl _ y hr x H;refine⟨fun h=>(by simp_all),fun j l=> ?_⟩;by_cases f:j=i
  .subst f;exact x.wpOpIn hd hi g H
  .have:=ready_mono l f;rw[H.1]at this;cases this
 |succ q K=>
  intro d a w g hl z y hr x H;refine⟨fun h=>(by simp_all),fun j l=> ?_⟩;by_cases f:j=i
  .subst f;exact x.wpOpIn hd hi g H
  .have L:=H.2 j (ready_mono l f);have s:=G d j hl l f;obtain⟨M,o,u,I⟩:=mem_ready.1 l;obtain⟨N,O⟩:=z j o u s M;have S:=afV hd ⟨i,hi⟩ u N O B g x L;have U: ∀k∈D,(d.setIfInBounds j true).getD k true=false:=fun k hk=>by
    rw[getD_set_ne true (fun e=>s (by rw[e];exact hk))];exact hl k hk
   have V: ∀k ok,ops[k]? =a6 ok->k∉D->(d.setIfInBounds j true).getD k true=false->p.apart ops ok=true/\Yb P C ok:=fun k ok hk W ab=>by
    refine z k ok hk W ?_;by_cases hjk:j=k
    all_goals simp_all
   refine wpOpIn_mono (fun X Y A=>K (d.setIfInBounds j true) X Y A.1 U V y (ready_mono hr (Ne.symm f)) A.2.1 ?_) S;simp_all [Array.setIfInBounds_comm]
theorem JH {cl:Bool} {call:gI R} {K:St->Option R} (o:Oper) (l:List Oper) (st:St):ig T cl call ops K (o::l) st=ig T cl call ops (ig T cl call ops K l) [o] st:=by
 simp only[ig]
theorem ae0 {cl:Bool} {call:gI R} {K:St->Option R} {o:Oper} (h:ig T cl call ops K [o] st=a6 r) (hr:iM W0 b0 rd c st a ats):
  (Region.wanted o (yielded ops a.tmps)=true/\ ∃st1,iM W0 b0 rd c st1 a ats/\eH T cl call o st1 (fun v st=>K (st.put o.dst v))=a6 r)\/
  (Region.wanted o (yielded ops a.tmps)=false/\ ∃st1,iM W0 b0 rd c st1 (a.put o.dst undef) ats/\K st1=a6 r):=by
 simp only[ig]at h;have y: ∀(st:St),iM W0 b0 rd c st a ats->iM W0 b0 rd c (st.put o.dst (.tup [])) (a.put o.dst undef) ats:=fun st hr=>hr.put (by simp only[bW];exact⟨#[],rfl,by simp[bK]⟩);cases hg:o.guard with
 |none=>
  grind [Region.wanted]
 |some l=>
  obtain⟨j,p⟩:=l;rw[hg]at h;simp only at h;split at h
  .cases h
  .rename_i d hd
   have f:=Je ops j d hd a.tmps;have e:=hr.fr.getD d;have q:=bK.length _ _ hr.fr;rw[Array.length_toList]at q;split at h
   .rename_i b g
    rw[g]at e;simp only[bW]at e;have s:=e.bool_inv;have A:d<a.tmps.size:=by
     grind
    have i:a.tmps[d]? =a6 (.bool b):=by
     simp_all
    rw[i]at f;simp only at f;have u:a.put (a6 d) (.bool b)=a:=by
     simp only[Act.put];obtain⟨B,D⟩:=Array.getElem?_eq_some_iff.1 i;have:a.tmps.setIfInBounds d (.bool b)=a.tmps:=by
      grind
     rw[this]
    have E:iM W0 b0 rd c (st.put (a6 d) (.val .bool b)) a ats:=by
     have:=hr.put (dst:=a6 d) (z:=.val .bool b) (v:=.bool b) (by simp_all [bW]);rwa [u]at this
    cases b<;>cases p<;>(try simp only[aa,ac]at h)
    .grind [Region.wanted]
    .grind [Region.wanted]
    .grind [Region.wanted]
    grind [Region.wanted]
   .rename_i g
    rw[g]at e;simp only[bW]at e;obtain⟨G,s,_⟩:=e;have I:yielded ops a.tmps j=a7:=by
     rw[f];cases he:a.tmps[d]? with
     |none=>rfl
     |some x=>
      simp_all
    grind [Region.wanted]
   .cases h
theorem afP {e:Array Bool} {i:Nat} {pure:Bool} {f:Oper} (hi:ops[i]? =a6 f) (h:U9 ops e i pure=true): ∃D:List Nat,i∈D/\(∀j∈D,e.getD j true=false)/\(∀j∈D,j≠i->Fa ops j D=true)/\
  ∀j d,ops[j]? =a6 d->j∉D->e.getD j true=false->f.apart ops d=true/\(pure=true\/PP d.op=true):=by
 unfold U9 at h;rw[hi]at h;simp only[af]at h;obtain⟨l,o,p⟩:=h;refine⟨_,MP.1 l,fun j g=> ?_,fun j g s=> ?_,fun j d q u hl=> ?_⟩
 .simp_all
 .have:=List.all_eq_true.1 o j g;simp_all
 .have:=List.all_eq_true.1 p j (List.mem_range.2 (Array.getElem?_eq_some_iff.1 q).1);simp_all [MP]
theorem Xi {f:Op->Bool} {i:Nat} (h:ahF ops f i=true): ∃o,ops[i]? =a6 o/\f o.op=true:=by
 grind [ahF]
theorem air {d:Op} (h:IR d=true):iy d=true:=by
 cases d<;>simp_all [IR,iy,jM]
theorem ED (hT:TOk P T) {cl:Bool} {call:gI R} (G:lV P W0 n call) (hd:mr ops=true) {K:St->Option R} {Q:Act->World->Prop}:
  ∀(o:Nat) (g:Array Bool) (l:List Nat) (c:Cx) (st:St) (a:Act),tY ops o g=a6 l->ig T cl call ops K (l.filterMap fun i=>ops[i]?) st=a6 r->iM W0 b0 rd c st a ats->
   (∀c' M S,K M=a6 r->iM W0 b0 rd c' M S ats->c.Mono c'->Q S c'.w)->wpAnyIn (FW rd) n P .any ops (fun e a w=>e=.normal/\Q a w) o g a c.w
 |0,g,l,c,st,a,d,h,hr,A=>by
  simp only[tY]at d;rw[cond_eq_ite]at d;split at d
  .rename_i he
   cases d;simp only[List.filterMap_nil,ig]at h;exact⟨by simpa using he,rfl,A c st a h hr (Cx.Mono.refl c)⟩
  .cases d
 |o+1,g,l,c,st,a,d,h,hr,A=>by
  have U: ∀c (a:Act) (w:World),¬(Exit.panic c=.normal/\Q a w):=fun c a w h=>by cases h.1
  have take: ∀(i:Nat) (s:Bool) (q:List Nat),i∈Region.ready .any ops g->(if s then ahF ops IR i=true else ahF ops iy i=true)->U9 ops g i s=true->tY ops o (g.setIfInBounds i true)=a6 q->
    ig T cl call ops K ((i::q).filterMap fun i=>ops[i]?) st=a6 r->wpAnyIn (FW rd) n P .any ops (fun e a w=>e=.normal/\Q a w) (o+1) g a c.w:=fun i s q V av ah I h=>by
   obtain⟨p,N,hq,ai⟩: ∃p,ops[i]? =a6 p/\iy p.op=true/\(s=true->IR p.op=true):=by
    grind [Xi,air]
   obtain⟨D,W,X,Y,d4⟩:=afP N ah;simp only[List.filterMap_cons,N]at h;rw[JH]at h;have Z: ∀j J,ops[j]? =a6 J->j∉D->g.getD j true=false->p.apart ops J=true/\Yb P (fun w=>s=true\/GK c w) J:=fun j J aj ak hl=>by
    obtain⟨e1,L⟩:=d4 j J aj ak hl;refine⟨e1, ?_⟩;rcases L with L|L
    .exact .inl fun w=>.inl L
    .refine .inr fun ρ w v w' E hx=> ?_;obtain⟨hu,hb⟩:=ahi L ρ P w v w' hx;exact⟨hu,E.imp (fun h=>h) fun E=>E.trans (hb.mono E.size)⟩
   have ab:s=true\/GK c c.w:=.inr (Below.refl _ _);rcases ae0 h hr with ⟨x,B,f,y⟩|⟨x,B,f,y⟩
   .have hy: ∃z u,ig T cl call ops K (q.filterMap fun i=>ops[i]?) (B.put p.dst z)=a6 r/\bW c z u/\oW P ops (fun w=>s=true\/GK c w) p u a:=by
     cases s with
     |true=>
      obtain⟨z,u,k1,k2,k3⟩:=aBg hT f.ok (ai rfl) f.hp f.fr y;exact⟨z,u,k1,k2,.inl ⟨x,fun w _=>k3 w⟩⟩
     |false=>
      obtain⟨z,u,k1,k2,k3⟩:=Ai hT f.ok hq f.hp f.fr y;exact⟨z,u,k1,k2,.inl ⟨x,fun w E=>k3 w (E.resolve_left (by simp))⟩⟩
    obtain⟨z,u,k1,k2,k3⟩:=hy;exact Fb hd N U D Y o g a c.w ab X Z W V k3 (ED hT G hd o _ q c (B.put p.dst z) (a.put p.dst u) I k1 (f.put k2) A)
   .exact Fb hd N U D Y o g a c.w ab X Z W V (.inr ⟨x,rfl⟩) (ED hT G hd o _ q c B (a.put p.dst undef) I y f A)
  simp only[tY]at d;split at d
  .rename_i O
   cases d;simp only[List.filterMap_nil,ig]at h;exact⟨fun _=>⟨rfl,A c st a h hr (Cx.Mono.refl c)⟩,by rw[O];simp⟩
  .rename_i k rs O
   split at d
   .grind
   .split at d
    .grind
    .split at d
     .split at d
      .rename_i q I
       cases d;obtain⟨_,ok,ad,_⟩:=mem_ready.1 (show k∈Region.ready .any ops g by rw[O];simp);simp only[List.filterMap_cons,ad]at h;rw[JH]at h;refine wpAnyIn_all O (by simp) fun j hj=> ?_;obtain rfl:j=k:=by simpa using hj
       unfold wpOpIn;simp only[ad];rcases ae0 h hr with ⟨x,B,f,y⟩|⟨x,B,f,y⟩
       .rw[am x];exact Ua hT G y f fun c' z u M k1 k2 k3 k4=>ED hT G hd o _ q c' (M.put ok.dst z) (a.put ok.dst u) I k1 (k2.put k3) fun al an ao q1 q2 q3=>A al an ao q1 q2 (k4.trans q3)
       .rw[aq (by rw[x];simp)];exact⟨pX ok c.w _,ED hT G hd o _ q c B (a.put ok.dst undef) I y f A⟩
      .cases d
     .cases d
theorem VM (hT:TOk P T) (i:P.follows .mixedOrders=true) {cl:Bool} {call:gI R} (j:lV P W0 n call) {id:Nat} {l:List Oper} (hp:ain ops=a6 l) {K:St->Option R} {Q:Exit->Act->World->Prop}
  (h:ig T cl call ops K l st=a6 r) (hr:iM W0 b0 rd c st a ats) (o: ∀c' d f,K d=a6 r->iM W0 b0 rd c' d f ats->c.Mono c'->Q .normal f c'.w):
  (Code.region id ops true).wpIn (FW rd) n P Q a c.w:=by
 unfold ain at hp;rw[cond_eq_ite]at hp;split at hp
 .rename_i hd
  split at hp
  .rename_i p q
   cases hp;have g:GK c {c.w with drawn:=c.w.drawn+1}:=⟨rfl,rfl,rfl,ae _,fun _ _=>rfl⟩;have s:=ED (Q:=fun a w=>Q .normal a w) hT j hd ops.size _ p (c.at_ {c.w with drawn:=c.w.drawn+1}) st a q h (hr.ext g) fun c' d f k1 k2 k3=>o c' d f k1 k2 ((Cx.Le.ext g).mono.trans k3);exact Code.wpIn_mono (fun e a w u=>by simp_all) (wpIn_region_any i s)
  .cases hp
 .cases hp
end
end
section
open Option renaming some → a6, none → a7
open List renaming mem_cons_of_mem → ak
open Nat renaming lt_of_lt_of_le → aZ
open Go.RowKit
def uA {R:Type} (P:Program) (W0:World) (l:mO R):Prop:=
 ∀(f:FuncId) (g:List bU) (st:St) (K:bU->St->Option R) (r:R),l (.call f g) st K=a6 r->
  ∀(b0:Nat) (rd:Option Nat) (c:Cx) (a:Act) (ats:List (Array Value)) (d:Array Value),iM W0 b0 rd c st a ats->bK c g d.toList->
   ∀i:Ending->World->Prop,(∀e z u j,K z j=a6 r->iM W0 b0 rd e j a ats->bW e z u->c.Mono e->i (.returned u) e.w)->
    (callFunc f d).run P c.w=.ok (.enter f d) c.w/\Calls P f d c.w i
section
variable {P:Program} {T:TT} {W0:World} {b0 n:Nat} {rd:Option Nat} {c:Cx} {R:Type} {r:R} {st:St} {a:Act} {ats:List (Array Value)}
def Ex.xt:Ex->Exit
 |.normal=>.normal
 |.exit i=>.exit i
 |.goto l=>.goto l
 |.ret=>.ret
section
variable {F:Fence} {b:Frame} {k:List Item} {cs:List Frame} {w:World} {Q:Exit->Act->World->Prop}
theorem pV {x:Code}:step P (lone (b.atR a (.code (.scope x)::k)) cs w)=.next (lone (b.atR a (.code x:: .inScope x::k)) cs w):=
 step_lone_go (by rfl)
theorem VW {x:Code}:step P (lone (b.atR a (.inScope x::k)) cs w)=.next (lone (b.atR a k) cs w):=
 step_lone_go (by rfl)
theorem aiN {x:Code} (h:x.wpIn F n P (fun e a w=>(∀l,e≠ .goto l)/\Q e a w) a w):(Code.scope x).wpIn F n P Q a w:=by
 intro b k cs s o hr;have d:(lone (b.atR a (.code (.scope x)::k)) cs w).fenced P F:=fenced_calm o hr rfl;obtain⟨e,g,i,⟨B,j⟩,f⟩:=h b (.inScope x::k) cs s o hr;cases e with
 |normal=>exact⟨.normal,g,i,j,.head d pV (StepsIn.trans f (.one (fenced_calm o hr rfl) VW))⟩
 |exit p=>
  have q:exitTo p (.inScope x::k)=exitTo p k:=by simp[exitTo]
  exact⟨.exit p,g,i,j,fun u hk=>.head d pV (f.1 u (by rw[q];exact hk)),
   fun v hk=>let⟨y,z,A⟩:=f.2 v (by rw[q];exact hk);⟨y,z,.head d pV A⟩⟩
 |goto l=>simp_all
 |ret=>exact⟨_,g,i,j,.of_steps (.one d pV) f⟩
 |panic D=>exact⟨_,g,i,j,.of_steps (.one d pV) f⟩
 |outgrown=>exact⟨_,g,i,j,.of_steps (.one d pV) f⟩
end
theorem avg (d:c.Ok W0):c.Le {c with w:=c.w.alloc (.deferred (a6 [])),mks:=c.w.heap.size::c.mks}/\({c with w:=c.w.alloc (.deferred (a6 [])),mks:=c.w.heap.size::c.mks}:Cx).Ok W0:=by
 have f:=ni c.w (.deferred (a6 []));have j:c.Le {c with w:=c.w.alloc (.deferred (a6 [])),mks:=c.w.heap.size::c.mks}:=
  ⟨fun b g=>⟨⟨aZ g.1 f.size,g.2.1,by
    intro p;rcases List.mem_cons.1 p with e|e
    .have:=g.1;omega
    .exact g.2.2 e⟩,f.block b g.1⟩,fun _ h=>h,fun id o _ i=>⟨o,i,o.like_refl _⟩,fun r hr=>ak _ hr,fun b L l=>⟨L,(f.block b (Array.getElem?_eq_some_iff.1 l).1).trans l⟩,f.size,rfl⟩
 refine⟨j,⟨d.bel.trans (f.mono d.size),fun id o i=>(d.obj id o i).le j rfl fun b q=>f.block b ((d.obj id o i).lt q).2,d.inj,fun r hr=> ?_,fun b f=>(j.out b (d.bar b f)).1,d.phi⟩⟩;rcases List.mem_cons.1 hr with e|e
 .subst e;exact⟨d.size,World.alloc_heap_new _ _⟩
 .exact⟨(d.mks r e).1,(f.block r (d.mark_lt e)).trans (d.mks r e).2⟩
theorem aFC (g:c.Ok W0) {st:St} (i:c.hp=st.hp) (h2:c.nxt=st.nxt) {id n':Nat} (p:dQ st.hp id=a7) (q:st.nxt<=id) (y:st.nxt<=n') {f:FuncId} {fr:List bU} {L:Loop} (s:bK c fr L.tmps.toList) (u:L.state=.ready) (hp:L.pending=a7) {d:Option Nat} (v: ∀k,d=a6 k->qK f k=a6 (L.assign,L.body)):
  ∃c',AU W0 c st c' {st with hp:=(id,.lp f fr L.params.toList L.assign L.body d 0 a7)::st.hp,nxt:=n'}/\c'.w=c.w.alloc (.loop L)/\bW c' (.yld id) (.func (.yield c.w.heap.size) #[] #[])/\c'.mks=c.mks:=by
 have hk:=Ae i h2 p q;have e:=ni c.w (.loop L);have hl: ∀b,dM.blk (.lp f fr L.params.toList L.assign L.body d 0 a7) ⟨c.w.heap.size,undef⟩=a6 b->c.w.heap.size<=b:=fun b e=>by
  simp_all [dM.blk]
 have j:=Cx.Le.push (o:=.lp f fr L.params.toList L.assign L.body d 0 a7) (l:=⟨c.w.heap.size,undef⟩) (nxt:=n') (w:=c.w.alloc (.loop L)) hk (by omega) e.size e.block hl;have x:(c.push id (.lp f fr L.params.toList L.assign L.body d 0 a7) ⟨c.w.heap.size,undef⟩ n' (c.w.alloc (.loop L))).ORel W0.heap.size id (.lp f fr L.params.toList L.assign L.body d 0 a7):=by
  refine⟨v,by simp[Cx.push,upd_same];exact g.size,L, ?_,bK.le j _ _ s,rfl,rfl,rfl,u,hp⟩;simp only[Cx.push,upd_same];exact World.alloc_heap_new c.w _
 refine⟨_,⟨?_,rfl,rfl,rfl,g.push hk (by omega) e hl x,j⟩,rfl, ?_,rfl⟩
 .simp[Cx.push,i]
 .simp only[bW];refine⟨rfl,.inl ⟨_,by simp[Cx.push,eG];rfl⟩,fun _ _ _ _ _ _ _ _ _=>by simp[Cx.push,upd_same]⟩
theorem I5 (g:c.Ok W0) {id:Nat} {f:FuncId} {fr:List bU} {i:List Nat} {asg l:Code} {o:Option Nat} {k:Nat} {p:Option Ex} (v:dQ c.hp id=a6 (.lp f fr i asg l o k p)) {L:Loop} (y:c.w.heap[(c.mu id).blk]? =a6 (.loop L)) (d:Loop)
  {o':dM} (x:o'=.dead\/(∃s u,o'=.lp f fr i asg l o s u/\aqu s u d/\d.tmps=L.tmps/\d.params=L.params/\d.assign=L.assign/\d.body=L.body)):
  ∃c',c'.hp=iU c.hp id o'/\c'.nxt=c.nxt/\c.Le c'/\c'.Ok W0/\c'.w=c.w.putObj (c.mu id).blk (.loop d)/\c'.mks=c.mks:=by
 have G:(c.mu id).blk<c.w.heap.size:=(Array.getElem?_eq_some_iff.1 y).1;obtain⟨I,J,K,z,M,N,O,S,e4⟩:=g.obj id _ v;rw[y]at z;have U:K=L:=by cases z;rfl
 subst U;have hk:(dM.lp f fr i asg l o k p).like (c.mu id) o' (c.mu id):=by
  rcases x with rfl|⟨s,u,rfl,_⟩<;>simp[dM.like]
 have A:c.w.heap.size<=(c.w.putObj (c.mu id).blk (.loop d)).heap.size:=by simp
 have q: ∀b,b<c.w.heap.size->(dM.lp f fr i asg l o k p).blk (c.mu id)≠a6 b->(c.w.putObj (c.mu id).blk (.loop d)).heap[b]? =c.w.heap[b]? :=fun b _ V=>
  World.putObj_heap_other fun e=>V (by rw[e];rfl)
 have hl: ∀b,o'.blk (c.mu id)=a6 b->(dM.lp f fr i asg l o k p).blk (c.mu id)=a6 b\/c.w.heap.size<=b:=fun b q=>by
  rcases x with rfl|⟨s,u,rfl,_⟩
  .cases q
  .exact .inl q
 have B: ∀(b:Nat) (D:Loop),(dM.lp f fr i asg l o k p).blk (c.mu id)=a6 b->c.w.heap[b]? =a6 (Obj.loop D)-> ∃W:Loop,(c.w.putObj (c.mu id).blk (.loop d)).heap[b]? =a6 (Obj.loop W):=fun b D q _=>by
  grind [dM.blk,World.putObj_heap_same]
 have X:Below W0.heap.size W0 (c.w.putObj (c.mu id).blk (.loop d)):=
  ⟨g.bel.os,g.bel.tape,g.bel.output,by omega,fun j Y=>(World.putObj_heap_other (by omega)).trans (g.bel.block j Y)⟩
 have E:=Cx.Le.put g v hk A q hl B;refine⟨c.put id o' (c.mu id) (c.w.putObj (c.mu id).blk (.loop d)),rfl,rfl,E,Cx.Ok.put g v hk X A q hl B ?_,rfl,rfl⟩;rcases x with rfl|⟨s,u,rfl,Z,h2,h3,h4,h5⟩
 .trivial
 .refine⟨I,by simp only[Cx.put,upd_same];exact J,d, ?_,bK.le E _ _ (by rw[h2];exact M),by rw[h3];exact N,by rw[h4];exact O,by rw[h5];exact S,Z⟩;simp only[Cx.put,upd_same];exact World.putObj_heap_same G
end
end
section
open Option renaming some → a6, none → a7
open Go.RowKit
section
variable {T:TT} {cl:Bool} {R:Type} {r:R} {sg:FuncId->Option Sum}
theorem zN {dst:Option Nat} {o:dM} {st:St} {K:Nat->St->Option R} (h:alloc cl dst o st K=a6 r): ∃i d,K i d=a6 r:=by
 unfold alloc at h
 grind
theorem aLn {b:Bool} {k:Option R} (h:lL b k=a6 r):k=a6 r:=(dG h).2
theorem aD5 {d:BinOp} {t:TypeId} {x y:bU} {K:bU->Option R} (h:adk T d t x y K=a6 r): ∃z,K z=a6 r:=by
 unfold adk at h;simp only[lL,cond_eq_ite]at h
 grind
theorem ayT {hp:gQ} {d:BinOp} {t:TypeId} {x y:bU} {K:bU->Option R} (h:RX T hp d t x y K=a6 r): ∃z,K z=a6 r:=by
 unfold RX at h;simp only[cond_eq_ite]at h
 grind [aD5]
theorem aIS {d:UnOp} {x:bU} {K:bU->Option R} (h:asV d x K=a6 r): ∃z,K z=a6 r:=by
 unfold asV at h
 grind
theorem ayU {hp:gQ} {t:TypeId} {a:bU} {K:bU->Option R} (h:LY T hp t a K=a6 r): ∃z,K z=a6 r:=by
 unfold LY at h
 grind
theorem aD6 {d:gQ} {st:St} {a v:bU} {K:St->Option R} (h:adl d st a v K=a6 r): ∃z,K z=a6 r:=by
 unfold adl at h;simp only[cond_eq_ite]at h
 repeat' split at h
 all_goals first|cases h;done|exact⟨_,h⟩
theorem asY {st:St} {t:TypeId} {a v:bU} {K:St->Option R} (h:JG T st t a v K=a6 r): ∃z,K z=a6 r:=by
 unfold JG at h;simp only[cond_eq_ite]at h
 repeat' split at h
 all_goals first|cases h;done|exact⟨_,h⟩
theorem agV {s d:TypeId} {x:bU} {hp:gQ} {K:bU->Option R} (h:zM T s d x hp K=a6 r): ∃z,K z=a6 r:=by
 unfold zM at h;simp only[lL,cond_eq_ite]at h
 grind
theorem asX {hp:gQ} {t:TypeId} {x:bU} {lo hi d:Option bU} {K:bU->Option R} (h:JF T hp t x lo hi d K=a6 r): ∃z,K z=a6 r:=by
 unfold JF at h;simp only[lL,cond_eq_ite]at h
 grind
theorem YF {hp:gQ} {t:TypeId} {x:bU} {f:Nat} {K:bU->Option R} (h:tq T hp t x f K=a6 r): ∃z,K z=a6 r:=by
 unfold tq at h;simp only[cond_eq_ite]at h
 repeat' split at h
 all_goals first|cases h;done|exact⟨_,h⟩
theorem asW {t:TypeId} {x:bU} {f:Nat} {K:bU->Option R} (h:JD T t x f K=a6 r): ∃z,K z=a6 r:=by
 unfold JD at h
 repeat' split at h
 all_goals first|cases h;done|exact⟨_,h⟩
theorem YG {hp:gQ} {t:TypeId} {x i:bU} {K:bU->Option R} (h:tu T hp t x i K=a6 r): ∃z,K z=a6 r:=by
 unfold tu at h;simp only[lL,cond_eq_ite]at h
 repeat' split at h
 all_goals first|cases h;done|exact⟨_,h⟩
theorem aD7 {hp:gQ} {t:TypeId} {x:bU} {K:bU->Option R} (h:adm T hp t x K=a6 r): ∃z,K z=a6 r:=by
 unfold adm at h;simp only[lL,cond_eq_ite]at h
 grind
theorem aoa {dst:Option Nat} {t:TypeId} {s x:bU} {st:St} {K:bU->St->Option R} (h:JB T cl dst t s x st K=a6 r): ∃z d,K z d=a6 r:=by
 unfold JB at h;simp only[lL,cond_eq_ite]at h
 repeat' split at h
 all_goals first|cases h;done|exact⟨_,_,h⟩|grind [zN]
theorem agT {dst:Option Nat} {t t':TypeId} {s x:bU} {st:St} {K:bU->St->Option R} (h:zL T cl dst t t' s x st K=a6 r): ∃z d,K z d=a6 r:=by
 unfold zL at h;simp only[lL,cond_eq_ite]at h
 repeat' split at h
 all_goals first|cases h;done|exact⟨_,_,h⟩|grind [zN]
theorem agU {o:Oper} {b:Builtin} {d:List TypeId} {args:List bU} {st:St} {K:bU->St->Option R} (h:kD T cl o b d args st K=a6 r): ∃z e,K z e=a6 r:=by
 unfold kD at h;simp only[lL,cond_eq_ite]at h
 grind [aD7,aoa,agT]
def xw (sg:FuncId->Option Sum) (call:gI R):Prop:= ∀g s d e st (K:bU->St->Option R) r,sg g=a6 s->call (.fn g []) d e st K=a6 r-> ∃z f,K z f=a6 r
theorem asZ {s:Sum} {args:List bU} {dst:Option Nat} {st:St} {K:bU->St->Option R} (h:s.call cl args dst st K=a6 r): ∃z d,K z d=a6 r:=by
 unfold Sum.call at h;simp only[cond_eq_ite]at h;split at h
 .split at h
  .rename_i x e
   cases hf:s.f x with
   |none=>simp_all [bJ]
   |some y=>
    grind [bJ,zN]
  .cases h
 .cases h
theorem aje {call:gI R} (hx:xw sg call) {o:Oper} {st:St} {K:bU->St->Option R} (hp:uX sg o.op=true) (h:eH T cl call o st K=a6 r): ∃z d,K z d=a6 r:=by
 obtain⟨j,e,l,p,q,u⟩:=o;cases e with
 |call c=>
  simp only[eH]at h;simp only[uX]at hp;split at h
  .exact agU h
  .rename_i f i
   rw[i]at hp;cases f with
   |func g=>
    simp only at hp;cases hs:sg g with
    |none=>simp_all
    |some s=>exact hx g s _ _ _ _ _ hs h
   |_=>simp at hp
  .cases h
 |store t x y=>
  grind [eH,asY,aD6]
 |_=>
  simp only[eH,lL,cond_eq_ite]at h
  repeat' split at h
  all_goals first
   |cases h;done
   |exact⟨_,_,h⟩
   |(obtain⟨_,_,h⟩:=zN h;exact⟨_,_,h⟩)
   |(obtain⟨_,_,h⟩:=zN h;obtain⟨_,_,h⟩:=zN h;exact⟨_,_,h⟩)
   |(obtain⟨_,h⟩:=ayU h;exact⟨_,_,h⟩)
   |(obtain⟨_,h⟩:=ayT h;exact⟨_,_,h⟩)
   |(obtain⟨_,h⟩:=aIS h;exact⟨_,_,h⟩)
   |(obtain⟨_,h⟩:=agV h;exact⟨_,_,h⟩)
   |(obtain⟨_,h⟩:=asX h;exact⟨_,_,h⟩)
   |(obtain⟨_,h⟩:=YF h;exact⟨_,_,h⟩)
   |(obtain⟨_,h⟩:=asW h;exact⟨_,_,h⟩)
   |grind [YG]
theorem Yp {E:Env} {d:mO R}:xw E.sg (vY E d):=fun g s e f st K r i h=>by
 grind [vY,asZ]
theorem aHj:xw (R:=R) sg (GX sg cl):=fun g s e f st K r d h=>by
 simp only[GX,d]at h;exact asZ (dG h).2
theorem aoX {o:Op} (h:iy o=true):uX sg o=true:=by
 cases o with
 |call c=>
  grind [iy,uX]
 |_=>rfl
theorem Io {call:gI R} (hx:xw sg call) {ops:Array Oper} {d:List bU}: ∀(l:List Nat) {st:St} {K:St->Option R},yg T cl call ops d l st K=a6 r-> ∃e,K e=a6 r
 |[],st,K,h=>⟨st,h⟩
 |i::l,st,K,h=>by
  simp only[yg]at h;split at h
  .rw[cond_eq_ite]at h;split at h
   .rename_i f
    obtain⟨_,_,h⟩:=aje hx (aoX f) h;exact Io hx l (dG h).2
   .exact Io hx l (dG h).2
  .cases h
theorem YH {call:gI R} (hx:xw sg call) {ops:Array Oper} (hp: ∀o∈ops.toList,uX sg o.op=true) {j:Nat} {log:List Nat} {st:St} {K:St->Option R} (h:tJ T cl call ops j log st K=a6 r): ∃d,K d=a6 r:=by
 unfold tJ at h;split at h
 .rename_i e f
  obtain⟨_,_,h⟩:=aje hx (hp e (by grind)) (dG h).2
  grind [Io]
 .cases h
theorem VF {d e:Type} {o:Option d} {k:d->Option e} {y:e} (h:bJ o k=a6 y): ∃x,o=a6 x/\k x=a6 y:=by
 cases o with
 |none=>simp[bJ]at h
 |some x=>exact⟨x,rfl,h⟩
theorem yA {k:Option R} {r:R}: ∀(l:List (Option Unit)),QT l k=a6 r->k=a6 r/\ ∀x∈l,x=a6 ()
 |[],h=>⟨h,fun _ d=>by cases d⟩
 |o::l,h=>by
  simp only[QT]at h;obtain⟨⟨⟩,f,e⟩:=VF h;obtain⟨g,i⟩:=yA l e
  grind
theorem RY {ops:Array Oper} (hp: ∀o∈ops.toList,uX sg o.op=true) {p:gI St} {q:gI Unit} (e:xw sg p) (f:xw sg q): ∀(n:Nat) {R:Type} {r:R} {call:gI R},xw sg call-> ∀(l:Array Bool) (log:List Nat) (st:St) (K:St->Option R),
  l9 T cl sg p q ops n call l log st K=a6 r-> ∃u,K u=a6 r
 |0,R,r,call,d,l,log,st,K,h=>by simp[l9]at h
 |n+1,R,r,call,d,l,log,st,K,h=>by
  have s: ∀{i:Nat} {g:Oper},ops[i]? =a6 g->uX sg g.op=true:=fun {i g} j=>hp g (by grind);simp only[l9]at h;split at h
  .exact⟨st,h⟩
  .split at h
   .split at h
    .rename_i j
     obtain⟨_,_,h⟩:=aje d (s j) (dG h).2;exact RY hp e f n d _ _ _ _ h
    .cases h
   .split at h
    .split at h
     .rename_i j
      obtain⟨_,_,h⟩:=aje (aHj (sg:=sg)) (s j) (dG h).2;exact RY hp e f n d _ _ _ _ h
     .cases h
    .split at h
     .obtain⟨_,h⟩:=YH d hp h;exact RY hp e f n d _ _ _ _ h
     .rw[cond_eq_ite]at h;split at h
      .grind
      .obtain⟨_,h⟩:=YH d hp h;obtain⟨_,h⟩:=RY hp e f n d _ _ _ _ h;replace h:=(dG h).2
       grind [yA]
end
end
section
open Option renaming some → a6, none → a7
open Bool renaming and_eq_true → af, false_eq_true → ag, and_true → ay, not_false → az, true_and → aK, not_eq_true' → aY, not_eq_true → bg
open List renaming mem_cons_of_mem → ak, map_cons → au, mem_cons_self → aB, cons_append → aH, length_map → aQ, all_cons → aW, mem_append_left → bF
open Nat renaming le_refl → ae, eq_of_beq_eq_true → ah
open Go.RowKit
section
variable {P:Program} {T:TT} {W0:World} {b0 n:Nat} {rd:Option Nat} {c:Cx} {st:St} {a:Act} {sg:FuncId->Option Sum} {cl:Bool} {ats:List (Array Value)} {ops:Array Oper}
def qO:(t:Ty)->t.den->List Value
 |.unit,_=>[]
 |.bool,x=>[.bool x]
 |.int k,x=>[.int k x]
 |.str,x=>[.string ⟨x.toArray⟩]
 |.list _,_=>[]
 |.pair a b,x=>qO a x.1++qO b x.2
theorem uf {w:World} {fr:Nat->Prop}: ∀(t:Ty) (x:t.den),t.rigid=true-> ∀cs,eY w fr t x cs↔cs=qO t x
 |.unit,x,_,cs=>by rfl
 |.bool,x,_,cs=>by rfl
 |.int k,x,_,cs=>by rfl
 |.str,x,_,cs=>by rfl
 |.list t,x,h,cs=>by simp[Ty.rigid]at h
 |.pair a b,x,h,cs=>by
  simp only[Ty.rigid,af]at h;simp only[eY,qO,uf a x.1 h.1,uf b x.2 h.2];simp
def Ju (t:Ty) (x:t.den):Value:=if t.isAgg then .agg (qO t x).toArray else(qO t x).headD undef
theorem VD.rigid {t:Ty} {x:t.den} (h:t.rigid=true) (v:Value):VD c t x v↔v=Ju t x:=by
 cases ha:t.isAgg with
 |true=>
  rw[VD.agg ha];simp only[Ju,ha,if_true,uf t x h];constructor
  .rintro ⟨cs,rfl,d⟩;rw[<-d]
  simp_all
 |false=>
  rw[VD.leaf ha,uf t x h];have: ∃u,qO t x=[u]:=by cases t<;>first|exact⟨_,rfl⟩|(simp[Ty.rigid]at h;done)|grind [Ty.isAgg]
  grind [Ju]
def rv1:bU->Value
 |.val t x=>Ju t x
 |_=>undef
def rv:bU->Value
 |.tup l=>.tuple (l.map rv1).toArray
 |v=>rv1 v
theorem alE {v:bU} (h:v.rigid=true) (u:Value):bW c v u↔u=rv1 v:=by
 cases v<;>simp only[bU.rigid,ag]at h;simp_all [bW,rv1,VD.rigid]
theorem alF: ∀(l:List bU),l.all bU.rigid=true-> ∀us,bK c l us↔us=l.map rv1
 |[],_,[]=>by simp[bK]
 |[],_,u::us=>by simp[bK]
 |v::l,_,[]=>by simp[bK]
 |v::l,h,u::us=>by
  simp only[aW,af]at h;simp only[bK,alE h.1,alF l h.2,au,List.cons.injEq]
theorem I4 {v:bU} (h:v.rigidR=true) (u:Value):bW c v u↔u=rv v:=by
 cases v with
 |tup l=>
  simp only[bU.rigidR]at h;simp only[bW,rv,alF l h];constructor
  .rintro ⟨e,rfl,d⟩;rw[<-d]
  simp_all
 |val t x=>exact alE (v:=.val t x) h u
 |_=>simp[bU.rigidR,bU.rigid]at h
theorem Jb (id:Nat): ∀(rs:List (Ty×Bool)) y,(rs.all fun r=> !r.2&&r.1.rigid)=true->(oh id rs y).all bU.rigid=true
 |[],_,_=>rfl
 |(t,true)::rs,y,h=>by simp at h
 |(t,false)::rs,y,h=>by
  simp only[aW,az,aK,af]at h;simp only[oh,aW,bU.rigid,h.1,aK];exact Jb id rs y.2 h.2
theorem Uz: ∀(l:List bU),l.all bU.rigid=true->(Nu l).rigidR=true
 |[],_=>rfl
 |[v],h=>by
  simp only[aW,List.all_nil,ay]at h;cases v<;>simp only[bU.rigid,ag]at h;exact h
 |v::d::l,h=>h
theorem bK.mk {c:Cx}: ∀(l:List bU) (xs:List Value),l.length=xs.length->(∀(i:Nat) (h:i<l.length) (e:i<xs.length),bW c l[i] xs[i])->bK c l xs
 |[],[],_,_=>by simp[bK]
 |[],_::_,h,_=>by simp at h
 |_::_,[],h,_=>by simp at h
 |v::l,x::xs,h,d=>by
  simp only[bK];exact⟨d 0 (by simp) (by simp),bK.mk l xs (by simpa using h) fun i f g=>by
   have:=d (i+1) (by simp;omega) (by simp;omega);simpa using this⟩
def ut (ops:Array Oper) (k:Nat):Option Nat:=(ops[k]?).bind (·.dst)
def gB (ops:Array Oper) (a:Act):List (Nat×Value)->Act
 |[]=>a
 |(k,v)::l=>(gB ops a l).put (ut ops k) v
theorem zl (a:Act): ∀(q l:List (Nat×Value)),gB ops a (q++l)=gB ops (gB ops a l) q
 |[],l=>rfl
 |(k,v)::q,l=>by simp only[aH,gB];rw[zl a q l]
theorem zn (a:Act): ∀l,(gB ops a l).defers=a.defers
 |[]=>rfl
 |(k,v)::l=>by rw[gB,put_defers,zn a l]
theorem tZ (a:Act): ∀l,(gB ops a l).tmps.size=a.tmps.size
 |[]=>rfl
 |(k,v)::l=>by
  rw[gB];cases ut ops k with
  |none=>exact tZ a l
  |some d=>simp only[Act.put,Array.size_setIfInBounds];exact tZ a l
def aqs (ops:Array Oper) (x y:Oper):Prop:= ∀d,y.dst=a6 d->d∉x.looksAt ops/\x.dst≠a6 d
theorem Md {x y:Oper} (h:FD ops x y=true):aqs ops x y:=fun d hd=>by
 simp_all [FD]
theorem wR (a:Act) {d:Option Nat} {v:Value}: ∀(l:List (Nat×Value)),(∀m∈l.map (·.1),∀e,ut ops m=a6 e->d≠a6 e)->gB ops (a.put d v) l=(gB ops a l).put d v
 |[],_=>rfl
 |(k,u)::l,h=>by
  rw[gB,gB,wR a l fun m f=>h m (ak _ f)];simp_all [Act.put_comm]
theorem DL (a:Act) {o:Oper} (d: ∀cs b,o.op≠ .select cs b): ∀(l:List (Nat×Value)),(∀m∈l.map (·.1),∀e,ut ops m=a6 e->e∉o.looksAt ops)->execOp (gB ops a l).eval o=execOp a.eval o
 |[],_=>rfl
 |(k,u)::l,h=>by
  rw[gB,execOp_put (ops:=ops) o d _ _ _ (h k aB)];exact DL a d l fun m f=>h m (ak _ f)
def iK (ops:Array Oper) (lA:Array Bool) (log:List Nat):List Nat->Prop
 |[]=>True
 |k::l=>iK ops lA log l/\lA.getD k true=false/\k∈log/\k∉l/\ ∃ok,ops[k]? =a6 ok/\jM ok.op=true/\ok.guard=a7/\(∀d,ok.dst=a6 d->d∉ok.looksAt ops)/\
   (∀e∈ok.after,Region.binds .any e=true->lA.getD e.on false=true\/e.on∈l)/\
   (∀m∈l,∃f,ops[m]? =a6 f/\aqs ops f ok/\(sG ops k m=false->f.apart ops ok=true))
def Ib (rd:Option Nat) (n:Nat) (P:Program) (c:Cx) (a:Act) (o:Oper) (v:Value):Prop:= ∀d,GK c d->o.quietAtIn (FW rd) n P a (GK (c.at_ d)) d v
theorem Ib.congr {a d:Act} {o:Oper} {v:Value} (h:execOp d.eval o=execOp a.eval o) (e:Ib rd n P c a o v):Ib rd n P c d o v:=fun f g=>by
 have:=e f g;simp_all [Oper.quietAtIn]
theorem Ib.of_run {a:Act} {o:Oper} {v:Value} (h: ∀w',GK c w'->(execOp a.eval o).run P w'=.ok (.value v) w'):Ib rd n P c a o v:=fun w' d=>by
 unfold Oper.quietAtIn;rw[h w' d];exact⟨rfl,rfl⟩
theorem Ib.ext {a:Act} {o:Oper} {v:Value} {w:World} (d:GK c w) (h:Ib rd n P c a o v):Ib rd n P (c.at_ w) a o v:=fun e f=>h e (Below.trans d (f.mono d.size))
theorem Ib.wpOp {a:Act} {i:Nat} {o:Oper} {v:Value} (hd:mr ops=true) (hi:ops[i]? =a6 o) (p:o.guard=a7) (h:Ib rd n P c a o v) {Q:Exit->Act->World->Prop} {K:Act->World->Prop} (l: ∀w',GK c w'->K (a.put o.dst v) w'):wpOpIn (FW rd) n P ops Q i K a c.w:=by
 unfold Go.wpOpIn;simp only[hi];rw[am (by simp[Region.wanted,p])];refine⟨pX o c.w _, ?_⟩;rw[wU (nX hd i o hi).1];have d:=h c.w (Below.refl _ _);unfold Oper.quietAtIn at d;generalize (execOp a.eval o).run P c.w=x at d ⊢
 match x,d with
 |.ok (.value u) w',d=>
  obtain⟨g,j⟩:=d;subst g j;exact l _ (Below.refl _ _)
 |.ok .skip w',d=>
  obtain⟨g,j⟩:=d;subst g j;exact l _ (Below.refl _ _)
 |.ok (.enter f A) w',d=>
  obtain⟨g,j,q⟩:=d;subst g;refine⟨j,CallsIn.mono q fun e B s=> ?_⟩;obtain⟨y,z⟩:=s;subst y;exact l _ z
def kN (rd:Option Nat) (n:Nat) (P:Program) (ops:Array Oper) (c:Cx) (a:Act):List (Nat×Value)->Prop
 |[]=>True
 |(k,v)::l=>kN rd n P ops c a l/\ ∃ok,ops[k]? =a6 ok/\Ib rd n P c (gB ops a l) ok v
theorem kN.ext {w:World} (d:GK c w) {a:Act}: ∀{l:List (Nat×Value)},kN rd n P ops c a l->kN rd n P ops (c.at_ w) a l
 |[],_=>trivial
 |(k,v)::l,h=>⟨kN.ext d h.1,let⟨ok,e,f⟩:=h.2;⟨ok,e,f.ext d⟩⟩
def sJ (sg:FuncId->Option Sum) (cl:Bool) (o:Oper) (fr:List bU) (z:bU):Prop:=
 jM o.op=true/\(∃e j,o.op=.call e/\e.callee=.value j)/\z.rigidR=true/\(∀d,o.dst=a6 d->z=fr.getD d .undef)/\
  ∃f g,jD o fr=f::g/\ ∀(l:Option Nat) (i:St) (K:bU->St->Option Unit),GX sg cl f g l i K=K z i
theorem QZ (hT:TOk P T) (g:mV (R:=Unit) P (GX sg cl)) {o:Oper} {z:bU} {e:List bU} (i:sJ sg cl o e z) (j:jD o e=jD o st.fr) {a:Act} (hr:iM W0 b0 rd c st a ats):bW c z (rv z)/\Ib rd n P c a o (rv z):=by
 obtain⟨l,⟨x,y,A,B⟩,f,_,D,E,p,G⟩:=i;rw[j]at p;refine⟨(I4 f _).2 rfl,fun q s=> ?_⟩
 classical
 have h:eH T cl (GX sg cl) o st (fun d _=>if d=z then a6 ()else a7)=a6 ():=by
  simp_all [jD,eH]
 obtain⟨d,v,g1,g2,g3⟩:=ae1 (n:=n) hT g l h (hr.ext s);have u:d=z:=by
  simp_all
 rw[u]at g2;rw[<-(I4 f v).1 g2];exact g3 q (Below.refl _ _)
def LH (sg:FuncId->Option Sum) (cl:Bool) (ops:Array Oper) (fr:List bU) (l:List Nat):Prop:= ∀k∈l,∀ok,ops[k]? =a6 ok->iy ok.op=false-> ∃z,sJ sg cl ok fr z
theorem MG {l:Array Bool} {m:Nat} (d:l.getD m false=true) (h2:l.getD m true=false):False:=by
 grind
theorem afU {lA:Array Bool} {j m:Nat} (f:j∈Region.ready .any ops lA) (l:lA.getD m true=false):sG ops j m=false:=by
 obtain⟨_,g,i,o⟩:=mem_ready.1 f;unfold sG;rw[i];cases d:g.after.any fun e=>Region.binds .any e&&Nat.beq e.on m with
 |false=>exact d
 |true=>
  obtain⟨e,p,d⟩:=Array.any_eq_true'.1 d;simp only[af]at d
  grind [ah]
theorem iK.un {lA:Array Bool} {log:List Nat}: ∀{l:List Nat},iK ops lA log l-> ∀k∈l,lA.getD k true=false
 |k::l,h,m,d=>by
  rcases List.mem_cons.1 d with e|d
  .rw[e];exact h.2.1
  .exact iK.un h.1 m d
theorem iK.log {lA:Array Bool} {log:List Nat}: ∀{l:List Nat},iK ops lA log l-> ∀k∈l,k∈log
 |k::l,h,m,d=>by
  rcases List.mem_cons.1 d with e|d
  .rw[e];exact h.2.2.1
  .exact iK.log h.1 m d
theorem iK.mono {lA:Array Bool} {log d:List Nat} (hl: ∀k∈log,k∈d): ∀{l:List Nat},iK ops lA log l->iK ops lA d l
 |[],_=>trivial
 |k::l,h=>⟨iK.mono hl h.1,h.2.1,hl _ h.2.2.1,h.2.2.2⟩
theorem iK.set {lA:Array Bool} {log:List Nat} {j:Nat}: ∀{l:List Nat},iK ops lA log l->j∉l->iK ops (lA.setIfInBounds j true) log l
 |[],_,_=>trivial
 |k::l,h,d=>by
  obtain⟨f,g,i,o,ok,p,q,s,u,v,x⟩:=h;refine⟨iK.set f fun h=>d (ak _ h), ?_,i,o,ok,p,q,s,u,fun e y z=> ?_,x⟩
  .rw[getD_set_ne true (fun e=>d (by rw[e];exact aB))];exact g
  .exact(v e y z).imp getD_set_true fun h=>h
theorem wV {lA:Array Bool} {j:Nat} (d:j<lA.size):(lA.setIfInBounds j true).getD j false=true:=by simp[d]
theorem iK.take {lA:Array Bool} {log:List Nat} {k:Nat} (hk:k<lA.size): ∀{l:List Nat},iK ops lA log l->k∈l->iK ops (lA.setIfInBounds k true) log (l.erase k)
 |m::l,h,d=>by
  obtain⟨f,g,i,j,ok,o,p,q,s,z,u⟩:=h;by_cases e:m=k
  .simp_all [iK.set]
  .rw[List.erase_cons_tail (by simpa using e)];have v:k∈l:=(List.mem_cons.1 d).resolve_left fun h=>e h.symm;refine⟨iK.take hk f v, ?_,i,fun h=>j (List.mem_of_mem_erase h),ok,o,p,q,s,fun A B D=> ?_,fun x y=>u x (List.mem_of_mem_erase y)⟩
   .rw[getD_set_ne true (fun h=>e h.symm)];exact g
   grind [getD_set_true,wV]
theorem sZ {k:Nat} {o:Oper} (h:ops[k]? =a6 o):ut ops k=o.dst:=by simp[ut,h]
theorem kN.put {a:Act} {c:Cx} (hd:mr ops=true) {d:Option Nat} {v:Value}: ∀{l:List (Nat×Value)},kN rd n P ops c a l->
  (∀m∈l.map (·.1),∃f,ops[m]? =a6 f/\(∀e,f.dst=a6 e->d≠a6 e)/\(∀e,d=a6 e->e∉f.looksAt ops))->kN rd n P ops c (a.put d v) l
 |[],_,_=>trivial
 |(k,u)::l,h,i=>by
  obtain⟨o,ok,g,p⟩:=h;refine⟨kN.put hd o fun m j=>i m (ak _ j),ok,g,p.congr ?_⟩;obtain⟨f,g1,g2,g3⟩:=i k aB;rw[g]at g1;cases g1;rw[wR a l fun m j e q=> ?_,execOp_put (ops:=ops) ok (nX hd k ok g).2 _ _ _ g3]
  grind [sZ]
theorem Xo {a:Act} {c:Cx} (hd:mr ops=true) {lA:Array Bool} {log:List Nat} {k:Nat} {ok:Oper} (g:ops[k]? =a6 ok) (hk:k∈Region.ready .any ops lA):
  ∀{l:List (Nat×Value)},iK ops lA log (l.map (·.1))->kN rd n P ops c a l->k∈l.map (·.1)->
   ∃v d,Ib rd n P c a ok v/\d.map (·.1)=(l.map (·.1)).erase k/\kN rd n P ops c (a.put ok.dst v) d/\gB ops (a.put ok.dst v) d=gB ops a l
 |(m,u)::l,s,hr,y=>by
  obtain⟨z,I,J,K,A,f,L,M,N,O,S⟩:=s;obtain⟨i,U,j,o⟩:=hr;rw[f]at j;cases j;by_cases e:m=k
  .subst e;rw[g]at f;cases f;have V: ∀x∈l.map (·.1),∃p,ops[x]? =a6 p/\p.apart ops ok=true:=fun x B=>by
    grind [afU,iK.un]
   refine⟨u,l,o.congr ?_,by simp,kN.put hd i fun x B=> ?_, ?_⟩
   .grind [DL,nX,Oper.apart_spec,sZ]
   .grind [Oper.apart_spec]
   grind [gB,sZ,wR,Oper.apart_spec]
  .have D:k∈l.map (·.1):=(List.mem_cons.1 y).resolve_left fun h=>e h.symm;obtain⟨v,d,E,W,G,q⟩:=Xo hd g hk z i D;refine⟨v,(m,u)::d,E, ?_,⟨G,A,f,by rw[q];exact o⟩,by rw[gB,gB,q]⟩;simp_all
theorem zK {d:Type} {f:d->d->Bool} (hf: ∀x y,f x y=true->x=y): ∀(a b:List d),wB f a b=true->a=b
 |[],[],_=>rfl
 |[],_::_,h=>by simp[wB]at h
 |_::_,[],h=>by simp[wB]at h
 |x::l,y::m,h=>by
  simp only[wB,af]at h;rw[hf x y h.1,zK hf l m h.2]
theorem LX: ∀(t:Ty) (x y:t.den),YE t x y=true->x=y
 |.unit,(),(),_=>rfl
 |.bool,x,y,h=>by simpa [YE] using h
 |.int _,x,y,h=>by simpa [YE,bV] using h
 |.str,x,y,h=>by simpa [YE,fP] using h
 |.list t,x,y,h=>zK (LX t) x y h
 |.pair a b,x,y,h=>by
  simp only[YE,af]at h;exact Prod.ext (LX a _ _ h.1) (LX b _ _ h.2)
theorem asN {t u:Ty} {x:t.den} {y:u.den} (h:(match jE t y with|some y=>YE t x y|none=>false)=true): ∃e:u=t,x=cast (congrArg Ty.den e) y:=by
 grind [lM,LX]
theorem an6 {a b:Option (Int×Int)} (h:agS a b=true):a=b:=by
 cases a<;>cases b<;>simp_all [agS,bV,Prod.ext_iff]
theorem kL {a b:Nat} (h:Nat.beq a b=true):a=b:=ah h
mutual
theorem asT: ∀(a b:bU),Vp a b=true->a=b
 |.undef,b,h=>by grind [Vp]
 |.val t x,b,h=>by
  cases b<;>simp only[Vp,ag]at h;obtain⟨e,h⟩:=asN h;simp_all
 |.nils,b,h=>by grind [Vp]
 |.nilp,b,h=>by grind [Vp]
 |.nilfn,b,h=>by grind [Vp]
 |.emp,b,h=>by grind [Vp]
 |.tup l,b,h=>by
  cases b<;>simp only[Vp,ag]at h;rw[qc l _ h]
 |.agg l,b,h=>by
  cases b<;>simp only[Vp,ag]at h;rw[qc l _ h]
 |.cellp t x,b,h=>by
  cases b<;>simp only[Vp,ag]at h;obtain⟨e,h⟩:=asN h;simp_all
 |.lst t x n,b,h=>by
  cases b<;>simp only[Vp,ag,af]at h;obtain⟨j,d⟩:=h;split at d
  .rename_i z g
   obtain⟨e,p⟩:=lM g;have q:=LX (.list t) x z d
   grind
  .cases d
 |.ptr i o,b,h=>by
  cases b<;>simp only[Vp,ag,af]at h;simp_all
 |.slc i v w,b,h=>by
  cases b<;>simp only[Vp,ag,af]at h
  grind [kL,an6]
 |.ep i v m o,b,h=>by
  cases b<;>simp only[Vp,ag,af]at h;rw[kL h.1,kL h.2.1,kL h.2.2.1,kL h.2.2.2]
 |.fn f l,b,h=>by
  cases b<;>simp only[Vp,ag,af]at h;rw[kL h.1,qc l _ h.2]
 |.mfn f l,b,h=>by
  cases b<;>simp only[Vp,ag,af]at h;rw[kL h.1,qc l _ h.2]
 |.mpv i,b,h=>by
  cases b<;>simp only[Vp,ag]at h;rw[kL h]
 |.yld i,b,h=>by
  cases b<;>simp only[Vp,ag]at h;rw[kL h]
 |.slf i,b,h=>by
  cases b<;>simp only[Vp,ag]at h;rw[kL h]
 |.sd i v,b,h=>by
  cases b<;>simp only[Vp,ag,af]at h;simp_all
theorem qc: ∀(a b:List bU),Il a b=true->a=b
 |[],[],_=>rfl
 |[],_::_,h=>by simp[Il]at h
 |_::_,[],h=>by simp[Il]at h
 |a::l,b::m,h=>by
  simp only[Il,af]at h;rw[asT a b h.1,qc l m h.2]
end
theorem oL: ∀(B:List Nat) (fr:List bU),(oz ops B fr).length=fr.length
 |[],_=>rfl
 |i::B,fr=>by
  simp only[oz];split
  .rw[List.length_set];exact oL B fr
  .exact oL B fr
theorem ac3 {k d:Nat} {B:List Nat} {fr:List bU} (h:ut ops k=a6 d):oz ops (k::B) fr=(oz ops B fr).set d .undef:=by
 have e:(ops[k]?).bind (·.dst)=a6 d:=h;simp only[oz,e]
theorem ac2 {k:Nat} {B:List Nat} {fr:List bU} (h:ut ops k=a7):oz ops (k::B) fr=oz ops B fr:=by
 have d:(ops[k]?).bind (·.dst)=a7:=h;simp only[oz,d]
theorem We: ∀(B:List Nat) (fr:List bU) (i:Nat) (h:i<fr.length) (e:i<(oz ops B fr).length),(oz ops B fr)[i]=.undef\/((oz ops B fr)[i]=fr[i]/\ ∀k∈B,ut ops k≠a6 i)
 |[],fr,i,h,e=>.inr ⟨rfl,fun k hk=>by cases hk⟩
 |k::B,fr,i,h,e=>by
  have hl:=oL (ops:=ops) B fr;have f:=We B fr i h (by rw[hl];exact h);cases hd:ut ops k with
  |some d=>
   simp only[ac3 hd]
   grind
  |none=>
   simp_all [ac2]
theorem aF8 (X:Act) (d:Option Nat) (v:Value) (i:Nat) (e:d≠a6 i) (h:i<(X.put d v).tmps.size) (f:i<X.tmps.size):(X.put d v).tmps[i]=X.tmps[i]:=by
 cases d with
 |none=>rfl
 |some d=>
  simp_all [Act.put]
theorem Xq (a:Act) (i:Nat): ∀(l:List (Nat×Value)),(∀k∈l.map (·.1),ut ops k≠a6 i)-> ∀(h:i<(gB ops a l).tmps.size) (d:i<a.tmps.size),(gB ops a l).tmps[i]=a.tmps[i]
 |[],_,h,d=>rfl
 |(k,v)::l,hk,h,d=>by
  have e:i<(gB ops a l).tmps.size:=by rw[tZ];exact d
  rw[<-Xq a i l (fun m f=>hk m (ak _ f)) e d];exact aF8 _ _ _ _ (hk k aB) h e
theorem am5 {c:Cx} {fr:List bU} {l:List (Nat×Value)} {B:List Nat} (h:bK c fr (gB ops a l).tmps.toList) (j: ∀k∈l.map (·.1),k∈B):bK c (oz ops B fr) a.tmps.toList:=by
 have g:=bK.length _ _ h;rw[Array.length_toList (xs:=(gB ops a l).tmps),tZ]at g;refine bK.mk _ _ (by simp_all [oL]) fun i d f=> ?_;rw[oL]at d;have f:i<a.tmps.size:=by simpa using f
 rcases We (ops:=ops) B fr i d (by assumption)with e|⟨e,hk⟩
 .rw[e];simp[bW]
 .rw[e];have:=bK.get _ _ h i d (by simp_all [tZ])
  grind [Xq]
theorem O3 {o:Oper} (h:jM o.op=true): ∀cs b,o.op≠ .select cs b:=fun cs b e=>by simp_all [jM]
theorem aoY {d:Op} (h:iy d=true):jM d=true:=by
 cases d<;>first|exact h|skip
 rename_i e
 obtain⟨f,g,i⟩:=e;cases f with
 |builtin b=>cases b<;>first|exact h|(simp[iy]at h)
 |value v=>rfl
 |invoke x m=>simp[iy]at h
def aqn (T:TT) (cl:Bool) {R:Type} (call:gI R) (ops:Array Oper) (d:List bU) (st:St) (k:Nat):Prop:=∃ok,ops[k]? =a6 ok/\((iy ok.op=true/\ ∃(r:R) (K:St->Option R),(eH T cl call ok st fun z s=>cond (sameAt ok.dst z st) (K s) a7)=a6 r)\/ (iy ok.op=false/\jD ok d=jD ok st.fr/\zu ok.dst d=zu ok.dst st.fr))
theorem CO {R:Type} {r:R} (hT:TOk P T) {call:gI R} {f:List bU} {K:St->Option R} (hr:iM W0 b0 rd c st a ats): ∀(B:List Nat),
  yg T cl call ops f B st K=a6 r->K st=a6 r/\ ∀k∈B,aqn T cl call ops f st k
 |[],h=>⟨h,fun k hk=>by cases hk⟩
 |k::B,h=>by
  simp only[yg]at h;split at h
  .rename_i ok i
   cases hq:iy ok.op with
   |true=>
    rw[hq]at h;simp only[aa]at h;have j:=h;obtain⟨z,u,g1,g2,g3⟩:=Ai hT hr.ok hq hr.hp hr.fr h;replace g1:=dG g1;obtain⟨g4,g5⟩:=CO hT hr B g1.2;refine⟨g4,fun m d=> ?_⟩;rcases List.mem_cons.1 d with e|d
    .exact⟨ok,by rw[e];exact i,.inl ⟨hq,r,fun _=>yg T cl call ops f B st K,j⟩⟩
    .exact g5 m d
   |false=>
    rw[hq]at h;simp only[ac]at h;replace h:=dG h;obtain⟨g,h⟩:=h;simp only[af]at g;obtain⟨g4,g5⟩:=CO hT hr B h;refine⟨g4,fun m d=> ?_⟩;rcases List.mem_cons.1 d with e|d
    .exact⟨ok,by rw[e];exact i,.inr ⟨hq,qc _ _ g.1,qc _ _ g.2⟩⟩
    .exact g5 m d
  .cases h
theorem sJ.same {o:Oper} {fr e:List bU} {z:bU} (h:sJ sg cl o fr z) (q:jD o fr=jD o e) (h2:zu o.dst fr=zu o.dst e):sJ sg cl o e z:=by
 obtain⟨f,g,i,s,j,l,u,p⟩:=h;refine⟨f,g,i,fun d hd=> ?_,j,l,by simp_all,p⟩;simp_all [zu]
theorem ae8 {d:Nat} {z:bU} (h:z=st.fr.getD d .undef):st.put (a6 d) z=st:=by
 obtain⟨fr,e,f,g⟩:=st;simp only[St.put];have:fr.set d z=fr:=by
  subst h;apply List.ext_getElem
  all_goals grind
 rw[this]
theorem aBh (X:Act) (d:Option Nat) (v u:Value):(X.put d v).put d u=X.put d u:=by
 cases d with
 |none=>rfl
 |some d=>simp[Act.put]
theorem V5 (hT:TOk P T) (hd:mr ops=true) (G:mV (R:=Unit) P (GX sg cl)) {R:Type} {call:gI R} {V:List bU} {lA:Array Bool} {log:List Nat}: ∀(l q:List (Nat×Value)),iK ops lA log (l.map (·.1))->iM W0 b0 rd c st (gB ops (gB ops a l) q) ats->
  (∀k∈l.map (·.1),aqn T cl call ops V st k)->LH sg cl ops st.fr (l.map (·.1))->(∀m∈q.map (·.1),∃i,ops[m]? =a6 i/\ ∀k∈l.map (·.1),∃ok,ops[k]? =a6 ok/\aqs ops ok i)->
  ∃f,f.map (·.1)=l.map (·.1)/\iM W0 b0 rd c st (gB ops (gB ops a f) q) ats/\kN rd n P ops c a f
 |[],q,_,hr,_,_,_=>⟨[],rfl,hr,trivial⟩
 |(k,v)::l,q,W,hr,I,hF,J=>by
  obtain⟨X,s2,s3,s4,ok,o,L,s7,Y,s9,aj⟩:=W;have Z: ∀m∈(q++[(k,v)]).map (·.1),∃i,ops[m]? =a6 i/\ ∀x∈l.map (·.1),∃M,ops[x]? =a6 M/\aqs ops M i:=fun m g=>by
   grind
  obtain⟨f,e1,j,ab⟩:=V5 hT hd G l (q++[(k,v)]) X (by rw[zl];exact hr) (fun m g=>I m (ak _ g)) (fun m g=>hF m (ak _ g)) Z;rw[zl]at j;have hX:gB ops (gB ops a f) [(k,v)]=(gB ops a f).put (ut ops k) v:=rfl;rw[hX]at j;have y:=sZ o;have ad:execOp (gB ops ((gB ops a f).put (ut ops k) v) q).eval ok=execOp (gB ops a f).eval ok:=by
   rw[DL _ (O3 L) q fun m g e he=> ?_,execOp_put (ops:=ops) ok (O3 L) _ _ _ (by rw[y];exact Y)];obtain⟨i,h1,A⟩:=J m g;obtain⟨N,p,B⟩:=A k aB;rw[o]at p;cases p;exact(B e (by grind [sZ])).1
  have O: ∀u,gB ops ((gB ops a f).put (ut ops k) u) q=(gB ops (gB ops a f) q).put (ut ops k) u:=fun u=>wR _ q fun m g e he h=>by
   obtain⟨i,h1,A⟩:=J m g;obtain⟨N,p,B⟩:=A k aB;rw[o]at p;cases p;exact(B e (by grind [sZ])).2 (by simp_all)
  have S: ∀(z:bU) (u:Value),bW c z u->st.put ok.dst z=st->Ib rd n P c (gB ops ((gB ops a f).put (ut ops k) v) q) ok u->
    ∃D,D.map (·.1)=((k,v)::l).map (·.1)/\iM W0 b0 rd c st (gB ops (gB ops a D) q) ats/\kN rd n P ops c a D:=fun z u g2 ai g3=>by
   refine⟨(k,u)::f,by simp[e1], ?_,ab,ok,o,g3.congr ad.symm⟩;have:=j.put (dst:=ok.dst) g2;rw[ai,O v,y,aBh,<-y,<-O u]at this;exact this
  obtain⟨N,U,a2⟩:=I k aB;rw[o]at U;cases U;rcases a2 with ⟨E,r,K,a3⟩|⟨E,_,_⟩
  .obtain⟨z,u,g1,g2,g3⟩:=Ai hT j.ok E j.hp j.fr a3;rw[cond_eq_ite]at g1;split at g1
   .rename_i s
    refine S z u g2 ?_ (.of_run g3);cases hdst:ok.dst with
    |none=>rfl
    |some d=>
     rw[hdst]at s;exact ae8 (asT _ _ s)
   .cases g1
  .obtain⟨z,s⟩:=hF k aB ok o E;obtain⟨g2,g3⟩:=QZ (n:=n) hT G s rfl j;refine S z _ g2 ?_ g3;cases hdst:ok.dst with
   |none=>rfl
   |some d=>exact ae8 (s.2.2.2.1 d hdst)
theorem FM (hT:TOk P T) (hd:mr ops=true) (L:mV (R:=Unit) P (GX sg cl)) {R:Type} {r:R} {call:gI R} (M:lV P W0 n call) {lA:Array Bool} {log:List Nat} {l:List (Nat×Value)} {j:Nat} {K:St->Option R}
  (hF:LH sg cl ops st.fr (l.map (·.1))) (hj:j∈Region.ready .any ops lA) (x:iK ops lA log (l.map (·.1))) (ab:j∉l.map (·.1)) (hr:iM W0 b0 rd c st (gB ops a l) ats)
  (h:tJ T cl call ops j log st K=a6 r) {next:Act->World->Prop} {Q:Exit->Act->World->Prop}
  (N: ∀c' o p d,K o=a6 r->d.map (·.1)=l.map (·.1)->iM W0 b0 rd c' o (gB ops p d) ats->kN rd n P ops c' p d->LH sg cl ops o.fr (l.map (·.1))->c.Mono c'->next p c'.w):wpOpIn (FW rd) n P ops Q j next a c.w:=by
 unfold tJ at h;split at h
 .rename_i f O
  replace h:=dG h;obtain⟨q,h⟩:=h;simp only[af]at q;have S:f.guard=a7:=by simpa using q.1
  unfold wpOpIn;simp only[O];rw[am (by simp[Region.wanted,S])];have y: ∀k∈l.map (·.1),k∈log.filter fun i=> !sG ops j i:=fun k hk=>List.mem_filter.2 ⟨iK.log x k hk,by grind [afU,iK.un]⟩;have ad: ∀k∈l.map (·.1),∃ok,ops[k]? =a6 ok/\ok.apart ops f=true:=fun k hk=>by
   have U:=q.2;unfold avu at U
   grind
  have V:iM W0 b0 rd c {st with fr:=oz ops (log.filter fun i=> !sG ops j i) st.fr,stk:=st.fr::st.stk} a ((gB ops a l).tmps::ats):=
   ⟨hr.hp,hr.nxt,hr.ok,am5 hr.fr y,⟨hr.fr,hr.stk⟩,by have:=hr.df;rwa [zn]at this,hr.rd⟩
  refine Ua hT M h V fun c' z u W k1 k2 k3 k4=> ?_;split at k1
  .rename_i fr s X
   have g:=k2.stk;rw[X]at g;simp only[Dh]at g;have Y:iM W0 b0 rd c' {W with fr:=fr,stk:=s} (gB ops a l) ats:=
    ⟨k2.hp,k2.nxt,k2.ok,g.1,g.2,by rw[zn];exact k2.df,k2.rd⟩
   have v:=Y.put (dst:=f.dst) k3;have Z:(gB ops a l).put f.dst u=gB ops (a.put f.dst u) l:=(wR a l fun m A e he hh=>by
    grind [Oper.apart_spec,sZ]).symm
   rw[Z]at v;obtain⟨g1,g2⟩:=CO hT v _ k1;have B: ∀k∈l.map (·.1),aqn T cl call ops st.fr _ k:=fun k hk=>g2 k (List.mem_reverse.2 (y k hk));have D:LH sg cl ops _ (l.map (·.1)):=fun k hk ok E G=>by
    obtain⟨z,hz⟩:=hF k hk ok E G;obtain⟨ai,I,b2⟩:=B k hk;rw[E]at I;cases I;rcases b2 with ⟨J,_⟩|⟨_,b4,b5⟩
    .rw[G]at J;cases J
    .exact⟨z,hz.same b4 b5⟩
   obtain⟨d,e1,e2,e3⟩:=V5 (n:=n) hT hd L l [] x v B D (fun m A=>by cases A);exact N c' _ _ d g1 e1 e2 e3 D k4
  .cases k1
 .cases h
def WfH (h:gQ):Prop:= ∀id f e g asg d k n p,dQ h id=a6 (.lp f e g asg d (a6 k) n p)->qK f k=a6 (asg,d)
theorem iM.tidy {c:Cx} {st:St} {a:Act} (cl:Bool) (hr:iM W0 b0 rd c st a ats): ∃c',iM W0 b0 rd c' (tidy cl st) a ats/\c.Mono c'/\c'.w=c.w:=by
 cases cl with
 |true=>exact⟨c,hr,Cx.Mono.refl c,rfl⟩
 |false=>
  have f: ∀i,dQ (lu c.hp) i=dQ c.hp i:=fun i=>wM i _;have q: ∀(o:dM) (l:Loc),o.like l o l:=fun o l=>by
   cases o<;>simp[dM.like]
  have d:c.Le {c with hp:=lu c.hp}:=by
   refine⟨fun b e=>⟨⟨e.1,fun⟨j,o,s,g⟩=>e.2.1 ⟨j,o,by simp_all,g⟩,e.2.2⟩,rfl⟩,fun id hk=> ?_,fun id u _ h=>⟨u,by rw[<-f];exact h,q _ _⟩,fun _ h=>h,fun b L h=>⟨L,h⟩,ae _,rfl⟩;rcases hk with ⟨o,h⟩|h
   .exact .inl ⟨o,by simp_all⟩
   .exact .inr h
  have v:({c with hp:=lu c.hp}:Cx).Ok W0:=by
   refine⟨hr.ok.bel,fun id o h=> ?_,fun i j o p b s g=>hr.ok.inj i j o p b (by simp_all) (by simp_all),hr.ok.mks,fun b e=>(d.out b (hr.ok.bar b e)).1,hr.ok.phi⟩;exact(hr.ok.obj id o (by rw[<-f];exact h)).le d rfl fun b _=>rfl
  exact⟨{c with hp:=lu c.hp},⟨by show lu c.hp=lu st.hp;rw[hr.hp],hr.nxt,v,bK.le d _ _ hr.fr,Dh.le d _ _ hr.stk,hr.df,hr.rd⟩,d.mono,rfl⟩
theorem iM.wf {c:Cx} {st:St} {a:Act} (hr:iM W0 b0 rd c st a ats):WfH st.hp:=fun id f d e asg g k n p h=>by
 rw[<-hr.hp]at h;exact(hr.ok.obj id _ h).1 k rfl
def WfO:dM->Prop
 |.lp f _ _ asg bd (a6 k) _ _=>qK f k=a6 (asg,bd)
 |_=>True
theorem N8: ∀(h:gQ),rP h=true->WfH h-> ∀e∈h,WfO e.2
 |[],_,_,e,d=>by simp at d
 |(k,o)::h,g,s,e,d=>by
  simp only[rP,af,aY]at g;rcases List.mem_cons.1 d with rfl|d
  .cases o with
   |lp f i j asg l ky n p=>
    cases ky with
    |none=>trivial
    |some q=>exact s k f i j asg l q n p (by simp[eG])
   |_=>trivial
  .refine N8 h g.2 (fun id f i j asg l q n p v=>s id f i j asg l q n p ?_) e d;rw[eG];by_cases hk:k=id
   .subst hk;have:=wL _ _ _ v;have u:=g.1;rw[List.any_eq_false]at u;exact absurd (by simp:Nat.beq k k=true) (u _ this)
   simp_all
theorem ayQ {a b:Ex} (h:aD2 a b=true):a=b:=by
 cases a<;>cases b<;>simp only[aD2,ag]at h<;>first|rfl|rw[kL h]
theorem asP {a b:Option Ex} (h:asO a b=true):a=b:=by
 cases a<;>cases b<;>simp only[asO,ag]at h
 .rfl
 .rw[ayQ h]
theorem ax7 {o:gQ} {i:Nat} {a b x:dM} (s:WfH o) (hb:WfO b) (d:eqO a b=true) (h:Vf o i a=a6 x):x=b:=by
 cases a with
 |box t l=>
  cases b<;>simp only[eqO,ag,af]at d;cases h;rw[kL d.1,qc _ _ d.2]
 |arr t v y=>
  cases b<;>simp only[eqO,ag,af]at d;cases h
  grind [lM,LX,kL]
 |dead=>
  cases b<;>simp only[eqO,ag]at d;cases h;rfl
 |mp k v l=>
  cases b<;>simp only[eqO,ag,af,decide_eq_true_eq]at d;obtain⟨rfl,rfl,rfl⟩:=d;cases h;rfl
 |lp f fr ps asg bd ky n p=>
  cases b<;>simp only[eqO,ag,af]at d
  rename_i g G I J K L m q
  obtain⟨u,M,N,e,O,S⟩:=d;split at e
  .rename_i k U
   have z:=kL u;have A:=kL e;subst z A;simp only[Vf]at h;split at h
   .rename_i B
    replace h:=dG h;obtain⟨j,h⟩:=h;simp only[af]at j
    rename_i g2 _ _ V W k2 _ _
    have D:=kL j.1;have E:=kL j.2;subst D E;have X:=s _ _ _ _ _ _ _ _ _ B
    grind [WfO,qc,zK,kL,asP]
   .cases h
  .cases e
theorem Vd {f:gQ} (g:WfH f): ∀(a b x:gQ),(∀e∈b,WfO e.2)->eqH a b=true->Vb f a=a6 x->x=b
 |[],b,x,_,d,h=>by
  cases b with
  |nil=>cases h;rfl
  |cons _ _=>simp[eqH]at d
 |(i,o)::a,b,x,l,d,h=>by
  cases b with
  |nil=>simp[eqH]at d
  |cons e b=>
   obtain⟨j,s⟩:=e;simp only[eqH,af]at d;simp only[Vb]at h;split at h
   .rename_i y p
    split at h
    .rename_i z q
     cases h;rw[ax7 g (l _ aB) d.2.1 p,Vd g a b z (fun e d=>l e (ak _ d)) d.2.2 q,kL d.1]
    .cases h
   .cases h
theorem ao9 {d:gQ} {a b m:St} (h:settle d a=a6 m) (e:WfH d) (h2:asQ a b=true) (f:rP b.hp=true) (hb:WfH b.hp):m=b:=by
 unfold settle at h;split at h
 .rename_i hp g
  cases h;unfold asQ at h2;simp only[af]at h2;obtain⟨j,l,i,o⟩:=h2;have p:=Vd e _ _ _ (N8 _ f hb) i g;obtain⟨q,s,u,v⟩:=a;obtain⟨x,y,z,A⟩:=b
  grind [qc,zK,kL]
 .cases h
theorem aiL {e:gQ} {i:Nat} {a x:dM} (g:WfH e) (q:WfO a) (h:Vf e i a=a6 x):x=a:=by
 cases a with
 |lp f fr ps asg bd ky n p=>
  cases ky with
  |none=>simp[Vf]at h
  |some k=>
   simp only[Vf]at h;split at h
   .rename_i j
    replace h:=dG h;obtain⟨d,h⟩:=h;simp only[af]at d;have l:=kL d.1;have o:=kL d.2;subst l o;have s:=g _ _ _ _ _ _ _ _ _ j;simp_all [WfO]
   .cases h
 |_=>simp_all [Vf]
theorem Ve {d:gQ} (f:WfH d): ∀(a x:gQ),(∀e∈a,WfO e.2)->Vb d a=a6 x->x=a
 |[],x,_,h=>by cases h;rfl
 |(i,o)::a,x,g,h=>by
  simp only[Vb]at h;split at h
  .rename_i y j
   split at h
   .rename_i z l
    cases h;rw[aiL f (g _ aB) j,Ve f a z (fun e p=>g e (ak _ p)) l]
   .cases h
  .cases h
theorem afv {d:gQ} {a m:St} (h:settle d a=a6 m) (e:WfH d) (f:rP a.hp=true) (g:WfH a.hp):m=a:=by
 unfold settle at h;split at h
 .rename_i hp i
  cases h;rw[Ve e _ _ (N8 _ f g) i]
 .cases h
theorem aeH {e:gQ} {L:List (Option St)} {m:St} (h:TP e L=a6 m) (f:WfH e): ∀x∈L,∃b,x=a6 b/\(WfH b.hp->m=b):=by
 unfold TP at h;split at h
 .rename_i a l
  replace h:=dG h;obtain⟨g,h⟩:=h;split at h
  .rename_i hp i
   cases h;intro x j;have d:=List.all_eq_true.1 g x j;cases x with
   |none=>simp at d
   |some b=>
    simp only[af]at d;refine⟨b,rfl,fun o=> ?_⟩;obtain⟨d,p⟩:=d;unfold asQ at d;simp only[af]at d;obtain⟨s,u,q,v⟩:=d;have y:=Vd f _ _ _ (N8 _ p o) q i;obtain⟨z,A,B,D⟩:=a;obtain⟨E,G,I,J⟩:=b
    grind [qc,zK,kL]
  .cases h
 .cases h
def adc (ops:Array Oper) (lA:Array Bool):Nat:=((List.range ops.size).filter fun i=> !lA.getD i true).length
theorem filter_lt {f:Type} {p q:f->Bool}: ∀(l:List f),(∀x∈l,q x=true->p x=true)->(∃x∈l,p x=true/\q x=false)->(l.filter q).length<(l.filter p).length
 |[],_,h=>by simp_all
 |y::l,h,d=>by
  have o:(l.filter q).length<=(l.filter p).length:=by
   clear d
   induction l with
   |nil=>simp
   |cons z l g=>
    grind
  obtain⟨x,d,i,j⟩:=d;simp only[List.filter_cons];rcases List.mem_cons.1 d with e|d
  .grind
  .have g:=filter_lt l (fun x d=>h x (ak _ d)) ⟨x,d,i,j⟩
   grind
theorem Jt {lA:Array Bool} {j:Nat} (l:lA.size=ops.size) (d:j∈Region.ready .any ops lA):adc ops (lA.setIfInBounds j true)<adc ops lA:=by
 obtain⟨f,o,g,_⟩:=mem_ready.1 d;have i:j<ops.size:=(Array.getElem?_eq_some_iff.1 g).1;refine filter_lt _ (fun x p h=> ?_) ⟨j,List.mem_range.2 i,by rw[f];rfl, ?_⟩
 .by_cases e:j=x
  all_goals simp_all
 simp
theorem am8 {lA:Array Bool} (h:adc ops lA=0):Region.ready .any ops lA=[]:=by
 simp_all [adc,Region.ready]
theorem iK.oldest {lA:Array Bool} {log:List Nat}: ∀{l:List Nat},iK ops lA log l->l≠[]-> ∃k∈l,k∈Region.ready .any ops lA
 |[],_,h=>absurd rfl h
 |[k],h,_=>by
  obtain⟨_,e,_,_,ok,f,_,_,_,g,_⟩:=h;simp_all [mem_ready]
 |k::m::l,h,_=>by
  obtain⟨x,d,hr⟩:=iK.oldest h.1 (by simp);exact⟨x,ak _ d,hr⟩
structure Lag (n:Nat) (sg:FuncId->Option Sum) (cl:Bool) (P:Program) (W0:World) (b0:Nat) (rd:Option Nat) (ats:List (Array Value)) (ops:Array Oper) (c:Cx) (st:St) (lE:Array Bool) (log:List Nat) (a:Act) (lA:Array Bool) (l:List (Nat×Value)):Prop where
 rel:iM W0 b0 rd c st (gB ops a l) ats
 pst:iK ops lA log (l.map (·.1))
 run:kN rd n P ops c a l
 sA:lA.size=ops.size
 sE:lE.size=ops.size
 sub: ∀j,lA.getD j false=true->lE.getD j false=true
 cov: ∀j,lE.getD j false=true->lA.getD j false=true\/j∈l.map (·.1)
 hE: ∀k∈l.map (·.1),lE.getD k false=true
 fit:LH sg cl ops st.fr (l.map (·.1))
theorem YZ {l:Array Bool} {j:Nat} (h:j<l.size):l.getD j true=l.getD j false:=by simp[h]
theorem Lag.ready {d:Array Bool} {log:List Nat} {lA:Array Bool} {l:List (Nat×Value)} (h:Lag n sg cl P W0 b0 rd ats ops c st d log a lA l) {j:Nat} (g:j∈Region.ready .any ops lA) (v:j∉l.map (·.1)):j∈Region.ready .any ops d:=by
 obtain⟨x,i,f,o⟩:=mem_ready.1 g;have p:j<ops.size:=(Array.getElem?_eq_some_iff.1 f).1;refine mem_ready.2 ⟨?_,i,f,fun e q s=>h.sub _ (o e q s)⟩;cases hg:d.getD j true with
 |false=>rfl
 |true=>
  rw[YZ (by rw[h.sE];exact p)]at hg;rcases h.cov j hg with u|u
  all_goals grind
theorem PQ (hd:mr ops=true) {f:Array Bool} {log:List Nat} {Q:Act->World->Prop}
  (I:Region.ready .any ops f=[]-> ∀w,GK c w-> ∀a,iM W0 b0 rd (c.at_ w) st a ats->Q a w)
  (J: ∀(w:World),GK c w-> ∀(d:Nat) (a:Act) (lA:Array Bool) (l:List (Nat×Value)) (j:Nat),Lag n sg cl P W0 b0 rd ats ops (c.at_ w) st f log a lA l->adc ops lA<=d+1->j∈Region.ready .any ops lA->j∉l.map (·.1)->j∈Region.ready .any ops f->
   wpOpIn (FW rd) n P ops (fun e a w=>e=.normal/\Q a w) j (wpAnyIn (FW rd) n P .any ops (fun e a w=>e=.normal/\Q a w) d (lA.setIfInBounds j true)) a w):
  ∀(m d:Nat) (w:World),GK c w-> ∀(a:Act) (lA:Array Bool) (l:List (Nat×Value)),l.length=m->Lag n sg cl P W0 b0 rd ats ops (c.at_ w) st f log a lA l->adc ops lA<=d->
   wpAnyIn (FW rd) n P .any ops (fun e a w=>e=.normal/\Q a w) d lA a w:=by
 have B: ∀(w:World),GK c w-> ∀(a:Act) (lA:Array Bool) (l:List (Nat×Value)),Lag n sg cl P W0 b0 rd ats ops (c.at_ w) st f log a lA l->Region.ready .any ops lA=[]->Q a w:=fun w g a lA l h hr=>by
  have hl:l=[]:=by
   cases l with
   |nil=>rfl
   |cons x l=>
    obtain⟨k,_,hk⟩:=iK.oldest h.pst (by simp);simp_all
  subst hl;refine I ?_ w g a h.rel;cases hrE:Region.ready .any ops f with
  |nil=>rfl
  |cons j V=>
   obtain⟨o,p,D,K⟩:=mem_ready.1 (show j∈Region.ready .any ops f by rw[hrE];simp);have s:j<ops.size:=(Array.getElem?_eq_some_iff.1 D).1;have:j∈Region.ready .any ops lA:=mem_ready.2 ⟨by
    cases hg:lA.getD j true with
    |false=>rfl
    |true=>
     rw[YZ (by rw[h.sA];exact s)]at hg;exact(MG (h.sub j hg) o).elim,p,D,fun e L M=>(h.cov _ (K e L M)).resolve_right (by simp)⟩
   simp_all
 intro m
 induction m using Nat.strongRecOn with
 |ind m u=>
  intro d w g a lA l q h N;cases d with
  |zero=>
   have hr:=am8 (ops:=ops) (lA:=lA) (by omega);exact⟨hr,rfl,B w g a lA l h hr⟩
  |succ d=>
   refine⟨fun hr=>⟨rfl,B w g a lA l h hr⟩,fun j i=> ?_⟩;by_cases hjl:j∈l.map (·.1)
   .obtain⟨W,p,y,X⟩:=mem_ready.1 i;obtain⟨v,z,g1,g2,g3,g4⟩:=Xo hd y i h.pst h.run hjl;have s:j<ops.size:=(Array.getElem?_eq_some_iff.1 y).1;have O:p.guard=a7:=by
     have: ∀(l:List Nat),iK ops lA log l->j∈l->p.guard=a7:=fun l=>by
      induction l with
      |nil=>intro _ h;cases h
      |cons k l u=>
       intro E q;rcases List.mem_cons.1 q with e|q
       .subst e;obtain⟨_,_,_,_,ok,Y,_,Z,_⟩:=E;simp_all
       .exact u E.1 q
     exact this _ h.pst hjl
    have S:z.length<m:=by
     grind [aQ]
    refine g1.wpOp (c:=c.at_ w) hd y O fun G A=> ?_;have U:GK c G:=Below.trans g (A.mono g.size);refine u z.length S d G U _ _ z rfl ⟨by rw[g4];exact h.rel.ext A,by rw[g2];exact iK.take (by rw[h.sA];exact s) h.pst hjl,kN.ext A g3,by simpa using h.sA,h.sE,fun k hk=> ?_,fun k hk=> ?_,fun k hk=>h.hE k (by grind),fun k hk=>h.fit k (by grind)⟩ (by have:=Jt h.sA i;omega)
    .by_cases e:j=k
     .subst e;exact h.hE j hjl
     .rw[getD_set_ne false e]at hk;exact h.sub k hk
    .rcases h.cov k hk with o|o
     .exact .inl (getD_set_true o)
     grind [wV]
   .exact J w g d a lA l j h N i hjl (h.ready i hjl)
theorem an8 {fr:List bU} {d:Nat} {z:bU} {x:Operand} (h:x≠ .tmp d):gX (fr.set d z) x=gX fr x:=by
 cases x with
 |tmp t=>
  grind [gX]
 |_=>rfl
theorem Bc {o:Oper} {dst:Option Nat} {z:bU} (h: ∀d,dst=a6 d->d∉o.looksAt ops):jD o (st.put dst z).fr=jD o st.fr:=by
 cases dst with
 |none=>rfl
 |some d=>
  have f: ∀x∈o.op.operands,x≠ .tmp d:=fun x f e=>h d rfl (by
   subst e;exact bF _ (List.mem_filterMap.2 ⟨.tmp d,by simpa using f,rfl⟩))
  grind [jD,St.put,an8,Op.operands,Call.operands,List.map_congr_left]
theorem aiw {o:Oper} {dst:Option Nat} {z:bU} (h: ∀d,dst=a6 d->o.dst≠a6 d):zu o.dst (st.put dst z).fr=zu o.dst st.fr:=by
 cases dst with
 |none=>rfl
 |some d=>
  cases ho:o.dst with
  |none=>rfl
  |some e=>
   have f:d≠e:=fun x=>h d rfl (by rw[ho,x]);simp_all [zu,St.put]
theorem Xe: ∀(rs:List (Ty×Bool)) y,(rs.all fun r=> !r.2&&r.1.rigid)=true->xO rs y=a7/\news rs=0/\(rs.all fun r=>r.1.rigid||(r.2&&r.1.elem.rigid))=true
 |[],_,_=>⟨rfl,rfl,rfl⟩
 |(t,true)::rs,y,h=>by simp at h
 |(t,false)::rs,y,h=>by
  simp only[aW,az,aK,af]at h;obtain⟨d,e,f⟩:=Xe rs y.2 h.2;simp_all [xO,news]
theorem V6 {hp hp':gQ}: ∀(d:List Ty) (args:List bU),args.all bU.calm=true->zG hp d args=zG hp' d args
 |[],[],_=>rfl
 |[],_::_,_=>rfl
 |_::_,[],_=>rfl
 |t::d,v::args,h=>by
  simp only[aW,af]at h;have e:v.as hp t=v.as hp' t:=by cases v<;>simp only[bU.calm,ag]at h<;>first|rfl|simp_all
  have f:=V6 (hp:=hp) (hp':=hp') d args h.2;simp only[zG,e,f]
theorem aiu {R:Type} {r:R} {i:Nat} {e:Oper} {X:bU->St->Option R} (hi:Y7 sg ops st.fr i=true) (A:ops[i]? =a6 e) (B: ∀d,e.dst=a6 d->d∉e.looksAt ops)
  (h:eH T cl (GX sg cl) e st X=a6 r): ∃z,X z st=a6 r/\jM e.op=true/\sJ sg cl e (st.put e.dst z).fr z:=by
 unfold Y7 at hi;rw[A]at hi;simp only at hi;split at hi
 .rename_i g o j
  split at hi
  .rename_i s D
   simp only[af]at hi;obtain⟨⟨p,q⟩,O⟩:=hi;obtain⟨S,E,U,V,W,Y⟩:=e;cases E with
   |call c=>
    obtain⟨G,Z,ts⟩:=c;cases G with
    |value v=>
     have I:=j;simp only[jD,List.cons.injEq]at j;simp only[eH]at h;rw[j.1,j.2]at h;have J: ∀{R:Type} (dst:Option Nat) (l:St) (K:bU->St->Option R),GX sg cl (.fn g []) o dst l K=match zG [] s.ps o with
       |some x=>bJ (s.f x) fun y=>K (Nu (oh 0 s.rs y)) l
       |none=>a7:=fun {R} dst l K=>by
      simp only[GX,D,p,q,Bool.and_self,aa,Sum.call];have u:=p;unfold KO at u;rw[V6 (hp:=l.hp) (hp':=[]) _ _ q];cases zG [] s.ps o with
      |none=>simp
      |some x=>
       simp only;cases hf:s.f x with
       |none=>simp[bJ]
       |some y=>
        obtain⟨L,M,N⟩:=Xe s.rs y u;simp[bJ,L,M,N]
     rw[J]at h;split at h
     .rename_i x hx
      cases hf:s.f x with
      |none=>rw[hf]at h;cases h
      |some y=>
       rw[hf]at h;refine⟨_,h,rfl,rfl,⟨_,v,rfl,rfl⟩,Uz _ (Jb 0 s.rs y p),fun d hd=> ?_,.fn g [],o, ?_,fun dst l K=> ?_⟩
       .simp_all [PD,St.put]
       .rw[Bc (ops:=ops) B];exact I
       simp_all [bJ]
     .cases h
    |_=>simp[jD]at j
   |_=>simp[jD]at j
  .cases hi
 .cases hi
theorem vz (hT:TOk P T) (hd:mr ops=true) (E: ∀R:Type,mV (R:=R) P (GX sg cl)) {ao:gI St} (U:lV P W0 n ao) {av:gI Unit} (V:lV P W0 n av) (W:xw sg ao) (X:xw sg av): ∀(I:Nat) {R:Type} {r:R} {call:gI R} (Y:lV P W0 n call) (hx:xw sg call) {K:St->Option R} {Q:Act->World->Prop}
  (J:Array Bool) (log:List Nat) (c:Cx) (st:St),l9 T cl sg ao av ops I call J log st K=a6 r->
  (∀c' g p,K g=a6 r->iM W0 b0 rd c' g p ats->c.Mono c'->Q p c'.w)-> ∀(s:Nat) (a:Act) (lA:Array Bool) (l:List (Nat×Value)),Lag n sg cl P W0 b0 rd ats ops c st J log a lA l->adc ops lA<=s->
   wpAnyIn (FW rd) n P .any ops (fun e a w=>e=.normal/\Q a w) s lA a c.w
 |0,R,r,call,Y,hx,K,Q,J,log,c,st,h,Z,s,a,lA,l,hl,L=>by simp[l9]at h
 |I+1,R,r,call,Y,hx,K,Q,J,log,c,st,h,Z,s,a,lA,l,hl,L=>by
  have aw: ∀(w:World) (p:Act) (lA:Array Bool) (l v:List (Nat×Value)) (j:Nat) (c':Cx) (g:St) (a:Act),Lag n sg cl P W0 b0 rd ats ops (c.at_ w) st J log a lA l->j∈Region.ready .any ops lA->j∉l.map (·.1)->v.map (·.1)=l.map (·.1)->
    iM W0 b0 rd c' g (gB ops p v) ats->kN rd n P ops c' p v->LH sg cl ops g.fr (l.map (·.1))->Lag n sg cl P W0 b0 rd ats ops c' g (J.setIfInBounds j true) log p (lA.setIfInBounds j true) v:=fun w p lA l v j c' g a hl x y A e2 e3 e4=>by
   obtain⟨_,oj,aV,_⟩:=mem_ready.1 x;have aG:j<ops.size:=(Array.getElem?_eq_some_iff.1 aV).1;refine⟨e2,by rw[A];exact iK.set hl.pst y,e3,by simpa using hl.sA,by simpa using hl.sE,fun k hk=> ?_,fun k hk=> ?_,fun k hk=>getD_set_true (hl.hE k (by simp_all)),by rw[A];exact e4⟩
   .by_cases e:j=k
    .subst e;exact wV (by rw[hl.sE];exact aG)
    .rw[getD_set_ne false e]at hk ⊢;exact hl.sub k hk
   .by_cases e:j=k
    .grind [wV]
    .rw[getD_set_ne false e]at hk ⊢;rw[A];exact hl.cov k hk
  have aI: ∀(i:Nat) (f:Oper) (z:bU) (u:Value),i∈Region.ready .any ops J->ops[i]? =a6 f->jM f.op=true->f.guard=a7->MW ops log i=true->
    l9 T cl sg ao av ops I call (J.setIfInBounds i true) (i::log) (st.put f.dst z) K=a6 r->bW c z u->Ib rd n P c (gB ops a l) f u->
    (iy f.op=false-> ∃z,sJ sg cl f (st.put f.dst z).fr z/\True)->(iy f.op=false->sJ sg cl f (st.put f.dst z).fr z)->
    wpAnyIn (FW rd) n P .any ops (fun e a w=>e=.normal/\Q a w) s lA a c.w:=fun i f z u ab B hq aX aj g1 g2 g3 _ g4=>by
   obtain⟨aJ,bH,aO,aZ⟩:=mem_ready.1 ab;rw[B]at aO;cases aO;have aG:i<ops.size:=(Array.getElem?_eq_some_iff.1 B).1;have bd:i∉l.map (·.1):=fun hm=>MG (hl.hE i hm) aJ;have bf:lA.getD i true=false:=by
    cases hga:lA.getD i true with
    |false=>rfl
    |true=>
     rw[YZ (by rw[hl.sA];exact aG)]at hga;exact(MG (hl.sub i hga) aJ).elim
   have D:=aj;unfold MW at D;rw[B]at D;simp only[af]at D;obtain⟨ax,D⟩:=D;have aP: ∀m∈l.map (·.1),∃om,ops[m]? =a6 om/\aqs ops om f/\(sG ops i m=false->om.apart ops f=true):=fun m hm=>by
    have h3:=List.all_eq_true.1 D m (iK.log hl.pst m hm);split at h3
    .rename_i om cb
     simp only[af,Bool.or_eq_true]at h3
     grind [Md]
    .cases h3
   refine vz hT hd E U V W X I Y hx (Q:=Q) (J.setIfInBounds i true) (i::log) c (st.put f.dst z) g1 Z s a lA ((i,u)::l) ⟨?_, ?_,⟨hl.run,f,B,g3⟩,hl.sA,by simpa using hl.sE,fun k hk=> ?_,fun k hk=> ?_,fun k hk=> ?_,fun k hk ok aS bi=> ?_⟩ L
   .have:=hl.rel.put (dst:=f.dst) g2;simp_all [gB,sZ]
   .exact⟨iK.mono (fun k hk=>ak _ hk) hl.pst,bf,aB,bd,f,B,hq,aX,fun d ad=>(Md ax d ad).1,fun e he hb=>hl.cov _ (aZ e he hb),aP⟩
   .by_cases e:i=k
    .grind
    .rw[getD_set_ne false e];exact hl.sub k hk
   .by_cases e:i=k
    .simp_all
    .rw[getD_set_ne false e]at hk;exact(hl.cov k hk).imp (fun h=>h) fun h=>ak _ h
   .rcases List.mem_cons.1 hk with e|hk
    .grind [wV]
    .exact getD_set_true (hl.hE k hk)
   .rcases List.mem_cons.1 hk with e|hk
    .grind
    .obtain⟨z',bn⟩:=hl.fit k hk ok aS bi;obtain⟨om,G,h2,_⟩:=aP k hk;rw[aS]at G;cases G;exact⟨z',bn.same (Bc (ops:=ops) fun d ad=>(h2 d ad).1).symm (aiw fun d ad=>(h2 d ad).2).symm⟩
  simp only[l9]at h;split at h
  .rename_i al
   exact PQ (n:=n) (sg:=sg) (cl:=cl) hd (fun _ w M a hr=>Z (c.at_ w) st a h hr (Cx.Le.ext M).mono) (fun w M s a lA l j _ _ _ _ x=>by simp_all) _ s c.w (Below.refl _ _) a lA l rfl hl L
  .rename_i k rs al
   split at h
   .rename_i i hf
    have an:=List.find?_some hf;simp only[af]at an;replace an:=an.1;have ab:=List.mem_of_find?_eq_some hf;rw[<-al]at ab;split at h
    .rename_i f B
     replace h:=dG h;obtain⟨N,h⟩:=h;simp only[af]at N;obtain⟨N,aj⟩:=N;have hq:iy f.op=true:=by
      grind [Xi]
     obtain⟨z,u,g1,g2,g3⟩:=Ai hT hl.rel.ok hq hl.rel.hp hl.rel.fr h;exact aI i f z u ab B (aoY hq) (by simpa using N) aj g1 g2 (.of_run g3) (fun h0=>by simp_all) (fun h0=>by simp_all)
    .cases h
   .split at h
    .rename_i i hf
     have an:=List.find?_some hf;have ab:=List.mem_of_find?_eq_some hf;rw[<-al]at ab;split at h
     .rename_i f B
      replace h:=dG h;obtain⟨N,h⟩:=h;simp only[af]at N;obtain⟨N,aj⟩:=N;have ax: ∀d,f.dst=a6 d->d∉f.looksAt ops:=by
       have D:=aj;unfold MW at D;rw[B]at D;simp only[af]at D;exact fun d ad=>(Md D.1 d ad).1
      obtain⟨z,g1,g2,g3⟩:=aiu an B ax h;obtain⟨g4,g5⟩:=QZ (n:=n) hT (E Unit) g3 (Bc (ops:=ops) ax) hl.rel;exact aI i f z _ ab B g2 (by simpa using N) aj g1 g4 g5 (fun _=>⟨z,g3,trivial⟩) (fun _=>g3)
     .cases h
    .split at h
     .refine PQ (n:=n) (sg:=sg) (cl:=cl) hd (fun hr=>by simp_all) (fun w M s a lA l j hl L x y O=> ?_) _ s c.w (Below.refl _ _) a lA l rfl hl L;rw[al]at O;obtain rfl:j=k:=by simpa using O
      refine FM (c:=c.at_ w) hT hd (E Unit) Y hl.fit x hl.pst y hl.rel h fun c' g p v k1 A k2 k3 k5 k4=> ?_;exact vz hT hd E U V W X I Y hx (Q:=Q) _ log c' g k1 (fun aA aF ai q q2 q3=>Z aA aF ai q q2 ((Cx.Le.ext M).mono.trans (k4.trans q3))) s p _ v (aw w p lA l v j c' g a hl x y A k2 k3 k5) (by have:=Jt hl.sA x;omega)
     .rw[cond_eq_ite]at h;split at h
      rotate_left
      .rename_i aU
       simp only[Bool.or_eq_true,aY,not_or,bg,Bool.not_eq_false]at aU;have hp: ∀o∈ops.toList,uX sg o.op=true:=fun o ho=>List.all_eq_true.1 aU.2 o ho;refine PQ (n:=n) (sg:=sg) (cl:=cl) hd (fun hr=>by simp_all) (fun w M s a lA l j hl L x y O=> ?_) _ s c.w (Below.refl _ _) a lA l rfl hl L;rw[al]at O;rcases List.mem_cons.1 O with rfl|bt
       .refine FM (c:=c.at_ w) hT hd (E Unit) Y hl.fit x hl.pst y hl.rel h fun c' g p v k1 A k2 k3 k5 k4=> ?_;exact vz hT hd E U V W X I Y hx (Q:=Q) _ log c' g k1 (fun aA aF ai q q2 q3=>by
         replace q:=dG q;obtain⟨q0,q⟩:=q;obtain⟨c3,S,m3,w3⟩:=q2.tidy cl;split at q
         .rename_i m hm
          replace q:=(yA _ q).1;have:=afv hm hl.rel.wf q0 S.wf;subst this;rw[<-w3];exact Z c3 _ ai q S ((Cx.Le.ext M).mono.trans (k4.trans (q3.trans m3)))
         .cases q) s p _ v (aw w p lA l v j c' g a hl x y A k2 k3 k5) (by have:=Jt hl.sA x;omega)
       .obtain⟨_,G⟩:=YH hx hp h;obtain⟨cc,G⟩:=RY hp W X I hx _ _ _ _ G;replace G:=(dG G).2;split at G
        .rename_i m hm
         obtain⟨hK,bu⟩:=yA _ G;have bz:=bu _ (List.mem_map.2 ⟨j,bt,rfl⟩);refine FM (c:=c.at_ w) hT hd (E Unit) V hl.fit x hl.pst y hl.rel bz fun c' g p v k1 A k2 k3 k5 k4=> ?_;exact vz hT hd E U V W X I V X (Q:=Q) _ log c' g k1 (fun aA aF ai q q2 q3=>by
          replace q:=(dG q).1;simp only[af]at q;obtain⟨c3,S,m3,w3⟩:=q2.tidy cl;have:=ao9 hm hl.rel.wf q.1 q.2 S.wf;subst this;rw[<-w3];exact Z c3 _ ai hK S ((Cx.Le.ext M).mono.trans (k4.trans (q3.trans m3)))) s p _ v (aw w p lA l v j c' g a hl x y A k2 k3 k5) (by have:=Jt hl.sA x;omega)
        .cases G
      split at h
      .rename_i cd bC
       refine PQ (n:=n) (sg:=sg) (cl:=cl) hd (fun hr=>by simp_all) (fun w M s a lA l j hl L x y O=> ?_) _ s c.w (Below.refl _ _) a lA l rfl hl L;rw[al]at O;obtain⟨b,bD,bG⟩:=aeH bC hl.rel.wf _ (List.mem_map.2 ⟨j,O,rfl⟩);refine FM (c:=c.at_ w) hT hd (E Unit) U hl.fit x hl.pst y hl.rel bD fun c' g p v k1 A k2 k3 k5 k4=> ?_;exact vz hT hd E U V W X I U W (Q:=Q) _ log c' g k1 (fun aA aF ai q q2 q3=>by
        cases q;obtain⟨c3,S,m3,w3⟩:=q2.tidy cl;have:=bG S.wf;subst this;rw[<-w3];exact Z c3 _ ai h S ((Cx.Le.ext M).mono.trans (k4.trans (q3.trans m3)))) s p _ v (aw w p lA l v j c' g a hl x y A k2 k3 k5) (by have:=Jt hl.sA x;omega)
      .cases h
theorem ahj (hT:TOk P T) (q:P.follows .mixedOrders=true) (hd:mr ops=true) (s: ∀R:Type,mV (R:=R) P (GX sg cl)) {g:gI St} (u:lV P W0 n g) {i:gI Unit} (v:lV P W0 n i) (x:xw sg g) (y:xw sg i) {R:Type} {r:R} {call:gI R} (z:lV P W0 n call) (hx:xw sg call) {id o:Nat} {K:St->Option R} {Q:Exit->Act->World->Prop}
  (h:l9 T cl sg g i ops o call (Array.replicate ops.size false) [] st K=a6 r) (hr:iM W0 b0 rd c st a ats) (A: ∀c' d f,K d=a6 r->iM W0 b0 rd c' d f ats->c.Mono c'->Q .normal f c'.w):
  (Code.region id ops true).wpIn (FW rd) n P Q a c.w:=by
 have p:GK c {c.w with drawn:=c.w.drawn+1}:=⟨rfl,rfl,rfl,ae _,fun _ _=>rfl⟩;have B:=hr.ext p;have D:=vz (Q:=fun a w=>Q .normal a w) hT hd s u v x y o z hx _ [] (c.at_ {c.w with drawn:=c.w.drawn+1}) st h (fun c' d f k1 k2 k3=>A c' d f k1 k2 ((Cx.Le.ext p).mono.trans k3)) ops.size a
  (Array.replicate ops.size false) [] ⟨B,trivial,trivial,by simp,by simp,fun j l=>l,fun j l=>.inl l,(fun k hk=>by cases hk),(fun k hk=>by cases hk)⟩ (by
   grind [adc])
 exact Code.wpIn_mono (fun e a w E=>by simp_all) (wpIn_region_any q D)
end
end
section
open Option renaming some → a6, none → a7
open Bool renaming and_eq_true → af
open Nat renaming le_trans → aI
open Go.RowKit
section
variable {P:Program} {T:TT} {W0:World} {b0:Nat} {rd:Option Nat} {R:Type} {r:R} {ats:List (Array Value)}
theorem aqi {F:Fence} {n:Nat} {Q:Exit->Act->World->Prop} {a:Act} {w:World} {e:Ex} {d:Code} (f:e.code=a6 d) (h:Q e.xt a w):d.wpIn F n P Q a w:=by
 cases e<;>simp only[Ex.code,Option.some.injEq,reduceCtorEq]at f<;>subst f
 .exact wpIn_exit h
 .exact wpIn_goto h
 .exact wpIn_ret h
theorem S9 {n:Nat} {F:St->(Ex->St->Option R)->Option R} {K:Ex->St->Option R} {Q:Exit->Act->World->Prop} {code:Code} {kp:Option eQ}
  (hF: ∀(E:Ex->St->Option R) (G:Exit->Act->World->Prop) (c:Cx) (st:St) (a:Act),F st E=a6 r->iM W0 b0 rd c st a ats->b0<=c.w.heap.size->(∀e c' g z,E e g=a6 r->iM W0 b0 rd c' g z ats->c.Mono c'->G e.xt z c'.w)->code.wpIn (FW rd) n P G a c.w)
  {c:Cx} {st:St} {a:Act} (m:Nat) (h:iter kp F m st K=a6 r) (hr:iM W0 b0 rd c st a ats) (hb:b0<=c.w.heap.size) (x: ∀e c' g z,K e g=a6 r->iM W0 b0 rd c' g z ats->c.Mono c'->Q e.xt z c'.w):
  (Code.loop code).wpIn (FW rd) n P Q a c.w:=by
 refine wpIn_loop_ghost (fun m a w=> ∃c' g,iter kp F m g K=a6 r/\iM W0 b0 rd c' g a ats/\c.Mono c'/\c'.w=w) m ⟨c,st,h,hr,Cx.Mono.refl c,rfl⟩ ?_;rintro m a w ⟨I,J,D,L,f,rfl⟩;cases m with
 |zero=>simp[iter]at D
 |succ m=>
  simp only[iter]at D;refine hF _ _ I J a D L (aI hb f.size) fun e A B y d i j=> ?_;cases e with
  |normal=>
   simp only at d;simp only[Ex.xt,Exit.then];cases kp with
   |none=>exact⟨m,Nat.lt_succ_self m,A,B,d,i,f.trans j,rfl⟩
   |some k=>
    simp only at d;split at d
    .rename_i o p
     obtain⟨q,s,u,v⟩:=oV i p;exact⟨m,Nat.lt_succ_self m,q,o,d,s,(f.trans j).trans u,v⟩
    .cases d
  |ret=>
   simp only at d;simp only[Ex.xt,Exit.then];cases kp with
   |none=>exact x .ret A B y d i (f.trans j)
   |some k=>
    simp only at d;split at d
    .rename_i o p
     obtain⟨q,s,u,v⟩:=X6 i p;rw[<-v];exact x .ret q o y d s ((f.trans j).trans u)
    .cases d
  |exit id=>
   simp only at d;simp only[Ex.xt,Exit.then];cases kp with
   |none=>exact x (.exit id) A B y d i (f.trans j)
   |some k=>
    simp only at d;split at d
    .rename_i o p
     obtain⟨q,s,u,v⟩:=oV i p;rw[<-v];exact x (.exit id) q o y d s ((f.trans j).trans u)
    .cases d
  |goto l=>
   simp only at d;simp only[Ex.xt,Exit.then];cases kp with
   |none=>exact x (.goto l) A B y d i (f.trans j)
   |some k=>
    simp only at d;split at d
    .rename_i o p
     obtain⟨q,s,u,v⟩:=oV i p;rw[<-v];exact x (.goto l) q o y d s ((f.trans j).trans u)
    .cases d
theorem Wn {n:Nat} {F:St->(Ex->St->Option R)->Option R} {K:Ex->St->Option R} {Q:Exit->Act->World->Prop} {code:Code} {kp:Option eQ}
  (hF: ∀(z:Ex->St->Option R) (A:Exit->Act->World->Prop) (c:Cx) (st:St) (a:Act),F st z=a6 r->iM W0 b0 rd c st a ats->b0<=c.w.heap.size->(∀e c' x y,z e x=a6 r->iM W0 b0 rd c' x y ats->c.Mono c'->A e.xt y c'.w)->code.wpIn (FW rd) n P A a c.w)
  {c:Cx} {st:St} {a:Act} (m:Nat) (h:iter kp (Bg F) m st (um 999999 K)=a6 r) (hr:iM W0 b0 rd c st a ats) (hb:b0<=c.w.heap.size) (q: ∀e c' x y,K e x=a6 r->iM W0 b0 rd c' x y ats->c.Mono c'->Q e.xt y c'.w):
  code.wpIn (FW rd) n P Q a c.w:=by
 cases m with
 |zero=>simp[iter]at h
 |succ m=>
  simp only[iter,Bg]at h;refine hF _ _ c st a h hr hb fun e B D s d u v=> ?_;cases e with
  |normal=>
   simp only at d;cases kp with
   |none=>
    simp only[um,beq_self_eq_true,aa]at d
    grind
   |some k=>
    simp only at d;split at d
    .rename_i f g
     obtain⟨i,j,o,p⟩:=oV u g;simp only[um,beq_self_eq_true,aa]at d;rw[<-p];exact q .normal i f s d j (v.trans o)
    .cases d
  |ret=>
   simp only at d;cases kp with
   |none=>exact q .ret B D s d u v
   |some k=>
    simp only at d;split at d
    .rename_i f g
     obtain⟨i,j,o,p⟩:=X6 u g;rw[<-p];exact q .ret i f s d j (v.trans o)
    .cases d
  |exit id=>
   simp only at d;rw[cond_eq_ite]at d;split at d
   .cases d
   .rename_i G
    have E:(id==999999)=false:=by
     simp_all
    cases kp with
    |none=>
     simp only[um,E,ac]at d
     grind
    |some k=>
     simp only at d;split at d
     .rename_i f g
      obtain⟨i,j,o,p⟩:=oV u g;simp only[um,E,ac]at d;rw[<-p];exact q (.exit id) i f s d j (v.trans o)
     .cases d
  |goto l=>
   simp only at d;cases kp with
   |none=>exact q (.goto l) B D s d u v
   |some k=>
    simp only at d;split at d
    .rename_i f g
     obtain⟨i,j,o,p⟩:=oV u g;rw[<-p];exact q (.goto l) i f s d j (v.trans o)
    .cases d
theorem sS {n:Nat} {f:FuncId} {args:Array Value} {w:World} {Rr:Ending->World->Prop} (h:Calls P f args w Rr):CallsIn (FW rd) n P f args w Rr:=(callsIn_wide (n:=n)).2 h
theorem afa {n:Nat} {f:FuncId} {cl:Bool} {ex:mO R} (ah:uA P W0 ex) {fv:Operand} {p:Array Tmp} {asg q:Code} {K:Ex->St->Option R} {Q:Exit->Act->World->Prop} {c:Cx} {st:St} {a:Act} {g:FuncId} {M:List bU}
  (N:bW c (.fn g M) (a.eval fv))
  {W:Option Nat} (ai: ∀k,W=a6 k->qK f k=a6 (asg,q))
  (h:alloc cl (a6 (700000+p.toList.headD 0)) (.lp f st.fr p.toList asg q W 0 a7) st (fun id st=>
    ex (.call g (.yld id::M)) {st with stk:=[.yld id]::st.stk} fun _ st=>match st.stk with
     |[.yld id]::stk=>match dQ st.hp id with
      |some (.lp _ _ _ _ _ _ 0 a7)=>K .normal {st with stk:=stk,hp:=iU st.hp id .dead}
      |some (.lp _ _ _ _ _ _ 1 (a6 e))=>K e {st with stk:=stk,hp:=iU st.hp id .dead}
      |_=>a7
     |_=>a7)=a6 r)
  (hr:iM W0 b0 rd c st a ats) (hb:b0<=c.w.heap.size) (hQ: ∀e c' ad a',K e ad=a6 r->iM W0 b0 rd c' ad a' ats->c.Mono c'->Q e.xt a' c'.w):
  (Code.rangeFunc fv p asg q).wpIn (FW rd) n P Q a c.w:=by
 obtain⟨id,n',h3,h4,h5,h⟩:=ji h;simp only[bW]at N;obtain⟨O,N,aj⟩:=N;refine wpIn_rangeFunc fun fn _=> ?_;obtain⟨s,d,aJ,G,ak,al,an⟩: ∃(s:List Deferred) (d:Cx),d.hp=c.hp/\iM W0 b0 rd d st {a with defers:=s++a.defers} ats/\c.Mono d/\c.Le0 d/\
   ∃L:Loop,L.tmps=a.tmps/\L.params=p/\L.assign=asg/\L.body=q/\L.state=.ready/\L.pending=a7/\(Instr.enterLoop fn a.tmps p asg q rd).run P c.w=.ok (d.w.heap.size,s) (d.w.alloc (.loop L)):=by
  cases rd with
  |none=>
   obtain⟨S,ao⟩:=avg hr.ok;refine⟨[mkD c.w.heap.size],{c with w:=c.w.alloc (.deferred (a6 [])),mks:=c.w.heap.size::c.mks},rfl,⟨hr.hp,hr.nxt,ao,bK.le S _ _ hr.fr,Dh.le S _ _ hr.stk, ?_,fun l hl=>by cases hl⟩,S.mono,S.le0,{state:=.ready,pending:=a7,fn,tmps:=a.tmps,params:=p,assign:=asg,body:=q,defers:=c.w.heap.size},rfl,rfl,rfl,rfl,rfl,rfl, ?_⟩
   .obtain⟨X,Y,Z,e3⟩:=hr.df;refine⟨c.w.heap.size::X,by simp[Y],List.nodup_cons.2 ⟨fun hm=> ?_,Z⟩,fun x hx=> ?_⟩
    .have:=hr.ok.mark_lt (e3 _ hm).1;omega
    grind
   rfl
  |some l0=>
   obtain⟨L0,au⟩:=hr.rd l0 rfl;exact⟨[],c,rfl,hr,Cx.Mono.refl c,(Cx.Le.refl c).le0,{state:=.ready,pending:=a7,fn,tmps:=a.tmps,params:=p,assign:=asg,body:=q,defers:=L0.defers},rfl,rfl,rfl,rfl,rfl,rfl,run_enterLoop_inner au fn a.tmps p asg q⟩
 obtain⟨L,q1,q2,q3,q4,q5,q6,q7⟩:=an;subst q2 q3 q4;obtain⟨U,hd,aK,hy,_⟩:=aFC G.ok (st:=st) G.hp G.nxt h3 h4 h5 (f:=f) (fr:=st.fr) (L:=L) (by rw[q1];exact G.fr) q5 q6 ai;have v:=G.did hd;have ae:c.Mono U:=ak.trans hd.le.mono;have av:iM W0 b0 rd U {st with stk:=[.yld id]::st.stk,hp:=(id,.lp f st.fr L.params.toList L.assign L.body W 0 a7)::st.hp,nxt:=n'} {a with defers:=s++a.defers} (#[.func (.yield d.w.heap.size) #[] #[]]::ats):=
  ⟨v.hp,v.nxt,v.ok,v.fr,⟨by simpa [bK] using hy,v.stk⟩,v.df,v.rd⟩
 have aO:bK U M O.toList:=bK.le hd.le _ _ (bK.le0 al _ _ aj);have aP:=ah g (.yld id::M) _ _ r h b0 rd U {a with defers:=s++a.defers} (#[.func (.yield d.w.heap.size) #[] #[]]::ats) (#[.func (.yield d.w.heap.size) #[] #[]]++O) av (by simp_all [bK])
  (rangePost (FW rd) n P d.w.heap.size Q {a with defers:=s++a.defers}) (by
   intro c3 z u aw B i _ ag;have I:=i.stk;split at B
   .rename_i D aQ ax
    rw[ax]at I;obtain⟨V,I⟩:=I;simp only[bK,and_true]at V;have E: ∀{o},dQ aw.hp D=a6 o->dQ c3.hp D=a6 o:=fun {o} ho=>by rw[i.hp];exact ho
    simp only[bW]at V;split at B
    .rename_i f3 ay az aA aB aF y
     obtain⟨_,hB,L3,J,aG,Y,Z,e3,e4,e5⟩:=i.ok.obj D _ (E y);have A:=V.2.2 _ _ _ _ _ _ _ _ (E y);have A:d.w.heap.size=(c3.mu D).blk:=by simpa using A
     obtain⟨c4,p1,p2,j,p4,p5,p6⟩:=I5 i.ok (E y) J {L3 with state:=.exhausted,pending:=a7} (o':=.dead) (.inl rfl);refine⟨_,_,(by rw[A];exact run_endLoop J (by rw[e4];decide)), ?_⟩;rw[e5];simp only;rw[<-p5];refine hQ .normal c4 _ _ B ⟨by rw[p1,i.hp],by rw[p2,i.nxt],p4,bK.le j _ _ i.fr,Dh.le j _ _ I, ?_, ?_⟩ ((ae.trans ag).trans j.mono)
     .obtain⟨X,w1,w2,w3⟩:=i.df
      grind
     .intro l hl;obtain⟨Ll,ab⟩:=i.rd l hl;exact j.lp l Ll ab
    .rename_i f3 ay az aA aB aF e0 y
     obtain⟨_,hB,L3,J,aG,Y,Z,e3,e4,e5,e6⟩:=i.ok.obj D _ (E y);have A:=V.2.2 _ _ _ _ _ _ _ _ (E y);have A:d.w.heap.size=(c3.mu D).blk:=by simpa using A
     refine⟨_,_,(by rw[A];exact run_endLoop J (by rw[e4];decide)), ?_⟩;rw[e5];cases he0:e0.code with
     |none=>exact absurd he0 e6
     |some cd=>
      obtain⟨c4,p1,p2,j,p4,p5,p6⟩:=I5 i.ok (E y) J {L3 with state:=.exhausted,pending:=a6 cd} (o':=.dead) (.inl rfl);simp only;refine aqi he0 ?_;rw[<-p5];refine hQ e0 c4 _ _ B ⟨by rw[p1,i.hp],by rw[p2,i.nxt],p4,bK.le j _ _ i.fr,Dh.le j _ _ I, ?_, ?_⟩ ((ae.trans ag).trans j.mono)
      .obtain⟨X,w1,w2,w3⟩:=i.df
       grind
      .intro l hl;obtain⟨Ll,ab⟩:=i.rd l hl;exact j.lp l Ll ab
    .cases B
   .cases B)
 refine⟨d.w.heap.size,s,d.w.alloc (.loop L),{target:=.fn (.func g) O,args:= #[.func (.yield d.w.heap.size) #[] #[]]},d.w.alloc (.loop L),g,#[.func (.yield d.w.heap.size) #[] #[]]++O,d.w.alloc (.loop L),q7, ?_,fun _ _=>trivial, ?_,oK rd, ?_⟩
 .have aH:a.eval (.const (.func (.yield d.w.heap.size) #[] #[]))=.func (.yield d.w.heap.size) #[] #[]:=rfl;simp only[resolve,N];simp[go_sem,aH]
 .simp_all [invoke]
 simp_all [sS]
def Yc {R:Type} (E:Env) (e:mO R) (g:Ye) (f:FuncId) (c:Code) (L:dE):Prop:=
 ∀(r:R) (st:St) (v:L.V) (K:Ex->St->Option R),(∀i j d,LC i j st=a6 d->WfH d.hp)->L.get st=a6 v->
  (bJ (L.spec v) fun o=>dW o (fun a=>K (L.exA v) (L.stA st v a)) fun b=>K (L.exB v) (L.stB st v b))=a6 r->
  ∃m d,(match E.kp f (dH c)with|none=>d=st|some k=>LC k.slots k.owns st=a6 d)/\iter (E.kp f (dH c)) (run E e g f c) m d K=a6 r
def af2 {R:Type} (E:Env) (e:mO R) (g:Ye) (f:FuncId) (c:Code) (L:dE):Prop:=
 ∀(r:R) (st:St) (v:L.V) (K:Ex->St->Option R),(∀i j d,LC i j st=a6 d->WfH d.hp)->L.get st=a6 v->
  (bJ (L.spec v) fun o=>dW o (fun a=>K (L.exA v) (L.stA st v a)) fun b=>K (L.exB v) (L.stB st v b))=a6 r->
  ∃m d,(match E.kp f (800000+dH c)with|none=>d=st|some k=>LC k.slots k.owns st=a6 d)/\iter (E.kp f (800000+dH c)) (Bg (run E e g f c)) m d K=a6 r
def jv {R:Type} (E:Env) (d:mO R) (e:Ye) (f:FuncId):Code->Prop
 |.seq a b=>(jv E d e f a/\ ∀L,E.lp f (800000+dH b)=a6 L->L.dep.ble E.dp=true->af2 E d e f b L)/\jv E d e f b
 |.cond _ a b=>jv E d e f a/\jv E d e f b
 |.block _ c=>jv E d e f c
 |.scope c=>jv E d e f c
 |.loop c=>jv E d e f c/\ ∀L,E.lp f (dH c)=a6 L->L.dep.ble E.dp=true->Yc E d e f c L
 |.rangeFunc _ _ asg g=>jv E d e f asg/\jv E d e f g/\(E.rf f (dH g)=true->qK f (dH g)=a6 (asg,g))
 |_=>True
theorem iP {E:Env} {d:mO R} {e:Ye} {f:FuncId} (h: ∀id,E.lp f id=a7) (h2: ∀id,E.rf f id=false): ∀c:Code,jv E d e f c
 |.seq a b=>⟨⟨iP h h2 a,fun L g=>by simp_all⟩,iP h h2 b⟩
 |.cond _ a b=>⟨iP h h2 a,iP h h2 b⟩
 |.block _ c=>iP (E:=E) h h2 c
 |.scope c=>iP (E:=E) h h2 c
 |.loop c=>⟨iP h h2 c,fun L g=>by simp_all⟩
 |.rangeFunc _ _ a b=>⟨iP h h2 a,iP h h2 b,fun i=>by simp_all⟩
 |.skip|.label _|.region _ _ _|.exit _|.goto _|.ret|.refuse _=>trivial
def Wx (E:Env) (n:Nat):Ye:=⟨fun j st=>kH E n (R:=bU) j st fun v _=>a6 v,kH E n,kH E n⟩
def dV (E:Env) (f:FuncId) (c:Code) (L:dE):Prop:=
 ∀(R:Type) (m:Nat),Yc (R:=R) (E.at (m+L.dep)) (kH E (m+L.dep)) (Wx E (m+L.dep)) f c L
def sH (E:Env) (f:FuncId) (c:Code) (L:dE):Prop:=
 ∀(R:Type) (m:Nat),af2 (R:=R) (E.at (m+L.dep)) (kH E (m+L.dep)) (Wx E (m+L.dep)) f c L
def dO (E:Env) (f:FuncId) (c:Code):Prop:= ∀(R:Type) (m:Nat),jv (R:=R) (E.at m) (kH E m) (Wx E m) f c
theorem iZ {E:Env} {f:FuncId} (h: ∀id,E.lp f id=a7) (h2: ∀id,E.rf f id=false) (c:Code):dO E f c:=fun R m=>iP (E:=E.at m) h h2 c
theorem NC (hT:TOk P T) (hm:P.follows .mixedOrders=true) {n:Nat} {E:Env} (aw:E.T=T) {f:FuncId} {X:mO R} {O:Ye} (ag:lV P W0 n (vY E X)) (hq:mV (R:=R) P (RD E O.q)) (ax:uA P W0 X) (hS:lV P W0 n (vY E O.s)) (hU:lV P W0 n (vY E O.u)) (ay: ∀R:Type,mV (R:=R) P (GX E.sg E.cl)):
  ∀(code:Code),jv E X O f code-> ∀(K:Ex->St->Option R) (Q:Exit->Act->World->Prop) (c:Cx) (st:St) (a:Act),run E X O f code st K=a6 r->iM W0 b0 rd c st a ats->b0<=c.w.heap.size->
   (∀e c' o p,K e o=a6 r->iM W0 b0 rd c' o p ats->c.Mono c'->Q e.xt p c'.w)->code.wpIn (FW rd) n P Q a c.w:=by
 subst aw;intro code
 induction code with
 |skip=>intro _ K Q c st a h hr A j;exact wpIn_skip (j .normal c st a h hr (Cx.Mono.refl c))
 |label l=>intro _ K Q c st a h hr A j;exact wpIn_label (j .normal c st a h hr (Cx.Mono.refl c))
 |region id ops az=>
  intro _ K Q c st a h hr A j;simp only[run]at h;have ah: ∃I,Gf (E.kp f (600000+id)) st={st with fr:=I}/\bK c I a.tmps.toList:=by
   cases E.kp f (600000+id)with
   |none=>exact⟨st.fr,rfl,hr.fr⟩
   |some k=>exact⟨_,rfl,zU _ _ _ hr.fr⟩
  obtain⟨I,e1,e2⟩:=ah;rw[e1]at h;replace hr:iM W0 b0 rd c {st with fr:=I} a ats:=⟨hr.hp,hr.nxt,hr.ok,e2,hr.stk,hr.df,hr.rd⟩;generalize ({st with fr:=I}:St)=st at h hr;cases az with
  |true=>
   simp only[aa]at h;rw[cond_eq_ite]at h;split at h
   .rename_i ab
    simp only[af]at ab;exact Og hT hm hq ab.1 h hr fun c' o p d=>j .normal c' o p d
   .split at h
    .rename_i l aA
     exact VM hT hm ag aA h hr fun c' o p d=>j .normal c' o p d
    .rw[cond_eq_ite]at h;split at h
     .rename_i ab
      simp only[af]at ab;exact Og hT hm hq ab.1 h hr fun c' o p d=>j .normal c' o p d
     replace h:=dG h;exact ahj hT hm h.1 ay hS hU Yp Yp ag Yp h.2 hr fun c' o p d=>j .normal c' o p d
  |false=>
   simp only[ac]at h;exact wpIn_region_list (Na hT ag ops ops.toList c st a h hr fun c' o p d=>j .normal c' o p d)
 |seq x y ihx S=>
  intro hl K Q c st a h hr A j;replace ihx:=ihx hl.1.1;replace S:=S hl.2;simp only[run]at h;refine wpIn_seq (ihx _ _ c st a h hr A fun e c' o p d z B=> ?_);cases e with
  |normal=>
   have ae:=aI A B.size;have au: ∀e U Y Z,K e Y=a6 r->iM W0 b0 rd U Y Z ats->c'.Mono U->Q e.xt Z U.w:=fun e U Y Z ai aj ak=>j e U Y Z ai aj (B.trans ak);have al: ∀(J:Option eQ) (m:Nat) (D:St),(match J with|none=>D=o|some k=>LC k.slots k.owns o=a6 D)->iter J (Bg (run E X O f y)) m D (um 999999 K)=a6 r->y.wpIn (FW rd) n P Q p c'.w:=by
    intro J m D M h2;cases J with
    |none=>grind [Wn]
    |some k=>
     obtain⟨c1,V,ad,an⟩:=oV z M;rw[<-an];exact Wn S m h2 V (aI ae ad.size) fun e U Y Z ai aj ak=>au e U Y Z ai aj (ad.trans ak)
   simp only[aJA,cutAt]at d;split at d
   .rename_i L hL
    replace d:=dG d;obtain⟨ao,d⟩:=d;split at d
    .rename_i v N
     obtain⟨m,D,M,h2⟩:=hl.1.2 L hL ao r o v (um 999999 K) (fun aB aF D ht=>let⟨c1,V,_,_⟩:=oV z ht;V.wf) N d;exact al _ m D M h2
    .cases d
   .split at d
    .exact S _ _ c' o p d z ae au
    .rename_i k hk
     split at d
     .rename_i D M
      exact al (a6 k) bQ D M d
     .cases d
  |exit id=>exact j (.exit id) c' o p d z B
  |goto l=>exact j (.goto l) c' o p d z B
  |ret=>exact j .ret c' o p d z B
 |cond cnd x y ihx S=>
  intro hl K Q c st a h hr A j;replace ihx:=ihx hl.1;replace S:=S hl.2;simp only[run]at h;have N:=dU hr.fr cnd;split at h
  .rename_i b ae
   rw[ae]at N;simp only[bW]at N;have N:=N.bool_inv
   grind [wpIn_cond_true,wpIn_cond_false]
  .cases h
 |block id x G=>
  intro hl K Q c st a h hr A j;replace G:=G hl;simp only[run]at h;refine wpIn_block (G _ _ c st a h hr A fun e c' o p d z B=> ?_);cases e with
  |normal=>exact j .normal c' o p d z B
  |exit i=>
   simp only[um]at d;simp only[Ex.xt,Exit.inBlock];rw[cond_eq_ite]at d;split at d
   .rename_i W
    have W:i=id:=by simpa using W
    rw[am W];exact j .normal c' o p d z B
   .rename_i W
    have W:i≠id:=by simpa using W
    rw[aq W];exact j (.exit i) c' o p d z B
  |goto l=>exact j (.goto l) c' o p d z B
  |ret=>exact j .ret c' o p d z B
 |loop x G=>
  intro hl K Q c st a h hr A j;replace G:=G hl.1;have al: ∀(J:Option eQ) (m:Nat) (D:St),(match J with|none=>D=st|some k=>LC k.slots k.owns st=a6 D)->iter J (run E X O f x) m D K=a6 r->(Code.loop x).wpIn (FW rd) n P Q a c.w:=by
   intro J m D M h2;cases J with
   |none=>grind [S9]
   |some k=>
    obtain⟨c1,V,ad,an⟩:=oV hr M;rw[<-an];exact S9 G m h2 V (aI A ad.size) fun e c' o p d z B=>j e c' o p d z (ad.trans B)
  simp only[run]at h;split at h
  .rename_i L hL
   replace h:=dG h;obtain⟨ao,h⟩:=h;split at h
   .rename_i v N
    obtain⟨m,D,M,h2⟩:=hl.2 L hL ao r st v K (fun aB aF D ht=>let⟨c1,V,_,_⟩:=oV hr ht;V.wf) N h
    grind
   .cases h
  grind
 |exit id=>intro _ K Q c st a h hr A j;exact wpIn_exit (j (.exit id) c st a h hr (Cx.Mono.refl c))
 |goto l=>intro _ K Q c st a h hr A j;exact wpIn_goto (j (.goto l) c st a h hr (Cx.Mono.refl c))
 |ret=>intro _ K Q c st a h hr A j;exact wpIn_ret (j .ret c st a h hr (Cx.Mono.refl c))
 |scope x G=>
  intro hl K Q c st a h hr A j;replace G:=G hl;simp only[run]at h;refine aiN (G _ _ c st a h hr A fun e c' o p d z B=> ?_);cases e with
  |normal=>exact⟨(fun l e=>by cases e),j .normal c' o p d z B⟩
  |exit i=>exact⟨(fun l e=>by cases e),j (.exit i) c' o p d z B⟩
  |goto l=>simp[auu]at d
  |ret=>exact⟨(fun l e=>by cases e),j .ret c' o p d z B⟩
 |rangeFunc fv ps asg bd _ _=>
  intro hl K Q c st a h hr A j;simp only[run]at h;split at h
  .rename_i g aJ aG
   have aH: ∀k,(bif E.rf f (dH bd)then a6 (dH bd)else a7)=a6 k->qK f k=a6 (asg,bd):=fun k hk=>by
    cases hrf:E.rf f (dH bd)with
    |false=>simp_all
    |true=>rw[hrf]at hk;cases hk;exact hl.2.2 hrf
   have ah: ∃I,Gf (E.kp f (500000+dH bd)) st={st with fr:=I}/\bK c I a.tmps.toList:=by
    cases E.kp f (500000+dH bd)with
    |none=>exact⟨st.fr,rfl,hr.fr⟩
    |some k=>exact⟨_,rfl,zU _ _ _ hr.fr⟩
   obtain⟨I,e1,e2⟩:=ah;rw[e1]at h;have av:=dU hr.fr fv;rw[aG]at av;exact afa (st:={st with fr:=I}) ax av aH h ⟨hr.hp,hr.nxt,hr.ok,e2,hr.stk,hr.df,hr.rd⟩ A j
  .cases h
 |refuse s=>simp_all [run]
end
end
section
open Option renaming some → a6, none → a7
open Nat renaming le_refl → ae
open Go.RowKit
section
variable {P:Program} {T:TT} {W0:World} {b0:Nat} {rd:Option Nat} {R:Type} {r:R} {c:Cx} {ats:List (Array Value)}
theorem ab6 (i:c.Ok W0) {x:bU} {e:Ty} {j:List e.den} {u:Value} (h:x.as c.hp (.list e)=a6 j) (hx:bW c x u) {a:Option Addr} {m cp:Nat} (o:u=.slice a m cp):m<=cp:=by
 subst o;cases x with
 |val f z=>
  simp only[bU.as]at h;have e:=iq h;subst e
  grind [bW,nG]
 |nils=>
  simp_all [bW]
 |lst f z b=>
  grind [bW,nG]
 |emp=>
  simp_all [bW]
 |slc id ver q=>
  simp only[bU.as,Bf]at h;split at h
  .rename_i f v xs g
   replace h:=dG h;obtain⟨d,h⟩:=h;have d:v=ver:=by simpa using d
   subst d;simp only[bW]at hx;have y:=(hx.2.2 _ _ _ g).2 rfl;obtain⟨_,A,B,s,D,E⟩:=i.obj id _ g;obtain⟨G,I,d,J,K⟩:=qE s;cases q with
   |none=>
    simp_all [ja]
   |some p=>
    grind [ja]
  .cases h
 |agg l=>simp[bU.as,Ty.isAgg]at h
 |_=>simp[bU.as]at h
def aqy (c cb:Cx):Prop:= ∀b,b<c.w.heap.size->cb.free b/\cb.w.heap[b]? =c.w.heap[b]?
theorem FN (f:c.Ok W0) {cb:Cx} (d:aqy c cb) {x:bU} {e:Ty} {g:List e.den} {u:Value} (h:x.as c.hp (.list e)=a6 g) (hx:bW c x u):VD cb (.list e) g u:=by
 obtain⟨a,cp,l,i,o,p⟩:=ab7 f h hx;have q:=ab6 f h hx i;refine(VD.leaf rfl).2 ⟨a,cp,l,by rw[i],q,fQ.mono (eY.mono (fun b s=>d b s.1) e) _ _ o,p.imp id fun⟨b,v,y,j,z⟩=>⟨b,v,y,(d b j).1,z.of_block (d b j).2⟩⟩
theorem am1 (j:c.Ok W0) {cb:Cx} (f:aqy c cb) {v i:bU} {u:Value} (h:V7 c.hp v=a6 i) (d:bW c v u):bW cb i u:=by
 cases v with
 |val t x=>
  simp only[V7,Option.some.injEq]at h;subst h;simp only[bW]at d ⊢;exact⟨fun e=>let⟨cs,l,o⟩:=d.1 e;⟨cs,l,eY.mono (fun b g=>f b g.1) t x _ o⟩,fun e=>eY.mono (fun b g=>f b g.1) t x _ (d.2 e)⟩
 |nils=>
  grind [V7,bW]
 |slc id ver p=>
  simp only[V7]at h;split at h
  .rename_i t w xs q
   rw[cond_eq_ite]at h;split at h
   .rename_i s
    cases h;simp only[bW];refine FN j f (x:=.slc id ver p) ?_ d;simp_all [bU.as,Bf,gp]
   .cases h
  .cases h
 |_=>simp[V7]at h
theorem Q7 (f:c.Ok W0) {cb:Cx} (g:aqy c cb): ∀(l e:List bU) (us:List Value),Q5 c.hp l=a6 e->bK c l us->bK cb e us
 |[],e,[],h,_=>by simp_all [Q5,bK]
 |v::l,e,u::us,h,d=>by
  simp only[Q5]at h;split at h
  .rename_i p i
   split at h
   .rename_i j o
    cases h;simp only[bK]at d ⊢;exact⟨am1 f g i d.1,Q7 f g l j us o d.2⟩
   .cases h
  .cases h
 |[],_,_::_,_,d=>by simp[bK]at d
 |_::_,_,[],_,d=>by simp[bK]at d
def Cx.base (c:Cx) (w:World) (d:Nat->Prop):Cx:=⟨c.mu,[],c.nxt,w,[],d⟩
theorem ayy {w:World} {d:Nat->Prop} (e:Yd w) (hb: ∀b,d b->b<w.heap.size):(c.base w d).Ok w:=
 ⟨Below.refl _ _,fun id o h=>by simp[Cx.base,dQ]at h,fun i j o p b h=>by simp[Cx.base,dQ]at h,fun r hr=>by simp[Cx.base]at hr,fun b h=>⟨hb b h,(by rintro ⟨i,o,h,_⟩;simp[Cx.base,dQ]at h),by simp[Cx.base]⟩,e⟩
theorem am4 {w:World} {d:Nat->Prop} {b:Nat}:(c.base w d).free b↔b<w.heap.size/\ ¬d b:=by
 constructor
 .intro h;exact⟨h.1,h.2.2.2⟩
 .rintro ⟨e,f⟩;exact⟨e,(by rintro ⟨i,o,h,_⟩;simp[Cx.base,dQ]at h),by simp[Cx.base],f⟩
theorem aqG {w:World} {d:Nat->Prop} (e:Yd w) (hb: ∀b,d b->b<w.heap.size) {nx:Nat} (f:nx=c.nxt):iM w 0 a7 (c.base w d) ⟨[],[],[],nx⟩ ⟨#[],[]⟩ []:=
 ⟨rfl,f.symm,ayy e hb,by simp[bK],trivial,⟨[],rfl,List.nodup_nil,fun r hr=>by simp at hr⟩,fun l hl=>by cases hl⟩
theorem ORel.le0 {B:Nat} {c c':Cx} {id:Nat} {o:dM} (h:c.ORel B id o) (hl:c.Le0 c') (d:c'.mu id=c.mu id) (hb: ∀b,o.blk (c.mu id)=a6 b->c'.w.heap[b]? =c.w.heap[b]?):c'.ORel B id o:=by
 cases o with
 |box e cs=>
  obtain⟨g,s,i,j,l⟩:=h;refine⟨by rw[d];exact g,s,by rw[d,hb _ rfl];exact i,bK.le0 hl _ _ j,l⟩
 |arr t ver xs=>
  obtain⟨q,e,u,g,i,j⟩:=h;refine⟨q,e,u, ?_,fQ.mono (eY.mono hl.free t) _ _ i,j⟩;rw[d];exact Ag g fun b v=>hb b v
 |lp f fr ps asg bd ky n p=>
  obtain⟨q,g,L,i,j,l⟩:=h;exact⟨q,by rw[d];exact g,L,by rw[d,hb _ rfl];exact i,bK.le0 hl _ _ j,l⟩
 |dead=>trivial
 |mp kk vk y=>
  obtain⟨g,x,cl,i,j⟩:=h;exact⟨by rw[d];exact g,x,cl,by rw[d,hb _ rfl];exact i,j⟩
theorem Cx.Le0.trans {a b c:Cx} (h:a.Le0 b) (k:b.Le0 c):a.Le0 c:=
 ⟨fun x e=>⟨(k.out x (h.out x e).1).1,(k.out x (h.out x e).1).2.trans (h.out x e).2⟩,fun i d=>k.ref i (h.ref i d),fun i o d f=>by
  obtain⟨g,j,l⟩:=k.obj i o (h.ref i d) f;obtain⟨p,q,s⟩:=h.obj i g d j
  grind [dM.like_trans],k.bar.trans h.bar⟩
theorem Va {n:Nat} {fn:Func} {tmps:Array Value} {Rr:Ending->World->Prop}: ∀(l:List Nat) (c:Cx),c.Ok W0->l.Nodup->(∀r∈l,r∈c.mks)->
  ∃c',c'.hp=c.hp/\c'.nxt=c.nxt/\c.Le0 c'/\c'.Ok W0/\(∀r∈c.mks,r∉l->r∈c'.mks)/\(∀(b:Nat) (L:Loop),c.w.heap[b]? =a6 (Obj.loop L)-> ∃A:Loop,c'.w.heap[b]? =a6 (Obj.loop A))/\c.w.heap.size<=c'.w.heap.size/\c'.bar=c.bar/\
   (LeavesIn (FW a7) n P fn tmps Rr [] .returning c'.w->LeavesInM (FW a7) n P fn tmps Rr (l.map mkD) .returning c.w)
 |[],c,f,_,_=>⟨c,rfl,rfl,(Cx.Le.refl c).le0,f,fun r hr _=>hr,fun b L x=>⟨L,x⟩,ae _,rfl,fun h=>h⟩
 |d::l,c,f,B,y=>by
  obtain⟨V,D⟩:=List.nodup_cons.1 B;have hd:=y d (by simp);have u:=f.mks d hd;have W:=f.mark_lt hd
  let i:Cx:={c with w:=c.w.putObj d (.deferred a7),mks:=c.mks.filter fun r=>r !=d}
  have p: ∀b,b≠d->i.w.heap[b]? =c.w.heap[b]? :=fun b g=>World.putObj_heap_other g;have v:c.Le0 i:=⟨fun b g=>⟨⟨by simpa [i] using g.1,g.2.1,(fun E=>g.2.2 (List.mem_filter.1 E).1)⟩,p b fun e=>g.2.2 (e▸hd)⟩,fun _ h=>h,fun id o _ q=>⟨o,q,o.like_refl _⟩,rfl⟩;have G:i.Ok W0:=by
   refine⟨⟨f.bel.os,f.bel.tape,f.bel.output,by simpa [i] using f.bel.size,fun j I=>(p j (by have:=u.1;omega)).trans (f.bel.block j I)⟩,fun id o q=>ORel.le0 (f.obj id o q) v rfl fun b g=>p b fun e=> ?_,f.inj,fun r hr=> ?_,fun b g=>(v.out b (f.bar b g)).1,f.phi⟩
   .subst e;exact(f.obj id o q).no_mark g u.2
   .obtain⟨z,s⟩:=List.mem_filter.1 hr;have s:r≠d:=by simpa using s
    exact⟨(f.mks r z).1,(p r s).trans (f.mks r z).2⟩
  obtain⟨J,K,M,N,O,X,Y,Z,S,U⟩:=Va (n:=n) (fn:=fn) (tmps:=tmps) (Rr:=Rr) l i G D fun r hr=>List.mem_filter.2 ⟨y r (by simp[hr]),by
   grind⟩
  refine⟨J,K,M,v.trans N,O,fun r hr s=> ?_,fun b L x=> ?_, ?_,S,fun h=> ?_⟩
  .grind
  .grind
  .have:c.w.heap.size=i.w.heap.size:=by simp[i]
   omega
  .exact⟨by simp,.inl ⟨d,_,rfl,run_takeDeferred u.2,U h⟩⟩
theorem auC {t:TypeId} {v u:Value} {w w':World} (h:(Instr.loadAt t v).run P w=.ok u w'):(do loadVar t (<-asAddr v):Sem Value).run P w=.ok u w':=by
 unfold Instr.loadAt at h;cases v<;>try (simp[Instr.sureAddr,stuck,Sem.run_bind,Result.andThen]at h;done)
 rename_i p
 cases p<;>first|exact h|simp_all [Instr.sureAddr]
def Nv (tmps:Array Value):ResultVar->Sem Value
 |.tmp t=>pure (tmps.getD t undef)
 |.cell a t=>do loadVar t (<-asAddr (tmps.getD a undef))
theorem zq (hT:TOk P T) (e:c.Ok W0) {st:St} {tmps:Array Value} (f:c.hp=st.hp) (d:bK c st.fr tmps.toList): ∀(l:List ResultVar) (K:List bU->Option R),rq T st l K=a6 r->
  ∃vs us,K vs=a6 r/\bK c vs us/\(l.mapM (Nv tmps)).run P c.w=.ok us c.w
 |[],K,h=>⟨[],[],h,by simp[bK],rfl⟩
 |.tmp t::l,K,h=>by
  simp only[rq]at h;obtain⟨vs,us,g,i,j⟩:=zq hT e f d l _ h;refine⟨_,tmps.getD t undef::us,g,by simp only[bK];exact⟨d.getD t,i⟩, ?_⟩;simp_all [Nv]
 |.cell a t::l,K,h=>by
  simp only[rq]at h;rw[<-f]at h;obtain⟨z,u,g,i,j⟩:=avK hT e h (d.getD a);obtain⟨vs,us,o,p,q⟩:=zq hT e f d l _ g;refine⟨_,u::us,o,by simp_all [bK], ?_⟩;have s:=auC (j c.w (Below.refl _ _))
  grind [Sem.run_bind,Nv,Result.andThen_ok,Sem.run_pure]
def IW:List Value->Value
 |[v]=>v
 |vs=>.tuple vs.toArray
theorem Ak {vs:List bU} {us:List Value} (h:bK c vs us):bW c (Nu vs) (IW us):=by
 match vs,us,h with
 |[],[],h=>simp only[Nu,IW,bW];simp_all
 |[v],[u],h=>simpa [Nu,IW,bK] using h
 |v::d::vs,u::e::us,h=>simp only[Nu,IW,bW];simp_all
 |[],_::_,h=>simp[bK]at h
 |_::_,[],h=>simp[bK]at h
 |[_],_::_::_,h=>simp[bK]at h
 |_::_::_,[_],h=>simp[bK]at h
theorem afh {fn:Func} {tmps:Array Value} {us:List Value} {w:World} (h:(fn.results.toList.mapM (Nv tmps)).run P w=.ok us w):(results fn tmps).run P w=.ok (IW us) w:=by
 have e:results fn tmps=(do let d<-fn.results.mapM (Nv tmps);pure (if h:d.size=1 then d[0]else .tuple d)):=rfl;have f:(fn.results.mapM (Nv tmps)).run P w=.ok us.toArray w:=by
  simp_all [Array.mapM_eq_mapM_toList]
 rw[e,Sem.run_bind,f]
 match us with
 |[]=>rfl
 |[v]=>rfl
 |v::g::d=>rfl
end
end
section
open Option renaming some → a6, none → a7
open Bool renaming and_eq_true → af, not_eq_true' → aY
open List renaming mem_of_mem_take → bu
open Nat renaming le_refl → ae, eq_of_beq_eq_true → ah, lt_of_lt_of_le → aZ
open Go.RowKit
def Jj (P:Program):Prop:= ∀(f:FuncId) (fn:Func) (c:Code),P.funcs[f]? =a6 fn->fn.body=a6 c->(fn.name== "runtime.NumGoroutine")=false
def Dz {R:Type} (P:Program) (W0:World) (s:mO R):Prop:=
 ∀(id:Nat) (i:List bU) (st:St) (K:bU->St->Option R) (r:R),s (.yield id i) st K=a6 r->
  ∀(b0:Nat) (rd:Option Nat) (c:Cx) (a:Act) (ats:List (Array Value)) (j:Array Value),iM W0 b0 rd c st a ats->bK c i j.toList->
   (∃f v x asg d y k p,dQ st.hp id=a6 (.lp f v x asg d y k p))/\
   ∀l:Ending->World->Prop,(∀e z u o,K z o=a6 r->iM W0 b0 rd e o a ats->bW e z u->c.Mono e->l (.returned u) e.w)->
    ∀n,∃g q asg d,(Instr.yield (c.mu id).blk j).run P c.w=.ok (.round (c.mu id).blk g q asg d) c.w/\RoundIn (FW rd) n P (c.mu id).blk g q asg d c.w l
def EX {R:Type} (g:FuncId) (s:Sum) (cl:Bool):gI R:=fun d e f st K=>match d with
 |.fn g' i=>if g'=g then s.call cl (e++i) f st K else a7
 |_=>a7
def aqp (P:Program) (g:FuncId):Prop:= ∀(w:World) (b:Nat),w.shape? b=a6 (Wh,2)->w.frozen? ⟨b,0,a7⟩=false->
 (callFunc g #[.pointer (a6 ⟨b,0,a7⟩)]).run P w=.ok (.enter g #[.pointer (a6 ⟨b,0,a7⟩)]) w/\
 (w.cell? ⟨b,0,a7⟩=a6 (.pointer (a6 ⟨b,0,a7⟩))->Calls P g #[.pointer (a6 ⟨b,0,a7⟩)] w fun e d=>e=.returned (.tuple #[])/\d=w)/\
 (w.cell? ⟨b,0,a7⟩=a6 (.pointer a7)->Calls P g #[.pointer (a6 ⟨b,0,a7⟩)] w fun e d=>e=.returned (.tuple #[])/\d=w.setCell ⟨b,0,a7⟩ (.pointer (a6 ⟨b,0,a7⟩)))
def QV (P:Program) (em:TypeId->Nat->Nat->Bool) (g:FuncId):Prop:= ∀(w:World) (b t o n:Nat) (d:Array Value),em t o n=true->w.heap[b]? =a6 (.cells d t (0,0))->d.size=n->o<n/\
 (callFunc g #[.pointer (a6 ⟨b,o,a7⟩)]).run P w=.ok (.enter g #[.pointer (a6 ⟨b,o,a7⟩)]) w/\
 (w.cell? ⟨b,o,a7⟩=a6 (.pointer (a6 ⟨b,o,a7⟩))->Calls P g #[.pointer (a6 ⟨b,o,a7⟩)] w fun e f=>e=.returned (.tuple #[])/\f=w)/\
 (w.cell? ⟨b,o,a7⟩=a6 (.pointer a7)->Calls P g #[.pointer (a6 ⟨b,o,a7⟩)] w fun e f=>e=.returned (.tuple #[])/\f=w.setRow b (d.toList.take o++[Value.pointer (a6 ⟨b,o,a7⟩)]++d.toList.drop (o+1)).toArray)
def xx (P:Program) (em:TypeId->Nat->Nat->Bool) (g:FuncId):Prop:=aqp P g/\QV P em g
def Ji (P:Program) (g:FuncId):Prop:= ∀(w:World) (B:Nat) (s:TypeId) (v:Value) (n i d f:Nat) (l:List Value) (o p:Value) (u:TypeId) (x:List Value),Yd w->B<=w.heap.size->w.ownsRow B s 2 v n l->n<=2199023255552->i<=n->(∀z∈l,z.oneCell'=true)->v.oneCell'=true->o.oneCell'=true->p.oneCell'=true->
 w.heap[d]? =a6 (.cells (o::p::x).toArray u (0,0))->v.ownBlock≠a6 d->1<=f->f<=maxLen->
 (callFunc g #[v,.int .i64 (i:Int),.slice (a6 ⟨d,0,a7⟩) 1 f]).run P w=.ok (.enter g #[v,.int .i64 (i:Int),.slice (a6 ⟨d,0,a7⟩) 1 f]) w/\
 Calls P g #[v,.int .i64 (i:Int),.slice (a6 ⟨d,0,a7⟩) 1 f] w fun e q=> ∃j y,e=.returned j/\q.ownsRow B y 2 j (n+1) (l.take (i*2)++[o,p]++l.drop (i*2))/\w.grownBy q v.ownBlock/\(j.ownBlock=v.ownBlock\/ ∃k,j.ownBlock=a6 k/\w.heap.size<=k)/\j.oneCell'=true
def Jl (P:Program) (g c:FuncId):Prop:= ∀(w:World) (B:Nat) (f:TypeId) (v:Value) (n:Nat) (d:List Value) (xs:List wZ.den),Yd w->B<=w.heap.size->w.ownsRow B f 4 v n d->n=xs.length->n<=2199023255552->ab8 xs=true->
 d=xs.flatMap (fun x=>[.int .i64 x.1,.int .i64 x.2.1,.int .i64 x.2.2.1,.bool x.2.2.2.1])->
 (callFunc g #[v,.func (.func c) #[] #[]]).run P w=.ok (.enter g #[v,.func (.func c) #[] #[]]) w/\
 Calls P g #[v,.func (.func c) #[] #[]] w fun e i=>e=.returned (.tuple #[])/\i.ownsRow B f 4 v n d/\w.grownBy i v.ownBlock
def NZ {R:Type} (g:FuncId) (s:fF) (cl:Bool):gI R:=fun d e i st K=>match d with
 |.fn g' f=>if g'=g then s.call cl (e++f) st K else a7
 |_=>a7
structure vW (P:Program) (E:Env):Prop where
 T:TOk P E.T
 x: ∀(R:Type) (W0:World) (n:Nat) (g:FuncId) (s:fF),E.sb g=a6 s->lV (R:=R) P W0 n (NZ g s E.cl)
 b: ∀g,(E.bf g=true->xx P E.em g)/\(E.il g=true->Ji P g)/\(E.sl g=true->Jl P g E.sc)
 v: ∀(R:Type) (W0:World) (n:Nat) (g:FuncId) (s:Sum),E.sg g=a6 s->lV (R:=R) P W0 n (EX g s E.cl)
 q: ∀(R:Type) (g:FuncId) (s:Sum),E.sg g=a6 s->(s.rs.all fun r=> !r.2&&r.1.rigid)=true->mV (R:=R) P (EX g s E.cl)
section
variable {P:Program} {T:TT} {W0:World} {b0:Nat} {rd:Option Nat} {R:Type} {r:R} {c:Cx} {ats:List (Array Value)}
theorem Bd (e:Jj P) {f:FuncId} {fn:Func} {d:Code} (hf:P.funcs[f]? =a6 fn) (hb:fn.body=a6 d) (args:Array Value) (w:World):(callFunc f args).run P w=.ok (.enter f args) w:=by
 have g:=e f fn d hf hb;simp_all [callFunc]
theorem nT {g:FuncId} {vs args:Array Value} {w:World}:(do let d<-Deferred.ofValue (.func (.func g) #[] vs) args;invoke d.target d.args:Sem Next).run P w=(callFunc g (args++vs)).run P w:=by
 grind [Deferred.ofValue,invoke]
theorem SX {g:FuncId} {vs args:Array Value} {w:World}:(do let d<-Deferred.ofValue (.func (.func g) vs #[]) args;invoke d.target d.args:Sem Next).run P w=(callFunc g (vs++args)).run P w:=by
 rfl
theorem Y4 {l:Nat} {args:Array Value} {w:World}:(do let d<-Deferred.ofValue (.func (.yield l) #[] #[]) args;invoke d.target d.args:Sem Next).run P w=(Instr.yield l args).run P w:=by
 grind [Deferred.ofValue,invoke]
theorem bK.append_arr {l m:List bU} {xs d:Array Value} (h:bK c l xs.toList) (k:bK c m d.toList):bK c (l++m) (xs++d).toList:=by
 simp_all [bK.append]
theorem MB: ∀(h:gQ) (i:Nat) (o:dM),dQ h i=a6 o->iU h i o=h
 |[],_,_,_=>rfl
 |(k,p)::h,i,o,d=>by
  rw[eG]at d;simp only[iU];by_cases e:k=i
  .simp_all
  .rw[aq e]at d;have f:(k==i)=false:=by simpa using e
   simp[f,MB h i o d]
theorem afT {c:Cx}: ∀(l:List bU) (xs:List Value),bK c l xs-> ∀(i:Nat) (hi:i<xs.length),bW c (l.getD i .undef) xs[i]
 |[],[],_,i,hi=>by simp at hi
 |v::l,x::xs,h,0,_=>h.1
 |v::l,x::xs,h,i+1,hi=>by
  have:=afT l xs h.2 i (by simpa using hi);simpa using this
 |[],_::_,h,_,_=>by cases h
 |_::_,[],h,_,_=>by cases h
theorem am6 {em:TypeId->Nat->Nat->Bool} {g:FuncId} (Y:QV P em g) {st:St} {K:bU->St->Option R} {id off:Nat} {t:TypeId} {cs:List bU} (Z:em t off cs.length=true) (j:dQ st.hp id=a6 (.box t cs))
  (h:(match cs.getD off .undef with
    |.nilp=>K (.tup []) {st with hp:=iU st.hp id (.box t (cs.take off++[.ptr id off]++cs.drop (off+1)))}
    |.ptr i o=>bif Nat.beq i id&&Nat.beq o off then K (.tup []) st else a7
    |_=>a7)=a6 r) {a:Act} (hr:iM W0 b0 rd c st a ats) {us:Array Value} (f:bK c [.ptr id off] us.toList)
  (Rr:Ending->World->Prop) (D: ∀c' z u E,K z E=a6 r->iM W0 b0 rd c' E a ats->bW c' z u->c.Mono c'->Rr (.returned u) c'.w):
  (callFunc g us).run P c.w=.ok (.enter g us) c.w/\Calls P g us c.w Rr:=by
 rw[<-hr.hp]at j;obtain⟨hB,d,hw,p,G⟩:=hr.ok.obj id _ j;have ab:cs.length=d.size:=by simpa using bK.length _ _ p
 obtain⟨us⟩:=us
 match us,f with
 |[u],f=>
  simp only[bK,bW,and_true]at f;have hu:=f.2.2 _ _ j;subst hu;have I:c.w.heap[(c.mu id).blk]? =a6 (.cells d t (0,0)):=hw;obtain⟨ho,h1,h2,h3⟩:=Y c.w (c.mu id).blk t off cs.length d Z I ab.symm;have J:off<d.size:=by omega
  have M:c.w.cell? ⟨(c.mu id).blk,off,a7⟩=a6 d[off]:=by simp[World.cell?,I,J]
  have l:bW c (cs.getD off .undef) d[off]:=by
   have:=afT _ _ p off (by simpa using J);simpa using this
  have N: ∀c',bW c' (.tup []) (.tuple #[]):=fun c'=>by simp only[bW];exact⟨#[],rfl,by simp[bK]⟩
  refine⟨h1, ?_⟩;split at h
  .rename_i q
   rw[q]at l;simp only[bW]at l;refine(h3 (by rw[M,l])).mono ?_;rintro e w' ⟨rfl,rfl⟩;have O:c.w.heap.size<=(c.w.setRow (c.mu id).blk (d.toList.take off++[Value.pointer (a6 ⟨(c.mu id).blk,off,a7⟩)]++d.toList.drop (off+1)).toArray).heap.size:=by simp
   have S:(dM.box t cs).like (c.mu id) (.box t (cs.take off++[.ptr id off]++cs.drop (off+1))) (c.mu id):=rfl;have U: ∀b,b<c.w.heap.size->(dM.box t cs).blk (c.mu id)≠a6 b->(c.w.setRow (c.mu id).blk (d.toList.take off++[Value.pointer (a6 ⟨(c.mu id).blk,off,a7⟩)]++d.toList.drop (off+1)).toArray).heap[b]? =c.w.heap[b]? :=
    fun b _ ad=>setRow_other _ _ _ _ (fun e=>ad (by simp[dM.blk,e]))
   have V: ∀b,(dM.box t (cs.take off++[.ptr id off]++cs.drop (off+1))).blk (c.mu id)=a6 b->(dM.box t cs).blk (c.mu id)=a6 b\/c.w.heap.size<=b:=fun b s=>.inl s;have W: ∀(b:Nat) (L:Loop),(dM.box t cs).blk (c.mu id)=a6 b->c.w.heap[b]? =a6 (Obj.loop L)-> ∃L':Loop,(c.w.setRow (c.mu id).blk (d.toList.take off++[Value.pointer (a6 ⟨(c.mu id).blk,off,a7⟩)]++d.toList.drop (off+1)).toArray).heap[b]? =a6 (Obj.loop L'):=fun b L s hL=>absurd hL ((hr.ok.obj id _ j).no_loop (by simp) s);have x:=Cx.Le.put (w:=c.w.setRow (c.mu id).blk (d.toList.take off++[Value.pointer (a6 ⟨(c.mu id).blk,off,a7⟩)]++d.toList.drop (off+1)).toArray) hr.ok j S O U V W;have ag:Below W0.heap.size W0 (c.w.setRow (c.mu id).blk (d.toList.take off++[Value.pointer (a6 ⟨(c.mu id).blk,off,a7⟩)]++d.toList.drop (off+1)).toArray):=
    hr.ok.bel.trans ⟨rfl,rfl,rfl,by simp,fun k hk=>setRow_other _ _ _ _ (by omega)⟩
   have hd:AU W0 c st (c.put id (.box t (cs.take off++[.ptr id off]++cs.drop (off+1))) (c.mu id) (c.w.setRow (c.mu id).blk (d.toList.take off++[Value.pointer (a6 ⟨(c.mu id).blk,off,a7⟩)]++d.toList.drop (off+1)).toArray)) {st with hp:=iU st.hp id (.box t (cs.take off++[.ptr id off]++cs.drop (off+1)))}:=by
    refine⟨by simp[Cx.put,hr.hp],hr.nxt,rfl,rfl,Cx.Ok.put hr.ok j S ag O U V W ?_,x⟩;refine⟨by simp only[Cx.put,upd_same];exact hB,(d.toList.take off++[Value.pointer (a6 ⟨(c.mu id).blk,off,a7⟩)]++d.toList.drop (off+1)).toArray, ?_, ?_, ?_⟩
    .simp only[Cx.put,upd_same]
     grind [setRow_heap]
    .have ai:bK (c.put id (.box t (cs.take off++[.ptr id off]++cs.drop (off+1))) (c.mu id) (c.w.setRow (c.mu id).blk (d.toList.take off++[Value.pointer (a6 ⟨(c.mu id).blk,off,a7⟩)]++d.toList.drop (off+1)).toArray)) [.ptr id off] [Value.pointer (a6 ⟨(c.mu id).blk,off,a7⟩)]:=by
      simp only[bK,bW,and_true];exact⟨rfl,.inl ⟨_,Cx.put_get j⟩,fun _ _ _=>by simp[Cx.put,upd_same]⟩
     have X:=bK.le x _ _ p;have y:=bK.take off _ _ X;have A:=bK.drop (off+1) _ _ X;have:=bK.append _ _ _ _ (bK.append _ _ _ _ y ai) A;simpa using this
    .intro v f;simp only[List.mem_append,List.mem_singleton]at f;rcases f with (f|f)|f
     .exact G v (bu f)
     .subst f;rfl
     .exact G v (List.mem_of_mem_drop f)
   exact D _ (.tup []) (.tuple #[]) _ h (hr.did hd) (N _) x.mono
  .rename_i i o q
   obtain⟨B,aj⟩:=dG h;clear h;rw[af]at B;have y:=ah B.1;have A:=ah B.2;subst y;subst A;rw[q]at l;simp only[bW]at l;have hp:=l.2.2 _ _ j;refine(h2 (by rw[M,hp])).mono ?_;rintro e w' ⟨rfl,rfl⟩;exact D c (.tup []) (.tuple #[]) st aj hr (N _) (Cx.Mono.refl c)
  .cases h
theorem ac9 {em:TypeId->Nat->Nat->Bool} {g:FuncId} (hT:TOk P T) (Z:xx P em g) {args:List bU} {st:St} {K:bU->St->Option R} (h:Ro em T args st K=a6 r) {a:Act} (hr:iM W0 b0 rd c st a ats) {us:Array Value} (s:bK c args us.toList)
  (Rr:Ending->World->Prop) (B: ∀c' z u J,K z J=a6 r->iM W0 b0 rd c' J a ats->bW c' z u->c.Mono c'->Rr (.returned u) c'.w):
  (callFunc g us).run P c.w=.ok (.enter g us) c.w/\Calls P g us c.w Rr:=by
 obtain⟨hg,ab⟩:=Z;unfold Ro at h;split at h<;>try (cases h;done)
 rename_i id ad
 split at h<;>try (cases h;done)
 case h_2 t cs _ d=>
  obtain⟨x,h⟩:=dG h;exact am6 ab x d h hr s Rr B
 rename_i t i j l o d
 replace h:=dG h;obtain⟨x,h⟩:=h;simp only[af]at x;obtain⟨D,E,hk,f⟩:=x;have D:ad=0:=ah D;subst D;have E:i=id:=ah E;subst E;have ht:=hT.bldr hk f;rw[<-hr.hp]at d;obtain⟨hB,G,M,v,aj⟩:=hr.ok.obj i _ d;obtain⟨us⟩:=us
 match us,s with
 |[u],s=>
  simp only[bK,bW,and_true]at s;have hu:=s.2.2 _ _ d;subst hu;obtain⟨G⟩:=G
  match G,v with
  |[p,q],v=>
   simp only[bK,and_true]at v;have y:=v.1;simp only[bW]at y;have y:=y.2.2 _ _ d;rw[ht]at M;have A:c.w.heap[(c.mu i).blk]? =a6 (.cells #[p,q] Wh (0,0)):=M;have N:c.w.cell? ⟨(c.mu i).blk,0,a7⟩=a6 p:=by simp[World.cell?,A]
   obtain⟨h1,h2,h3⟩:=hg c.w (c.mu i).blk (by simp[World.shape?,A]) (by simp[World.frozen?,A]);refine⟨h1, ?_⟩;have O: ∀c',bW c' (.tup []) (.tuple #[]):=fun c'=>by simp only[bW];exact⟨#[],rfl,by simp[bK]⟩
   rcases y with e|e
   .subst e;refine(h3 N).mono ?_;rintro e w' ⟨rfl,rfl⟩;have ak:(c.mu i).blk<c.w.heap.size:=(Array.getElem?_eq_some_iff.1 A).1;have al:(c.w.setCell ⟨(c.mu i).blk,0,a7⟩ (.pointer (a6 ⟨(c.mu i).blk,0,a7⟩))).heap[(c.mu i).blk]? =a6 (.cells #[.pointer (a6 ⟨(c.mu i).blk,0,a7⟩),q] Wh (0,0)):=by
     grind [World.setCell]
    have S: ∀b,(c.mu i).blk≠b->(c.w.setCell ⟨(c.mu i).blk,0,a7⟩ (.pointer (a6 ⟨(c.mu i).blk,0,a7⟩))).heap[b]? =c.w.heap[b]? :=fun b f=>by
     grind [World.setCell]
    have U:(c.w.setCell ⟨(c.mu i).blk,0,a7⟩ (.pointer (a6 ⟨(c.mu i).blk,0,a7⟩))).heap.size=c.w.heap.size:=by simp[World.setCell]
    have V: ∀(b:Nat) (L:Loop),(dM.box t [.slf i,.slc j l o]).blk (c.mu i)=a6 b->c.w.heap[b]? =a6 (Obj.loop L)-> ∃L':Loop,(c.w.setCell ⟨(c.mu i).blk,0,a7⟩ (.pointer (a6 ⟨(c.mu i).blk,0,a7⟩))).heap[b]? =a6 (Obj.loop L'):=fun b L f hL=>absurd hL ((hr.ok.obj i _ d).no_loop (by simp) f);have W: ∀b,b<c.w.heap.size->(dM.box t [.slf i,.slc j l o]).blk (c.mu i)≠a6 b->(c.w.setCell ⟨(c.mu i).blk,0,a7⟩ (.pointer (a6 ⟨(c.mu i).blk,0,a7⟩))).heap[b]? =c.w.heap[b]? :=fun b _ ag=>S b fun e=>ag (by simp[dM.blk,e]);have X: ∀b,(dM.box t [.slf i,.slc j l o]).blk (c.mu i)=a6 b->(dM.box t [.slf i,.slc j l o]).blk (c.mu i)=a6 b\/c.w.heap.size<=b:=fun b f=>.inl f;have ai:Below W0.heap.size W0 (c.w.setCell ⟨(c.mu i).blk,0,a7⟩ (.pointer (a6 ⟨(c.mu i).blk,0,a7⟩))):=
     ⟨hr.ok.bel.os,hr.ok.bel.tape,hr.ok.bel.output,by omega,fun b f=>(S b (by omega)).trans (hr.ok.bel.block b f)⟩
    have Y:=dM.like_refl (.box t [.slf i,.slc j l o]) (c.mu i);have I:=Cx.Le.put hr.ok d Y (Nat.le_of_eq U.symm) W X V;have hd:AU W0 c st (c.put i (.box t [.slf i,.slc j l o]) (c.mu i) (c.w.setCell ⟨(c.mu i).blk,0,a7⟩ (.pointer (a6 ⟨(c.mu i).blk,0,a7⟩)))) st:=by
     refine⟨by simp only[Cx.put];rw[MB _ _ _ d,hr.hp],hr.nxt,rfl,rfl,Cx.Ok.put hr.ok d Y ai (Nat.le_of_eq U.symm) W X V ?_,I⟩;refine⟨by simp only[Cx.put,upd_same];exact hB,#[.pointer (a6 ⟨(c.mu i).blk,0,a7⟩),q], ?_, ?_, ?_⟩
     .simp_all [Cx.put,upd_same]
     .simp only[bK,and_true];refine⟨?_,bW.le I _ _ v.2⟩;simp only[bW];exact⟨rfl,.inl ⟨_,Cx.put_get d⟩,fun _ _ _=>.inr (by simp[Cx.put,upd_same])⟩
     simp_all
    exact B _ (.tup []) (.tuple #[]) st h (hr.did hd) (O _) I.mono
   .subst e;refine(h2 N).mono ?_;rintro e w' ⟨rfl,rfl⟩;exact B c (.tup []) (.tuple #[]) st h hr (O _) (Cx.Mono.refl c)
theorem avR (i:c.Ok W0) {st:St} (A:c.hp=st.hp) (B:c.nxt=st.nxt) {e:Ty} (D:0<e.size) {id d:Nat} {xs:List e.den} (j:dQ c.hp id=a6 (.arr e d xs)) {f:Value} {w':World} {o:TypeId} {ws:List e.den} {p:List Value}
  (O:w'.ownsRow W0.heap.size o e.size f ws.length p) (q:fQ (eY c.w c.free e) e.size ws p) (l:c.w.grownBy w' (c.mu id).v.ownBlock) (E: ∀b,(c.mu id).v.ownBlock=a6 b->W0.heap.size<=b)
  (G:f.ownBlock=(c.mu id).v.ownBlock\/ ∃k,f.ownBlock=a6 k/\c.w.heap.size<=k) (I:f.oneCell'=true) (J:e=.int .u8->o=mP):
  ∃c',AU W0 c st c' {st with hp:=iU st.hp id (.arr e (d+1) ws)}/\c'.w=w'/\bW c' (.slc id (d+1) a7) f:=by
 have K:Below W0.heap.size W0 w':=i.bel.grown l i.size E;have s:(dM.arr e d xs).like (c.mu id) (.arr e (d+1) ws) ⟨0,f⟩:=⟨by omega,fun h=>by omega⟩;have u: ∀b,b<c.w.heap.size->(dM.arr e d xs).blk (c.mu id)≠a6 b->w'.heap[b]? =c.w.heap[b]? :=fun b g S=>l.block b g (by
  grind [dM.blk])
 have x: ∀b,(dM.arr e (d+1) ws).blk ⟨0,f⟩=a6 b->(dM.arr e d xs).blk (c.mu id)=a6 b\/c.w.heap.size<=b:=fun b g=>by
  simp only[dM.blk]at g ⊢;rcases G with h|⟨k,h,hk⟩
  .exact .inl (h▸g)
  .rw[h]at g;cases g;exact .inr hk
 have y: ∀(b:Nat) (L:Loop),(dM.arr e d xs).blk (c.mu id)=a6 b->c.w.heap[b]? =a6 (Obj.loop L)-> ∃M:Loop,w'.heap[b]? =a6 (Obj.loop M):=fun b L g q=>absurd q ((i.obj id _ j).no_loop (by simp) g);have z:=Cx.Le.put (w:=w') i j s l.size u x y;refine⟨c.put id (.arr e (d+1) ws) ⟨0,f⟩ w',⟨by simp[Cx.put,A],B,rfl,rfl,i.put j s K l.size u x y ?_,z⟩,rfl, ?_⟩
 .refine⟨D,o,p, ?_,fQ.mono (eY.mono z.free e) _ _ q,J⟩;simp_all [Cx.put,upd_same]
 .simp only[bW];refine⟨I,.inl ⟨_,Cx.put_get j⟩,fun U V W N=> ?_⟩;rw[Cx.put_get j]at N;simp_all [ja,Cx.put,upd_same]
theorem aot {v:bU} {i:Int} (h:aEk v=a6 i):v=.val (.int .i64) i:=by
 unfold aEk at h;split at h
 .injection h with h;rw[h]
 .cases h
theorem aos {g:FuncId} (hg:Ji P g) {args:List bU} {st:St} {K:bU->St->Option R} (h:Y3 args st K=a6 r) {a:Act} (hr:iM W0 b0 rd c st a ats) {us:Array Value} (D:bK c args us.toList)
  (Rr:Ending->World->Prop) (hR: ∀c' z u Z,K z Z=a6 r->iM W0 b0 rd c' Z a ats->bW c' z u->c.Mono c'->Rr (.returned u) c'.w):
  (callFunc g us).run P c.w=.ok (.enter g us) c.w/\Calls P g us c.w Rr:=by
 unfold Y3 at h;split at h<;>try (cases h;done)
 rename_i id aK iv E v2
 split at h<;>try (cases h;done)
 rename_i i L
 have L:=aot L;subst L;split at h<;>try (cases h;done)
 rename_i e v xs s
 split at h<;>try (cases h;done)
 rename_i e2 u ys j
 obtain⟨x,l⟩:=dG h;clear h;simp only[af,beq_iff_eq,aY]at x;obtain⟨⟨ak,al⟩,M⟩:=x;subst ak;subst al;split at l<;>try (cases l;done)
 rename_i aO A
 have f:=iq A;injection f with f
 subst f;rw[gp]at A;injection A with A
 subst A;split at l<;>try (cases l;done)
 rename_i aP B
 have f:=iq B;injection f with f
 subst f;rw[gp]at B;injection B with B
 subst B;obtain⟨x,h⟩:=dG l;clear l;simp only[af]at x;obtain⟨an,N,ab,ad⟩:=x;have N:0<=i:=by simpa [leI] using N
 have ab:i<=(xs.length:Int):=of_decide_eq_true ab;have ad:=qQ ad;have ao:ys.length=1:=ah an;have M:id≠E:=by
  intro e;subst e;simp at M
 obtain⟨n,rfl⟩:=Int.eq_ofNat_of_zero_le N;have au:n<=xs.length:=by omega
 rw[<-hr.hp]at s j;have o:=hr.ok;obtain⟨av,e0,G,ag,O,aQ⟩:=o.obj id _ s;obtain⟨_,aw,ax,S,I,_⟩:=o.obj E _ j;have ai:Ty.size Wu=2:=rfl;obtain⟨us⟩:=us
 match us,D with
 |[w1,w2,w3],D=>
  simp only[bK,and_true]at D;obtain⟨k1,k2,k3⟩:=D;simp only[bW]at k1 k2 k3;have q1:w1=(c.mu id).v:=(k1.2.2 _ _ _ s).2 rfl;have q3:w3=(c.mu E).v:=(k3.2.2 _ _ _ j).2 rfl;have q2:w2=.int .i64 (n:Int):=VD.int_inv k2;have ko:=k1.1;subst q1;subst q2
  match ys,ao,I,S,h,j with
  |[y],_,I,S,h,j=>
   have aj:=fQ.one _ _ I;obtain⟨d,ay,p1,p2,p3,U⟩:=I;have U:ay=[]:=U;subst U;rw[List.append_nil]at p1;subst p1;rw[ai]at p2
   match ax,p2 with
   |[p,q],_=>
    rcases S.2 with ⟨V,m2⟩|⟨W,az,J,V,m2,m3,m4,m5,m6,X⟩
    .simp at m2
    have X:J.toList.take 2=[p,q]:=by simpa [ai] using X
    have aA:J=(p::q::J.toList.drop 2).toArray:=by
     have:=List.take_append_drop 2 J.toList;rw[X]at this;apply Array.ext';exact this.symm
    rw[aA]at m3;have aB:(c.mu id).v.ownBlock≠a6 W:=fun Y=>M (o.inj id E _ _ W s j Y (by simp only[dM.blk];rw[V];rfl));rw[q3,V];have aF:=fQ.one _ _ O;have aG:c.w.ownsRow W0.heap.size e0 2 (c.mu id).v xs.length G:=ag;obtain⟨h3,h4⟩:=hg c.w W0.heap.size e0 (c.mu id).v xs.length n W az G p q aw _ o.phiw o.size aG (by omega) au aF ko (aj p (by simp)) (aj q (by simp)) m3 aB (by simpa using m4) m5;refine⟨h3,h4.mono ?_⟩;rintro e w' ⟨v',e1,rfl,g1,g2,g3,g4⟩;have aH:fQ (eY c.w c.free Wu) Wu.size (aoq xs n [y]) (G.take (n*2)++[p,q]++G.drop (n*2)):=
     fQ.append _ _ _ _ (fQ.append _ _ _ _ (fQ.take n _ _ O) ⟨[p,q],[],rfl,rfl,p3,rfl⟩) (fQ.drop n _ _ O)
    have aI: ∀b,(c.mu id).v.ownBlock=a6 b->W0.heap.size<=b:=fun b Y=>(World.ownsRow.lt ag b Y).1;have aJ:(aoq xs n [y]).length=xs.length+1:=by
     unfold aoq;simp;omega
    obtain⟨c',d1,d2,d3⟩:=avR o hr.hp hr.nxt av s (ws:=aoq xs n [y]) (by rw[aJ];exact g1) aH g2 aI g3 g4 (fun h=>by cases h);subst d2;exact hR c' _ v' _ h (hr.did d1) d3 d1.le.mono
theorem avS (g:c.Ok W0) {st:St} (z:c.hp=st.hp) (A:c.nxt=st.nxt) {e:Ty} {id d:Nat} {xs:List e.den} (j:dQ c.hp id=a6 (.arr e d xs)) {w':World} {l:TypeId} {o:List Value} (B:0<e.size)
  (J:w'.ownsRow W0.heap.size l e.size (c.mu id).v xs.length o) (p:fQ (eY c.w c.free e) e.size xs o) (i:c.w.grownBy w' (c.mu id).v.ownBlock) (D: ∀b,(c.mu id).v.ownBlock=a6 b->W0.heap.size<=b) (E:e=.int .u8->l=mP):
  ∃c',AU W0 c st c' {st with hp:=iU st.hp id (.arr e d xs)}/\c'.w=w':=by
 have G:Below W0.heap.size W0 w':=g.bel.grown i g.size D;have q:(dM.arr e d xs).like (c.mu id) (.arr e d xs) ⟨0,(c.mu id).v⟩:=⟨ae _,fun _=>⟨rfl,rfl⟩⟩;have s: ∀b,b<c.w.heap.size->(dM.arr e d xs).blk (c.mu id)≠a6 b->w'.heap[b]? =c.w.heap[b]? :=fun b f K=>i.block b f (by
  grind [dM.blk])
 have u: ∀b,(dM.arr e d xs).blk ⟨0,(c.mu id).v⟩=a6 b->(dM.arr e d xs).blk (c.mu id)=a6 b\/c.w.heap.size<=b:=fun b f=>by
  simp only[dM.blk]at f ⊢;exact .inl f
 have x: ∀(b:Nat) (L:Loop),(dM.arr e d xs).blk (c.mu id)=a6 b->c.w.heap[b]? =a6 (Obj.loop L)-> ∃I:Loop,w'.heap[b]? =a6 (Obj.loop I):=fun b L f p=>absurd p ((g.obj id _ j).no_loop (by simp) f);have y:=Cx.Le.put (w:=w') g j q i.size s u x;refine⟨c.put id (.arr e d xs) ⟨0,(c.mu id).v⟩ w',⟨by simp[Cx.put,z],A,rfl,rfl,g.put j q G i.size s u x ?_,y⟩,rfl⟩;refine⟨B,l,o, ?_,fQ.mono (eY.mono y.free e) _ _ p,E⟩;simp_all [Cx.put,upd_same]
theorem X5: ∀(xs:List wZ.den) (f:List Value),fQ (eY c.w c.free wZ) wZ.size xs f->f=xs.flatMap (fun x=>[.int .i64 x.1,.int .i64 x.2.1,.int .i64 x.2.2.1,.bool x.2.2.2.1])
 |[],f,h=>h
 |x::xs,f,h=>by
  obtain⟨d,o,p,I,e,q⟩:=h;have s:=X5 xs o q;have hd:d=[.int .i64 x.1,.int .i64 x.2.1,.int .i64 x.2.2.1,.bool x.2.2.2.1]:=by
   obtain⟨u,J,v,g,e⟩:=e;obtain⟨y,K,z,i,e⟩:=e;obtain⟨A,L,B,j,e⟩:=e;obtain⟨D,E,G,hd,l⟩:=e;have g:u=[.int .i64 x.1]:=g;have i:y=[.int .i64 x.2.1]:=i;have j:A=[.int .i64 x.2.2.1]:=j;have hd:D=[.bool x.2.2.2.1]:=hd;have l:E=[]:=l;rw[v,z,B,G,g,i,j,hd,l];rfl
  rw[p,hd,s];rfl
theorem apc {g sc:FuncId} (L:Jl P g sc) {args:List bU} {st:St} {K:bU->St->Option R} (h:ab9 sc args st K=a6 r) {a:Act} (hr:iM W0 b0 rd c st a ats) {us:Array Value} (j:bK c args us.toList)
  (Rr:Ending->World->Prop) (M: ∀c' z u A,K z A=a6 r->iM W0 b0 rd c' A a ats->bW c' z u->c.Mono c'->Rr (.returned u) c'.w):
  (callFunc g us).run P c.w=.ok (.enter g us) c.w/\Calls P g us c.w Rr:=by
 unfold ab9 at h;split at h<;>try (cases h;done)
 rename_i id ad c0
 obtain⟨q,d⟩:=dG h;clear h;have q:=ah q;subst q;split at d<;>try (cases d;done)
 rename_i e v xs f
 obtain⟨B,l⟩:=dG d;clear d;simp only[beq_iff_eq]at B;subst B;split at l<;>try (cases l;done)
 rename_i ag i
 have s:=iq i;injection s with s
 subst s;rw[gp]at i;injection i with i
 subst i;obtain⟨D,h⟩:=dG l;clear l;simp only[af]at D;obtain⟨N,E⟩:=D;have E:=qQ E;have O:=f;rw[<-hr.hp]at f;have o:=hr.ok;obtain⟨S,U,G,I,J,V⟩:=o.obj id _ f;obtain⟨us⟩:=us
 match us,j with
 |[W,w2],j=>
  simp only[bK,and_true]at j;obtain⟨k1,k2⟩:=j;simp only[bW]at k1 k2;have X:W=(c.mu id).v:=(k1.2.2 _ _ _ f).2 rfl;obtain⟨p,rfl,x⟩:=k2;have x:p= #[]:=by
   obtain⟨p⟩:=p;cases p with
   |nil=>rfl
   |cons _ _=>simp[bK]at x
  subst x;subst X;obtain⟨d,Y⟩:=L c.w W0.heap.size U (c.mu id).v xs.length G xs o.phiw o.size I rfl (by omega) N (X5 xs G J);refine⟨d,Y.mono ?_⟩;rintro e w' ⟨rfl,g1,g2⟩;have Z: ∀b,(c.mu id).v.ownBlock=a6 b->W0.heap.size<=b:=fun b hb=>(World.ownsRow.lt I b hb).1;obtain⟨c',y,d2⟩:=avS o hr.hp hr.nxt f S g1 J g2 Z V;subst d2;have ab:({st with hp:=iU st.hp id (.arr wZ v xs)}:St)=st:=by rw[MB _ _ _ O]
  rw[ab]at y;exact M c' _ (.tuple #[]) _ h (hr.did y) (by simp[bW,bK]) y.le.mono
theorem kV {E:Env} (L:vW P E) {S:mO R} (W:uA P W0 S) (hy:Dz P W0 S) (n:Nat):lV P W0 n (vY E S):=by
 intro b0 rd fv N U st K r h c a ats X D hr i G o next Q I
 cases fv with
 |fn g V=>
  simp only[vY]at h;split at h
  .rename_i s O
   exact L.v R W0 n g s O b0 rd (.fn g V) N U st K r (by simp_all [EX]) c a ats X D hr i G o next Q I
  split at h
  .rename_i s O
   exact L.x R W0 n g s O b0 rd (.fn g V) N U st K r (by simp_all [NZ]) c a ats X D hr i G o next Q I
  .rw[cond_eq_ite]at h;split at h
   .rename_i ab
    simp only[bW]at i;obtain⟨B,rfl,M⟩:=i;obtain⟨J,j⟩:=ac9 L.T ((L.b g).1 ab) h hr (us:=D++B) (bK.append_arr G M)
     (fun e d=>match e with
      |.returned v=>next (a.put o.dst v) d
      |.panicked l=>Q (.panic l) a d
      |.outgrown=>LetsOut Q) (fun q z u y k1 k2 k3 k4=>I q z u y k1 k2 k3 k4)
    rw[nT,J];exact⟨oK rd,(sS j).mono fun e d A=>by cases e<;>exact A⟩
   rw[cond_eq_ite]at h;split at h
   .rename_i ad
    simp only[bW]at i;obtain⟨B,rfl,M⟩:=i;obtain⟨J,j⟩:=aos ((L.b g).2.1 ad) h hr (us:=D++B) (bK.append_arr G M)
     (fun e d=>match e with
      |.returned v=>next (a.put o.dst v) d
      |.panicked l=>Q (.panic l) a d
      |.outgrown=>LetsOut Q) (fun q z u y k1 k2 k3 k4=>I q z u y k1 k2 k3 k4)
    rw[nT,J];exact⟨oK rd,(sS j).mono fun e d A=>by cases e<;>exact A⟩
   rw[cond_eq_ite]at h;split at h
   .rename_i ag
    simp only[bW]at i;obtain⟨B,rfl,M⟩:=i;obtain⟨J,j⟩:=apc ((L.b g).2.2 ag) h hr (us:=D++B) (bK.append_arr G M)
     (fun e d=>match e with
      |.returned v=>next (a.put o.dst v) d
      |.panicked l=>Q (.panic l) a d
      |.outgrown=>LetsOut Q) (fun q z u y k1 k2 k3 k4=>I q z u y k1 k2 k3 k4)
    rw[nT,J];exact⟨oK rd,(sS j).mono fun e d A=>by cases e<;>exact A⟩
   simp only[bW]at i;obtain⟨B,rfl,M⟩:=i;obtain⟨J,j⟩:=W g (N++V) st K r h b0 rd c a ats (D++B) hr (bK.append_arr G M)
    (fun e d=>match e with
     |.returned v=>next (a.put o.dst v) d
     |.panicked l=>Q (.panic l) a d
     |.outgrown=>LetsOut Q) (fun q z u y k1 k2 k3 k4=>I q z u y k1 k2 k3 k4)
   rw[nT,J];exact⟨oK rd,(sS j).mono fun e d A=>by cases e<;>exact A⟩
 |mfn g Y=>
  simp only[vY]at h;simp only[bW]at i;obtain⟨B,rfl,Z⟩:=i;split at h
  .rename_i s O
   have h0:=L.x R W0 n g s O b0 rd (.fn g []) (Y++N) U st K r (by simp_all [NZ]) c a ats (.func (.func g) #[] #[]) (B++D) hr (by simp only[bW];exact⟨#[],rfl,by simp[bK]⟩) (bK.append_arr Z G) o next Q I
   grind [SX]
  obtain⟨J,j⟩:=W g (Y++N) st K r h b0 rd c a ats (B++D) hr (bK.append_arr Z G)
   (fun e d=>match e with
    |.returned v=>next (a.put o.dst v) d
    |.panicked l=>Q (.panic l) a d
    |.outgrown=>LetsOut Q) (fun q z u y k1 k2 k3 k4=>I q z u y k1 k2 k3 k4)
  rw[SX,J];exact⟨oK rd,(sS j).mono fun e d A=>by cases e<;>exact A⟩
 |yld id=>
  simp only[vY]at h;obtain⟨⟨f,fr,ps,asg,bd,ky,k,p,hg⟩,j⟩:=hy id N st K r h b0 rd c a ats D hr G;simp only[bW]at i;have:=i.2.2 f fr ps asg bd ky k p (by rw[hr.hp];exact hg);subst this;obtain⟨g,ai,asg,bd,h3,h4⟩:=j
    (fun e d=>match e with
     |.returned v=>next (a.put o.dst v) d
     |.panicked l=>Q (.panic l) a d
     |.outgrown=>LetsOut Q) (fun q z u y k1 k2 k3 k4=>I q z u y k1 k2 k3 k4) (n-1)
  rw[Y4,h3];exact⟨oK rd,h4.mono fun e d A=>by cases e<;>exact A⟩
 |_=>simp[vY]at h
theorem DD {E:Env} (A:vW P E) {o:mO bU} (B: ∀W0,uA P W0 o):mV (R:=R) P (RD E fun j st=>o j st fun v _=>a6 v):=by
 intro W0 b0 rd D G I st K r h c a ats J i hr l p;cases D with
 |fn g L=>
  cases L with
  |nil=>
   simp only[RD]at h;split at h
   .rename_i s M
    rw[cond_eq_ite]at h;split at h
    .rename_i N
     exact A.q R g s M N W0 b0 rd (.fn g []) G I st K r (by simp_all [EX]) c a ats J i hr l p
    .cases h
   .split at h
    .rename_i O S
     split at h
     .rename_i v U
      rw[cond_eq_ite]at h;split at h
      .rename_i x
       simp only[bW]at l;obtain⟨V,rfl,W⟩:=l;have X:V= #[]:=by
        have:=bK.length _ _ W
        grind
       subst X;refine⟨v,rv v,h,(I4 x _).2 rfl,fun f d=>.inl ⟨g,i, ?_⟩⟩;have Y:iM f 0 a7 (c.base f fun _=>False) ⟨[],[],[],st.nxt⟩ ⟨#[],[]⟩ []:=aqG (Yd.below d hr.ok.phiw) (fun b h=>h.elim) hr.nxt.symm;have Z:aqy c (c.base f fun _=>False):=fun b y=>⟨am4.2 ⟨aZ y d.size,fun h=>h⟩,d.block b y⟩;obtain⟨h1,h2⟩:=B f g O _ _ v U 0 a7 _ _ [] i Y (Q7 hr.ok Z _ _ _ (by rw[hr.hp];exact S) p)
        (fun e ab=>e=.returned (rv v)/\GK c ab) (fun c' z u ad k1 k2 k3 k4=>by
         simp only[Option.some.injEq]at k1;subst k1;refine⟨by rw[(I4 x u).1 k3], ?_⟩;exact d.trans (k2.ok.bel.mono d.size))
       refine⟨?_,h2⟩;rw[nT,Array.append_empty];exact h1
      .cases h
     .cases h
    .cases h
  |cons _ _=>simp[RD]at h
 |_=>simp[RD]at h
theorem Hr: ∀k,bK c (List.replicate k (.tup [])) (List.replicate k undef)
 |0=>by simp[bK]
 |k+1=>by
  simp only[List.replicate_succ,bK,bW];exact⟨⟨#[],rfl,by simp[bK]⟩,Hr k⟩
theorem abY {l:Nat} {Rr:Ending->World->Prop} {e:Ex} {a:Act} {w:World} (h: ∃v w',(Instr.endRound l e.code).run P w=.ok v w'/\Rr (.returned v) w'):roundPost P l Rr e.xt a w:=by
 cases e<;>exact h
theorem H6: ∀(d:List Nat) (fr args:List bU) (f:List Value) (tmps:Array Value),bK c fr tmps.toList->bK c args f->bK c (vK fr d args) ((d.zip f).foldl (fun tmps (t,a)=>tmps.setIfInBounds t a) tmps).toList
 |[],fr,args,f,tmps,h,_=>by simp_all [vK]
 |p::d,fr,[],[],tmps,h,_=>by assumption
 |p::d,fr,v::args,u::f,tmps,h,e=>by
  simp only[bK]at e;simp only[vK,List.zip_cons_cons,List.foldl_cons];refine H6 d _ args f _ ?_ e.2;simp_all [bK.set]
 |p::d,fr,[],_::_,tmps,h,e=>by simp[bK]at e
 |p::d,fr,_::_,[],tmps,h,e=>by simp[bK]at e
end
end
section
open Option renaming some → a6, none → a7
open Bool renaming and_eq_true → af
open Nat renaming le_refl → ae, le_trans → aI
open Go.RowKit
section
variable {P:Program} {T:TT} {W0:World} {b0:Nat} {rd:Option Nat} {R:Type} {r:R} {c:Cx} {ats:List (Array Value)}
def rE (P:Program) (E:Env):Prop:= ∀(f:FuncId) (fn:Func) (c:Code),P.funcs[f]? =a6 fn->fn.body=a6 c->dO E f c
def af5 (E:Env):Prop:= ∀f k asg d,qK f k=a6 (asg,d)->dO E f asg/\dO E f d
theorem qy {E:Env} {e:mO R} {g:Ye} {f:FuncId} {k:Nat} {x y:Code}: ∀c:Code,jv E e g f c->IX c k=a6 (x,y)->jv E e g f x/\jv E e g f y
 |.rangeFunc _ _ asg i,hl,h=>by
  simp only[IX]at h;split at h
  .cases h;exact⟨hl.1,hl.2.1⟩
  .split at h
   .rename_i z d;cases h;exact qy asg hl.1 d
   .exact qy i hl.2.1 h
 |.seq a b,hl,h=>by
  simp only[IX]at h;split at h
  .rename_i z d;cases h;exact qy a hl.1.1 d
  .exact qy b hl.2 h
 |.cond _ a b,hl,h=>by
  simp only[IX]at h;split at h
  .rename_i z d;cases h;exact qy a hl.1 d
  .exact qy b hl.2 h
 |.block _ c,hl,h=>qy c hl h
 |.loop c,hl,h=>qy c hl.1 h
 |.scope c,hl,h=>qy c hl h
 |.skip,_,h|.label _,_,h|.region _ _ _,_,h|.exit _,_,h|.goto _,_,h|.ret,_,h|.refuse _,_,h=>by simp[IX]at h
theorem alB {P:Program} {E:Env} (h:rE P E): ∀f k asg d,aGc P f k=a6 (asg,d)->dO E f asg/\dO E f d:=fun f k asg d hr=>by
 unfold aGc at hr;split at hr
 .rename_i fn e
  split at hr
  .rename_i c g
   exact⟨fun R m=>(qy c (h f fn c e g R m) hr).1,fun R m=>(qy c (h f fn c e g R m) hr).2⟩
  .cases hr
 .cases hr
theorem acN {P:Program} {E:Env} (h:vW P E): ∀R:Type,mV (R:=R) P (GX E.sg E.cl):=fun R W0 b0 rd v e f st K r hr c a ats i j l o p=>by
 unfold GX at hr;split at hr
 .rename_i g
  split at hr
  .rename_i s u
   replace hr:=dG hr;obtain⟨d,hr⟩:=hr;simp only[af]at d;exact h.q R g s u d.1 W0 b0 rd (.fn g []) e f st K r (by simp_all [EX]) c a ats i j l o p
  .cases hr
 .cases hr
theorem vW.at {P:Program} {E:Env} (h:vW P E) (n:Nat):vW P (E.at n):=⟨h.T,h.x,h.b,h.v,h.q⟩
theorem avG {st:St} {K:St->Option R} (h:pop st K=a6 r): ∃fr stk,st.stk=fr::stk/\K {st with fr:=fr,stk:=stk}=a6 r:=by
 grind [pop]
theorem DC {v:bU} {u:Value} {f d:Cx} {st st1:St} {a:Act} {z:Nat} (j:iM W0 b0 rd f st a ats) (A:d.Ok W0) (B:d.hp=st1.hp) (D:d.nxt=st1.nxt) (E:st1.fr=[]) (G:Dh d st1.stk (a.tmps::ats))
  (g:f.Mono d) (I:bW d v u) {K:bU->St->Option R} (h:(match gc z v st1 with|some o=>pop o (K v)|none=>a7)=a6 r):
  ∃c' p,K v p=a6 r/\iM W0 b0 rd c' p a ats/\bW c' v u/\f.Mono c'/\c'.w=d.w:=by
 have hr:iM W0 0 a7 d st1 ⟨#[],[]⟩ (a.tmps::ats):=⟨B,D,A,by rw[E];simp[bK],G,⟨[],rfl,List.nodup_nil,fun r hr=>by simp at hr⟩,fun l hl=>by cases hl⟩;split at h
 .rename_i o J
  obtain⟨M,e,N,q,O,Y,_⟩:=hr.gc I J;obtain⟨fr,stk,S,h⟩:=avG h;have i:=e.stk;rw[S]at i;refine⟨M,_,h,⟨e.hp,e.nxt,e.ok,i.1,i.2, ?_,fun l hl=> ?_⟩,N,g.trans q,O⟩
  .obtain⟨U,V,W,s⟩:=j.df;exact⟨U,V,W,fun x y=>⟨q.mks x (g.mks x (s x y).1),(s x y).2⟩⟩
  .obtain⟨L,X⟩:=j.rd l hl;obtain⟨Z,ab⟩:=g.lp l L X;simp_all
 .cases h
theorem aob (hT:TOk P T) (hm:P.follows .mixedOrders=true) (ab:Jj P) {E:Env} (ad:E.P=P) (S:E.T=T) (q:vW P E) (ag:rE P E) (av:af5 E) {m:Nat} (d: ∀(R:Type) (W0:World),uA P W0 (kH E m (R:=R))/\Dz P W0 (kH E m (R:=R))):
  uA P W0 (kH E (m+1) (R:=R)):=by
 intro f A st K r h b0 rd c a ats B hr ah J hR;simp only[kH]at h;rw[ad]at h;split at h
 .cases h
 .rename_i fn M
  split at h
  .cases h
  .rename_i U j
   rw[cond_eq_ite]at h;split at h
   .rename_i ai
    have ai:A.length<=fn.ntmps:=by simp_all
    have aw:A.length=B.size:=by simpa using bK.length _ _ ah
    refine⟨Bd ab M j B c.w, ?_⟩;refine(callsIn_wide (n:=0)).1 (callsIn_of_wp_marks (F:=Fence.wide) (n:=0) M j trivial ?_);have aj:iM W0 c.w.heap.size a7 c {fr:=A++List.replicate (fn.ntmps-A.length) (.tup []),stk:=st.fr::st.stk,hp:=st.hp,nxt:=st.nxt} {tmps:=B++Array.replicate (fn.ntmps-B.size) undef,defers:=[]} (a.tmps::ats):=by
     refine⟨hr.hp,hr.nxt,hr.ok, ?_,⟨hr.fr,hr.stk⟩,⟨[],rfl,List.nodup_nil,fun r hr=>by simp at hr⟩,fun l hl=>by cases hl⟩
     grind [bK.append_arr,Array.toList_replicate,Hr]
    refine NC (rd:=a7) hT hm (n:=0) (E:=E.at m) S (kV (E:=E.at m) (q.at m) (d R W0).1 (d R W0).2 0) (DD (E:=E.at m) (q.at m) fun W=>(d bU W).1) (d R W0).1 (kV (E:=E.at m) (q.at m) (d St W0).1 (d St W0).2 0) (kV (E:=E.at m) (q.at m) (d Unit W0).1 (d Unit W0).2 0) (acN (E:=E.at m) (q.at m)) U (ag f fn U M j R m) _ _ c _ _ h aj (ae _) fun e N s O D o p=> ?_;have V:(rq E.T s fn.results.toList fun y=>
       let v:=match y with
        |[v]=>v
        |y=>.tup y
       match gc (bif E.cl then st.nxt else 1000000*s.stk.length) v {s with fr:=[]}with
       |some ak=>pop ak (K v)
       |none=>a7)=a6 r->LeavesInM Fence.wide 0 P fn O.tmps J O.defers .returning N.w:=by
     intro X;obtain⟨ds,d1,d2,Y⟩:=o.df;obtain⟨Z,e1,e2,G,e4,e5,e6,e7,al,e8⟩:=Va (n:=0) (P:=P) (fn:=fn) (tmps:=O.tmps) (Rr:=J) ds N o.ok d2 fun x I=>(Y x I).1;rw[d1];refine e8 ?_;rw[S]at X;obtain⟨y,us,h3,h4,h5⟩:=zq hT e4 (e1.trans o.hp) (bK.le0 G _ _ o.fr) _ _ X;have an:c.Mono Z:=by
      refine⟨fun x I=>e5 x (p.mks x I) fun hd=> ?_,fun b L hL=> ?_,aI p.size e7,al.trans p.bar,fun b j=>⟨(G.out b (p.out b j).1).1,(G.out b (p.out b j).1).2.trans (p.out b j).2⟩⟩
      .have h6:=(Y x hd).2;have h7:=hr.ok.mark_lt I;omega
      .obtain⟨L1,ao⟩:=p.lp b L hL;exact e6 b L1 ao
     obtain⟨c3,ax,k1,k2,k3,k4,k5⟩:=DC (v:=Nu y) (u:=IW us) hr e4 (st1:={s with fr:=[]}) (e1.trans o.hp) (e2.trans o.nxt) rfl (by
      have: ∀(z:List (List bU)) (g:List (Array Value)),Dh N z g->Dh Z z g:=fun z=>by
       induction z with
       |nil=>intro g h;cases g with
        |nil=>trivial
        |cons _ _=>exact h.elim
       |cons f z au=>intro g h;cases g with
        |nil=>exact h.elim
        |cons t g=>exact⟨bK.le0 G _ _ h.1,au g h.2⟩
      exact this _ _ o.stk) an (Ak h4) (K:=K) h3
     refine⟨IW us,afh h5, ?_⟩
     grind
    cases e with
    |normal=>exact V D
    |ret=>exact V D
    |exit i=>cases D
    |goto l=>cases D
   .cases h
theorem Ex.code_none {e:Ex} (h:e≠ .normal):e.code.isNone=false:=by cases e<;>first|exact absurd rfl h|rfl
theorem agW (hT:TOk P T) (hm:P.follows .mixedOrders=true) (bz:Jj P) {E:Env} (bC:E.P=P) (aS:E.T=T) (V:vW P E) (bD:rE P E) (au:af5 E) {m:Nat} (g: ∀(R:Type) (W0:World),uA P W0 (kH E m (R:=R))/\Dz P W0 (kH E m (R:=R))):
  Dz P W0 (kH E (m+1) (R:=R)):=by
 intro id ah st K r h b0 rd c a ats ai hr av;simp only[kH]at h;split at h
 .rename_i f aj ps asg X d hg
  refine⟨⟨f,aj,ps,asg,X,d,0,a7,hg⟩,fun Rr hR n=> ?_⟩;rw[cond_eq_ite]at h;split at h
  .rename_i aw
   have aw:ah.length=ps.length:=by simpa using aw
   have bF:ah.length=ai.size:=by simpa using bK.length _ _ av
   have ax:dQ c.hp id=a6 (.lp f aj ps asg X d 0 a7):=by rw[hr.hp];exact hg
   obtain⟨ay,hB,L,hL,hv,q1,q2,q3,q4,q5⟩:=hr.ok.obj id _ ax;have o:vW P ((E.at m).keyed d):=by
    cases d with
    |none=>exact⟨V.T,V.x,V.b,V.v,V.q⟩
    |some k=>exact V.at m
   have az:((E.at m).keyed d).T=T:=by cases d<;>exact aS
   have⟨aU,aV⟩:jv ((E.at m).keyed d) (kH E m (R:=R)) (Wx E m) f asg/\jv ((E.at m).keyed d) (kH E m (R:=R)) (Wx E m) f X:=by
    cases d with
    |none=>exact⟨iP (fun _=>rfl) (fun _=>rfl) _,iP (fun _=>rfl) (fun _=>rfl) _⟩
    |some k=>exact⟨(au f k asg X (ay k rfl)).1 R m,(au f k asg X (ay k rfl)).2 R m⟩
   have aW:ai.size=L.params.size:=by
    grind
   refine⟨_,_,_,_,run_yield hL aW, ?_⟩;refine roundIn_of_wpIn trivial ?_;rw[q2,q3];have aX:bW c (.yld id) (.func (.yield (c.mu id).blk) #[] #[]):=by
    simp only[bW];exact⟨rfl,.inl ⟨_,ax⟩,fun _ _ _ _ _ _ _ _ _=>by simp⟩
   have aY:iM W0 c.w.heap.size (a6 (c.mu id).blk) c {fr:=vK aj ps ah,stk:=[.yld id]::st.fr::st.stk,hp:=st.hp,nxt:=st.nxt} {tmps:=(L.params.zip ai).foldl (fun aA (t,a)=>aA.setIfInBounds t a) L.tmps,defers:=[]} (#[.func (.yield (c.mu id).blk) #[] #[]]::a.tmps::ats):=by
    refine⟨hr.hp,hr.nxt,hr.ok, ?_,⟨by simpa [bK] using aX,hr.fr,hr.stk⟩,⟨[],rfl,List.nodup_nil,fun r hr=>by simp at hr⟩,fun l hl=>by simp_all⟩;have:=H6 ps aj ah ai.toList L.tmps hv av
    grind [Array.toList_zip]
   refine NC (rd:=a6 (c.mu id).blk) hT hm (E:=(E.at m).keyed d) az (kV (E:=(E.at m).keyed d) o (g R W0).1 (g R W0).2 n) (DD (E:=(E.at m).keyed d) o fun W=>(g bU W).1) (g R W0).1 (kV (E:=(E.at m).keyed d) o (g St W0).1 (g St W0).2 n) (kV (E:=(E.at m).keyed d) o (g Unit W0).1 (g Unit W0).2 n) (acN o) asg aU _ _ c _ _ h aY (ae _) fun e c1 Y a1 y p aZ=> ?_;cases e with
   |normal=>
    split at y
    .rename_i an bG _ bf
     split at y
     .rename_i f1 aB aF aG aH aJ bg
      have s:=p.stk;rw[bf]at s;obtain⟨aK,_⟩:=s;simp only[bK,and_true]at aK;have ao:=bg;rw[<-p.hp]at ao;obtain⟨bH,cb,L1,bi,cc,p1,p2,p3,p4,p5⟩:=p.ok.obj an _ ao;simp only[bW]at aK;have cd:(c.mu id).blk=(c1.mu an).blk:=by simp_all
      obtain⟨c2,e1,e2,e3,e4,e5,e6⟩:=I5 p.ok ao bi {L1 with state:=.busy} (o':=.lp f1 aB aF aG aH aJ 2 a7) (.inr ⟨2,a7,rfl,rfl,rfl,rfl,rfl,rfl⟩);simp only[Ex.xt,Exit.then];refine⟨c2.w, ?_, ?_⟩
      .simp_all [run_beginRound]
      have ad:c.Mono c2:=aZ.trans e3.mono;have bn:iM W0 c.w.heap.size (a6 (c.mu id).blk) c2 {Y with hp:=iU Y.hp an (.lp f1 aB aF aG aH aJ 2 a7)} a1 (#[.func (.yield (c.mu id).blk) #[] #[]]::a.tmps::ats):=
       ⟨e1.trans (by rw[p.hp]),e2.trans p.nxt,e4,bK.le e3 _ _ p.fr,Dh.le e3 _ _ p.stk,let⟨ds,d1,d2,d3⟩:=p.df;⟨ds,d1,d2,fun x hx=>⟨e3.mks x (d3 x hx).1,(d3 x hx).2⟩⟩,fun l hl=>let⟨L,hL⟩:=p.rd l hl;e3.lp l L hL⟩
      refine NC (rd:=a6 (c.mu id).blk) hT hm (E:=(E.at m).keyed d) az (kV (E:=(E.at m).keyed d) o (g R W0).1 (g R W0).2 n) (DD (E:=(E.at m).keyed d) o fun W=>(g bU W).1) (g R W0).1 (kV (E:=(E.at m).keyed d) o (g St W0).1 (g St W0).2 n) (kV (E:=(E.at m).keyed d) o (g Unit W0).1 (g Unit W0).2 n) (acN o) X aV _ _ c2 _ _ y bn ad.size fun e c3 z a3 A j ak=> ?_;refine abY ?_;split at A
      .rename_i Z al bt
       split at A
       .rename_i B D G I J M bu
        have s:=j.stk;rw[bt]at s;obtain⟨aO,s⟩:=s;simp only[bK,and_true]at aO;have ab:=bu;rw[<-j.hp]at ab;obtain⟨ch,cn,L3,ag,cu,w1,w2,w3,w4⟩:=j.ok.obj Z _ ab;simp only[bW]at aO;have aP:(c.mu id).blk=(c3.mu Z).blk:=by simp_all
        have aQ:=run_endRound (P:=P) (w:=c3.w) e.code ag;rw[<-aP]at aQ;refine⟨_,_,aQ, ?_⟩;rw[aP];cases e with
        |normal=>
         obtain⟨N,g1,g2,g3,g4,g5,g6⟩:=I5 j.ok ab ag {L3 with state:=.ready,pending:=a7} (o':=.lp B D G I J M 0 a7) (.inr ⟨0,a7,rfl,⟨rfl,rfl⟩,rfl,rfl,rfl,rfl⟩);have O:c.Mono N:=(ad.trans ak).trans g3.mono;obtain⟨S,U,k1,k2,k3,k4,k5⟩:=DC (v:=.undef) (u:=undef) hr g4 (st1:={z with fr:=[],stk:=al,hp:=iU z.hp Z (.lp B D G I J M 0 a7)}) (g1.trans (by rw[j.hp])) (g2.trans j.nxt) rfl (Dh.le g3 _ _ s) O (by simp[bW]) (K:=fun _=>K (.val .bool true)) A;have:=hR S (.val .bool true) (.bool true) U k1 k2 (by simp only[bW];exact VD.bool_mk) k4;rw[k5,g5]at this;exact this
        |exit i=>
         obtain⟨N,g1,g2,g3,g4,g5,g6⟩:=I5 j.ok ab ag {L3 with state:=.done,pending:=a6 (.exit i)} (o':=.lp B D G I J M 1 (a6 (.exit i))) (.inr ⟨1,a6 (.exit i),rfl,⟨rfl,rfl,by simp[Ex.code]⟩,rfl,rfl,rfl,rfl⟩);have O:c.Mono N:=(ad.trans ak).trans g3.mono;obtain⟨S,U,k1,k2,k3,k4,k5⟩:=DC (v:=.undef) (u:=undef) hr g4 (st1:={z with fr:=[],stk:=al,hp:=iU z.hp Z (.lp B D G I J M 1 (a6 (.exit i)))}) (g1.trans (by rw[j.hp])) (g2.trans j.nxt) rfl (Dh.le g3 _ _ s) O (by simp[bW]) (K:=fun _=>K (.val .bool false)) A;have:=hR S (.val .bool false) (.bool false) U k1 k2 (by simp only[bW];exact VD.bool_mk) k4;rw[k5,g5]at this;exact this
        |goto l=>
         obtain⟨N,g1,g2,g3,g4,g5,g6⟩:=I5 j.ok ab ag {L3 with state:=.done,pending:=a6 (.goto l)} (o':=.lp B D G I J M 1 (a6 (.goto l))) (.inr ⟨1,a6 (.goto l),rfl,⟨rfl,rfl,by simp[Ex.code]⟩,rfl,rfl,rfl,rfl⟩);have O:c.Mono N:=(ad.trans ak).trans g3.mono;obtain⟨S,U,k1,k2,k3,k4,k5⟩:=DC (v:=.undef) (u:=undef) hr g4 (st1:={z with fr:=[],stk:=al,hp:=iU z.hp Z (.lp B D G I J M 1 (a6 (.goto l)))}) (g1.trans (by rw[j.hp])) (g2.trans j.nxt) rfl (Dh.le g3 _ _ s) O (by simp[bW]) (K:=fun _=>K (.val .bool false)) A;have:=hR S (.val .bool false) (.bool false) U k1 k2 (by simp only[bW];exact VD.bool_mk) k4;rw[k5,g5]at this;exact this
        |ret=>
         obtain⟨N,g1,g2,g3,g4,g5,g6⟩:=I5 j.ok ab ag {L3 with state:=.done,pending:=a6 (.ret)} (o':=.lp B D G I J M 1 (a6 .ret)) (.inr ⟨1,a6 .ret,rfl,⟨rfl,rfl,by simp[Ex.code]⟩,rfl,rfl,rfl,rfl⟩);have O:c.Mono N:=(ad.trans ak).trans g3.mono;obtain⟨S,U,k1,k2,k3,k4,k5⟩:=DC (v:=.undef) (u:=undef) hr g4 (st1:={z with fr:=[],stk:=al,hp:=iU z.hp Z (.lp B D G I J M 1 (a6 .ret))}) (g1.trans (by rw[j.hp])) (g2.trans j.nxt) rfl (Dh.le g3 _ _ s) O (by simp[bW]) (K:=fun _=>K (.val .bool false)) A;have:=hR S (.val .bool false) (.bool false) U k1 k2 (by simp only[bW];exact VD.bool_mk) k4;rw[k5,g5]at this;exact this
       .cases A
      .cases A
     .cases y
    .cases y
   |exit i=>simp at y
   |goto l=>simp at y
   |ret=>simp at y
  .cases h
 .cases h
theorem Ip (hT:TOk P T) (d:P.follows .mixedOrders=true) (e:Jj P) {E:Env} (g:E.P=P) (i:E.T=T) (j:vW P E) (l:rE P E) (o:af5 E): ∀(m:Nat) (R:Type) (W0:World),uA P W0 (kH E m (R:=R))/\Dz P W0 (kH E m (R:=R))
 |0,R,W0=>⟨fun f p st K r h=>by simp[kH]at h,fun id p st K r h=>by simp[kH]at h⟩
 |m+1,R,W0=>⟨aob hT d e g i j l o (Ip hT d e g i j l o m),agW hT d e g i j l o (Ip hT d e g i j l o m)⟩
end
end
section
open Option renaming some → a6, none → a7
open Bool renaming and_eq_true → af
open List renaming mem_cons_of_mem → ak, all_cons → aW
open Nat renaming le_refl → ae
open Go.RowKit
def oJ (c:Cx):(d:List Ty)->(d.foldr Ty.pair Ty.unit).den->List Value->Prop
 |[],_,us=>us=[]
 |t::d,x,us=> ∃u e,us=u::e/\VD c t x.1 u/\oJ c d x.2 e
def jS (w:World) (d:Nat->Prop):Cx:=⟨fun _=>⟨0,undef⟩,[],0,w,[],d⟩
def F5 (rs:List (Ty×Bool)) (y:((rs.map (·.1)).foldr Ty.pair Ty.unit).den):gQ:=
 match xO rs y with
 |some ⟨e,xs⟩=>[(0,.arr e 0 xs)]
 |none=>[]
def uB (w:World) (f:Nat->Prop) (rs:List (Ty×Bool)) (y:((rs.map (·.1)).foldr Ty.pair Ty.unit).den):Ending->World->Prop:=fun e g=>
 ∃(d:Cx) (us:List Value),e=.returned (IW us)/\d.w=g/\d.Ok w/\d.bar=f/\d.mks=[]/\d.hp=F5 rs y/\bK d (oh 0 rs y) us
def dR (P:Program) (g:FuncId) (s:Sum):Prop:=
 ∀(w:World) (e:Nat->Prop) (d:Array Value) x y,Yd w->(∀b,e b->b<w.heap.size)->oJ (jS w e) s.ps x d.toList->s.f x=a6 y->
  ((callFunc g d).run P w=.ok (.enter g d) w/\Calls P g d w (uB w e s.rs y))\/ ∃u,(callFunc g d).run P w=.ok (.value u) w/\uB w e s.rs y (.returned u) w
section
variable {P:Program} {T:TT} {W0:World} {b0:Nat} {rd:Option Nat} {R:Type} {r:R} {c:Cx} {ats:List (Array Value)}
theorem Ih {w:World} {d:Nat->Prop} {b:Nat}:(jS w d).free b↔b<w.heap.size/\ ¬d b:=by
 constructor
 .intro h;exact⟨h.1,h.2.2.2⟩
 .rintro ⟨e,f⟩;exact⟨e,(by rintro ⟨i,o,h,_⟩;simp[jS,dQ]at h),by simp[jS],f⟩
theorem aiQ (s:c.Ok W0) {cb:Cx} (i:aqy c cb) {t:Ty} {v:bU} {x:t.den} {u:Value} (h:v.as c.hp t=a6 x) (d:bW c v u):VD cb t x u:=by
 have o: ∀{t:Ty} {x:t.den} {u:Value},VD c t x u->VD cb t x u:=fun {t x u} d=>
  ⟨fun e=>let⟨cs,f,j⟩:=d.1 e;⟨cs,f,eY.mono (fun b g=>i b g.1) t x _ j⟩,fun e=>eY.mono (fun b g=>i b g.1) t x _ (d.2 e)⟩
 cases v with
 |val t' z=>
  grind [bU.as,iq,gp,bW]
 |nils=>
  cases t with
  |list e=>grind [FN]
  |_=>simp[bU.as]at h
 |lst t' z b=>
  simp only[bU.as]at h;have e:=iq h;subst e;simp_all [gp,bW]
 |emp=>
  cases t with
  |list e=>grind [FN]
  |_=>simp[bU.as]at h
 |slc id ver y=>
  cases t with
  |list e=>grind [FN]
  |_=>simp[bU.as]at h
 |agg l=>
  simp only[bU.as]at h;rw[cond_eq_ite]at h;split at h
  .rename_i p
   simp only[bW]at d;obtain⟨q,rfl,f,j⟩:=d;exact o ((VD.agg p).2 ⟨q,rfl,nV h f⟩)
  .cases h
 |_=>simp[bU.as]at h
theorem Jn {cb:Cx} (f: ∀b,c.free b->cb.free b/\cb.w.heap[b]? =c.w.heap[b]?) {t:Ty} {v:bU} {x:t.den} {u:Value} (j:mD v=false) {hp:gQ} (h:v.as hp t=a6 x) (d:bW c v u):VD cb t x u:=by
 cases v with
 |val t' z=>
  simp only[bU.as]at h;have e:=iq h;subst e;rw[gp]at h;cases h;simp only[bW]at d;exact⟨fun e=>let⟨cs,g,i⟩:=d.1 e;⟨cs,g,eY.mono f t' _ _ i⟩,fun e=>eY.mono f t' _ _ (d.2 e)⟩
 |nils=>
  cases t with
  |list e=>
   simp only[bU.as,Option.some.injEq]at h;subst h;simp only[bW]at d;subst d;exact(VD.leaf rfl).2 ⟨a7,0,[],rfl,ae _,rfl,.inl rfl⟩
  |_=>simp[bU.as]at h
 |lst t' z b=>
  simp only[bU.as]at h;have e:=iq h;subst e;rw[gp]at h;cases h;simp only[bW]at d;exact⟨fun e=>let⟨cs,g,i⟩:=d.1.1 e;⟨cs,g,eY.mono f _ _ _ i⟩,fun e=>eY.mono f _ _ _ (d.1.2 e)⟩
 |emp=>
  cases t with
  |list e=>
   simp only[bU.as,Option.some.injEq]at h;subst h;simp only[bW]at d;obtain⟨a,rfl⟩:=d;exact(VD.leaf rfl).2 ⟨a,0,[],rfl,ae _,rfl,.inl rfl⟩
  |_=>simp[bU.as]at h
 |slc id ver o=>simp[mD]at j
 |agg l=>simp[mD]at j
 |_=>simp[bU.as]at h
theorem zH {cb:Cx} {hp:gQ}: ∀(e:List Ty) (args:List bU) x (us:List Value),zG hp e args=a6 x->bK c args us->
  (∀(t:Ty) (v:bU) (x:t.den) (u:Value),v∈args->v.as hp t=a6 x->bW c v u->VD cb t x u)->oJ cb e x us
 |[],[],x,[],h,_,_=>rfl
 |t::e,v::args,x,u::us,h,d,f=>by
  simp only[zG]at h;split at h
  .rename_i g i
   split at h
   .rename_i j l
    cases h;simp only[bK]at d;exact⟨u,us,rfl,f t v g u (by simp) i d.1,zH e args j us l d.2 fun t v x u o=>f t v x u (ak _ o)⟩
   .cases h
  .cases h
 |[],[],_,_::_,_,d,_=>by simp[bK]at d
 |[],_::_,_,_,h,_,_=>by simp[zG]at h
 |_::_,[],_,_,h,_,_=>by simp[zG]at h
 |_::_,_::_,_,[],_,d,_=>by simp[bK]at d
theorem VD.move {c' c2:Cx} (f:c2.w=c'.w) {t:Ty} {x:t.den} {u:Value} (h:(∀b,c'.free b->c2.free b)\/t.rigid=true) (g:VD c' t x u):VD c2 t x u:=by
 rcases h with h|h
 .exact⟨fun e=>let⟨cs,i,j⟩:=g.1 e;⟨cs,i,eY.mono (fun b d=>⟨h b d,by rw[f]⟩) t x _ j⟩,fun e=>eY.mono (fun b d=>⟨h b d,by rw[f]⟩) t x _ (g.2 e)⟩
 simp_all [VD.rigid]
theorem fQ.move {c' c2:Cx} (f:c2.w=c'.w) {e:Ty} {xs:List e.den} {d:List Value} (h:(∀b,c'.free b->c2.free b)\/e.rigid=true) (g:fQ (eY c'.w c'.free e) e.size xs d):fQ (eY c2.w c2.free e) e.size xs d:=by
 grind [fQ.mono,eY.mono,uf]
theorem GI {c' c2:Cx} (f:c2.w=c'.w) (id:Nat): ∀(rs:List (Ty×Bool)) y (us:List Value),(∀t∈rs,(∀b,c'.free b->c2.free b)\/t.1.rigid=true\/t.2=true)->
  (news rs=0\/ ∀u,bW c' (.slc 0 0 a7) u->bW c2 (.slc id 0 a7) u)->bK c' (oh 0 rs y) us->bK c2 (oh id rs y) us
 |[],y,[],_,_,_=>by simp[oh,bK]
 |[],y,_::_,_,_,d=>by assumption
 |(t,false)::rs,y,us,h,e,d=>by
  cases us with
  |nil=>assumption
  |cons u us=>
   simp only[oh,bK,bW]at d ⊢;refine⟨VD.move f ?_ d.1,GI f id rs y.2 us (fun t g=>h t (ak _ g)) e d.2⟩;simp_all
 |(t,true)::rs,y,us,h,e,d=>by
  cases us with
  |nil=>assumption
  |cons u us=>
   simp only[oh,bK]at d ⊢;rcases e with e|e
   .simp[news]at e
   .exact⟨e u d.1,GI f id rs y.2 us (fun t g=>h t (ak _ g)) (.inr e) d.2⟩
theorem afS {c':Cx}: ∀(rs:List (Ty×Bool)) y (us:List Value),news rs≠0->bK c' (oh 0 rs y) us-> ∃u,bW c' (.slc 0 0 a7) u
 |[],y,us,h,_=>by simp[news]at h
 |(t,false)::rs,y,us,h,d=>by
  cases us with
  |nil=>simp[oh,bK]at d
  |cons u us=>
   simp only[oh,bK]at d;exact afS rs y.2 us (by simpa [news] using h) d.2
 |(t,true)::rs,y,us,h,d=>by
  cases us with
  |nil=>simp[oh,bK]at d
  |cons u us=>
   grind [oh,bK]
theorem OT: ∀(rs:List (Ty×Bool)) y {e:Ty} {xs:List e.den},xO rs y=a6 ⟨e,xs⟩->(rs.all fun r=>r.1.rigid||(r.2&&r.1.elem.rigid))=true->e.rigid=true
 |[],y,e,xs,h,_=>by simp[xO]at h
 |(t,false)::rs,y,e,xs,h,d=>by
  simp only[xO]at h;simp only[aW,af]at d;exact OT rs y.2 h d.2
 |(t,true)::rs,y,e,xs,h,d=>by
  cases t with
  |list f=>
   simp only[xO,Option.some.injEq,Sigma.mk.injEq]at h;obtain⟨rfl,_⟩:=h;simp_all [Ty.rigid,Ty.elem]
  |_=>simp[xO]at h
theorem ax4 {c':Cx} (d:c.Ok W0) (o:c'.Ok c.w) (f:c'.bar=fun b=>b<c.w.heap.size/\ ¬c.free b) {b:Nat} (hb:c'.free b):(c.at_ c'.w).free b:=by
 refine⟨hb.1, ?_⟩;by_cases hlt:b<c.w.heap.size
 .have e:=hb.2.2.2;rw[f]at e;have g:c.free b:=Classical.byContradiction fun h=>e ⟨hlt,h⟩;exact g.2
 .refine⟨fun i=>hlt (d.own_lt i).2,fun j=>hlt (d.mark_lt j),fun l=>hlt (d.bar b l).1⟩
theorem afO {s:Sum} {cl:Bool} {args:List bU} {dst:Option Nat} {st:St} {K:bU->St->Option R} (h:s.call cl args dst st K=a6 r):
    ((s.rs.all fun r=>r.1.rigid||(r.2&&r.1.elem.rigid))=true\/args.any mD=false)/\ ∃x y,zG st.hp s.ps args=a6 x/\s.f x=a6 y/\
      ((xO s.rs y=a7/\news s.rs=0/\K (Nu (oh 0 s.rs y)) st=a6 r)\/
       (∃e xs id n',xO s.rs y=a6 ⟨e,xs⟩/\news s.rs=1/\dQ st.hp id=a7/\st.nxt<=id/\st.nxt<=n'/\K (Nu (oh id s.rs y)) {st with hp:=(id,.arr e 0 xs)::st.hp,nxt:=n'}=a6 r)):=by
  unfold Sum.call at h;rw[cond_eq_ite]at h;split at h
  . rename_i d
    refine⟨by simpa using d, ?_⟩;split at h
    . rename_i x g
      cases hy:s.f x with
      |none=>rw[hy]at h;cases h
      |some y=>
        rw[hy]at h;simp only[bJ]at h;refine⟨x,y,g,hy, ?_⟩;split at h
        . simp_all [cond_eq_ite]
        . rename_i e xs i
          rw[cond_eq_ite]at h;split at h
          . rename_i j
            obtain⟨id,n',l,o,p,q⟩:=ji h;exact .inr ⟨e,xs,id,n',i,by simpa using j,l,o,p,q⟩
          . cases h
    . cases h
  . cases h
end
end
section
open Option renaming some → a6, none → a7
open Bool renaming and_eq_true → af, not_eq_true' → aY
open List renaming mem_cons_of_mem → ak, map_cons → au, mem_append_right → bn, mem_append_left → bF
open Nat renaming le_refl → ae, eq_of_beq_eq_true → ah, le_trans → aI, lt_of_lt_of_le → aZ
open Go.RowKit
section
variable {P:Program} {T:TT} {W0:World} {b0:Nat} {rd:Option Nat} {R:Type} {r:R} {c:Cx} {ats:List (Array Value)}
theorem Cx.many {c2:Cx} (g:c.Ok W0) (S:Nat->Prop) (z:c2.mks=c.mks) (J:c2.bar=c.bar) (V:c2.nxt=c.nxt)
  (A: ∀i,¬S i->dQ c2.hp i=dQ c.hp i/\c2.mu i=c.mu i)
  (W: ∀i,S i-> ∃o o',dQ c.hp i=a6 o/\dQ c2.hp i=a6 o'/\o.like (c.mu i) o' (c2.mu i)/\ ∀f fr X asg Y Z n p,o≠ .lp f fr X asg Y Z n p)
  (hw:Below W0.heap.size W0 c2.w) (K:c.w.heap.size<=c2.w.heap.size)
  (B: ∀b,b<c.w.heap.size->(∀i o,S i->dQ c.hp i=a6 o->o.blk (c.mu i)≠a6 b)->c2.w.heap[b]? =c.w.heap[b]?)
  (M: ∀i o' b,S i->dQ c2.hp i=a6 o'->o'.blk (c2.mu i)=a6 b->c.w.heap.size<=b\/ ∃j o,S j/\dQ c.hp j=a6 o/\o.blk (c.mu j)=a6 b)
  (ad: ∀i j o' l b,S i->S j->dQ c2.hp i=a6 o'->dQ c2.hp j=a6 l->o'.blk (c2.mu i)=a6 b->l.blk (c2.mu j)=a6 b->i=j)
  (ag: ∀(b:Nat) (L:Loop) (i:Nat) o,S i->dQ c.hp i=a6 o->o.blk (c.mu i)=a6 b->c.w.heap[b]? ≠a6 (Obj.loop L)):
  c.Le c2/\((∀i o',S i->dQ c2.hp i=a6 o'->c2.ORel W0.heap.size i o')->c2.Ok W0):=by
 have D:c.Le c2:=by
  refine⟨fun b e=>⟨⟨aZ e.1 K, ?_,by rw[z];exact e.2.2⟩,B b e.1 fun i o _ q d=>e.2.1 ⟨i,o,q,d⟩⟩,fun i y=> ?_,fun i o' y x=> ?_,fun r hr=>by rw[z];exact hr,fun b L hL=> ?_,K,J⟩
  .rintro ⟨i,o',q,d⟩;by_cases u:S i
   .rcases M i o' b u q d with s|⟨j,o,_,s,v⟩
    .have:=e.1;omega
    .exact e.2.1 ⟨j,o,s,v⟩
   .obtain⟨s,v⟩:=A i u;rw[s]at q;rw[v]at d;exact e.2.1 ⟨i,o',q,d⟩
  .by_cases u:S i
   .obtain⟨o,o',_,d,_⟩:=W i u;exact .inl ⟨o',d⟩
   .rcases y with ⟨o,x⟩|y
    .exact .inl ⟨o,by simp_all⟩
    .exact .inr (by rw[V];exact y)
  .by_cases u:S i
   .grind
   .obtain⟨s,v⟩:=A i u;rw[s]at x;exact⟨o',x,by rw[v];exact o'.like_refl _⟩
  grind
 refine⟨D,fun hO=>⟨hw,fun i o' x=> ?_,fun i j o' l b q d s v=> ?_,fun r hr=> ?_,fun b e=> ?_,g.phi⟩⟩
 .by_cases u:S i
  .exact hO i o' u x
  .obtain⟨s,v⟩:=A i u;rw[s]at x;refine(g.obj i o' x).le D v fun b e=>B b ((g.obj i o' x).lt e).2 fun j o ai E G=> ?_;have:=g.inj j i o o' b E x G e;simp_all
 .have I: ∀i o' b,¬S i->dQ c2.hp i=a6 o'->o'.blk (c2.mu i)=a6 b->dQ c.hp i=a6 o'/\o'.blk (c.mu i)=a6 b:=fun i o' b u q d=>by
   simp_all
  have mixed: ∀i j o' l b,S i-> ¬S j->dQ c2.hp i=a6 o'->dQ c2.hp j=a6 l->o'.blk (c2.mu i)=a6 b->l.blk (c2.mu j)=a6 b->False:=fun i j o' l b q d s v E G=>by
   obtain⟨N,O⟩:=I j l b d v G;rcases M i o' b q s E with U|⟨k,o,hk,U,ab⟩
   .have:=((g.obj j l N).lt O).2;omega
   .have:=g.inj k j o l b U N ab O;simp_all
  by_cases y:S i<;>by_cases hj:S j
  .grind
  .grind
  .grind
  .obtain⟨q1,q2⟩:=I i o' b y q s;obtain⟨q3,q4⟩:=I j l b hj d v;exact g.inj i j o' l b q1 q3 q2 q4
 .rw[z]at hr;exact⟨(g.mks r hr).1,(B r (g.mark_lt hr) fun i o u q d=>g.mark_own hr ⟨i,o,q,d⟩).trans (g.mks r hr).2⟩
 .rw[J]at e;exact(D.out b (g.bar b e)).1
theorem aBt {size:Nat} {s u:Value} {e:Option (Int×Int)} (h:ja size s e u) {b off n cp:Nat} (f:u=.slice (a6 ⟨b,off,a7⟩) n cp):s.ownBlock=a6 b:=by
 subst f;cases e with
 |none=>simp only[ja]at h;subst h;rfl
 |some p=>
  obtain⟨lo,i⟩:=p;simp only[ja]at h;obtain⟨a,m,q,rfl,_,_,_,g⟩:=h;have d:(a6 ⟨b,off,a7⟩:Option Addr)=if q=lo.toNat then a else a.map (·.add (lo.toNat*size)):=by injection g
  split at d
  .subst d;rfl
  .cases a with
   |none=>cases d
   |some a=>
    simp only[Option.map_some,Option.some.injEq]at d;have:=congrArg Addr.block d
    grind [Value.ownBlock,Addr.add]
theorem af9 (s:c.Ok W0) {cb:Cx} (g: ∀b,c.free b->cb.free b/\cb.w.heap[b]? =c.w.heap[b]?) {t:Ty} {v:bU} {x:t.den} {u:Value}
  (A: ∀id i p,v=.slc id i p-> ∀o b,dQ c.hp id=a6 o->o.blk (c.mu id)=a6 b->cb.free b/\cb.w.heap[b]? =c.w.heap[b]?) (h:v.as c.hp t=a6 x) (d:bW c v u):VD cb t x u:=by
 cases hno:mD v with
 |false=>exact Jn g hno h d
 |true=>
  cases v with
  |slc id i p=>
   cases t with
   |list e=>
    obtain⟨a,cp,B,f,j,D⟩:=UL s h d;have E:=ab6 s h d f;have G: ∃t xs,dQ c.hp id=a6 (.arr t i xs):=by
     simp only[bU.as,Bf]at h
     grind
    obtain⟨O,S,y⟩:=G;simp only[bW]at d;have I:=(d.2.2 _ _ _ y).2 rfl;refine(VD.leaf rfl).2 ⟨a,cp,B,by rw[f],E,fQ.mono (eY.mono g e) _ _ j,D.imp (fun h=>h) fun⟨b,q,z,U,V,J⟩=> ?_⟩;have W:=aBt I (b:=b) (off:=q) (n:=x.length) (cp:=cp) (by rw[f,z]);obtain⟨K,L⟩:=A id i p rfl _ b y (by assumption);exact⟨b,q,z,K,J.of_block L⟩
   |_=>simp[bU.as]at h
  |agg l=>
   simp only[bU.as]at h;replace h:=dG h;obtain⟨M,h⟩:=h;simp only[bW]at d;obtain⟨N,rfl,f,j⟩:=d;have:=(VD.agg M).2 ⟨N,rfl,nV h f⟩;exact⟨fun e=>let⟨cs,f,j⟩:=this.1 e;⟨cs,f,eY.mono g _ _ _ j⟩,fun e=>eY.mono g _ _ _ (this.2 e)⟩
  |_=>simp[mD]at hno
theorem Ef: ∀{l:List Nat},TY l=true->l.Nodup
 |[],_=>List.nodup_nil
 |i::l,h=>by
  simp only[TY,af,aY]at h;refine List.nodup_cons.2 ⟨fun d=> ?_,Ef h.2⟩;have:Zx l i=true:=List.any_eq_true.2 ⟨i,d,by simp⟩;simp_all
theorem Xu {hp:gQ} {b:Bool}: ∀(cs:List (Ty×Bool)) (cells:List bU) {x},jO hp b cs cells=a6 x-> ∀n,(jf cs n).length=(nZ cs cells).length:=by
 intro cs
 induction cs with
 |nil=>intro cells x h n;cases cells<;>rfl
 |cons tc cs f=>
  intro cells x h n;obtain⟨t,o⟩:=tc;cases cells with
  |nil=>simp_all [jO]
  |cons v cells=>
   cases o with
   |false=>
    simp only[jO]at h;rw[cond_eq_ite]at h
    grind [jf,nZ]
   |true=>
    cases t with
    |list e=>
     cases v with
     |slc id ver d=>
      cases d with
      |none=>
       simp only[jO]at h;split at h
       .replace h:=dG h;grind [jf,nZ]
       .cases h
      |some p=>simp[jO]at h
     |_=>simp[jO]at h
    |_=>simp[jO]at h
theorem Fq: ∀(cs:List (Ty×Bool)) (n:Nat),∀p∈jf cs n,n<=p.1
 |[],n,p,h=>by simp[jf]at h
 |(_,true)::cs,n,p,h=>by
  simp only[jf,List.mem_cons]at h;rcases h with rfl|h
  .exact ae _
  .exact aI (Nat.le_succ n) (Fq cs (n+1) p h)
 |(_,false)::cs,n,p,h=>Fq cs n p h
theorem uC: ∀(cs:List (Ty×Bool)) (n:Nat),((jf cs n).map (·.1)).Nodup
 |[],n=>List.nodup_nil
 |(_,true)::cs,n=>by
  simp only[jf,au];refine List.nodup_cons.2 ⟨fun h=> ?_,uC cs (n+1)⟩;obtain⟨p,d,e⟩:=List.mem_map.1 h;have:=Fq cs (n+1) p d;omega
 |(_,false)::cs,n=>uC cs n
theorem Xk {hp:gQ} {b:Bool}: ∀(cs:List (Ty×Bool)) (cells:List bU) (d:List (Nat×Nat)) {x},jO hp b cs cells=a6 x->d.length=(nZ cs cells).length-> ∀g o,(g,o)∈sO cs d x->
  ∃(k i v j:Nat) (e:Ty) (xs:List e.den),(nZ cs cells)[k]? =a6 (i,v)/\d[k]? =a6 (g,j)/\o=.arr e j xs/\dQ hp i=a6 (.arr e v xs)/\(.list e,true)∈cs:=by
 intro cs
 induction cs with
 |nil=>simp_all [sO]
 |cons tc cs u=>
  intro cells d x h hl g o f;obtain⟨t,y⟩:=tc;cases cells with
  |nil=>simp_all [jO]
  |cons v cells=>
   cases y with
   |false=>
    simp only[jO]at h;rw[cond_eq_ite]at h
    grind [nZ,sO]
   |true=>
    cases t with
    |list e=>
     cases v with
     |slc id ver z=>
      cases z with
      |none=>
       simp only[jO]at h;split at h
       .rename_i N s xs A
        replace h:=dG h;obtain⟨l,h⟩:=h;have l:s=ver:=by simpa using l
        subst l;split at h
        .rename_i B q
         split at h
         .rename_i O D
          cases h;have E:=iq q;cases E;rw[gp]at q;cases q;cases d with
          |nil=>simp[nZ]at hl
          |cons p d=>
           obtain⟨S,G⟩:=p;simp only[sO,List.mem_cons]at f;rcases f with f|f
           .cases f;exact⟨0,id,s,G,_,B,by simp[nZ],by simp,rfl,A,by simp⟩
           .obtain⟨k,i,v,j,e,xs,I,J,K,L,M⟩:=u cells d D (by simpa [nZ] using hl) g o f;exact⟨k+1,i,v,j,e,xs,by simpa [nZ] using I,by simpa using J,K,L,ak _ M⟩
         .cases h
        .cases h
       .cases h
      |some p=>simp[jO]at h
     |_=>simp[jO]at h
    |_=>simp[jO]at h
theorem ZJ {hp:gQ} {b:Bool}: ∀(cs:List (Ty×Bool)) (cells:List bU) (d:List (Nat×Nat)) {x},jO hp b cs cells=a6 x-> ∀(k i v f g:Nat),(nZ cs cells)[k]? =a6 (i,v)->d[k]? =a6 (f,g)->
  ∃e xs,dQ hp i=a6 (.arr e v xs)/\(f,dM.arr e g xs)∈sO cs d x:=by
 intro cs
 induction cs with
 |nil=>simp_all [nZ]
 |cons tc cs B=>
  intro cells d x h k i v f g q j;obtain⟨t,s⟩:=tc;cases cells with
  |nil=>simp_all [jO]
  |cons u cells=>
   cases s with
   |false=>
    simp only[jO]at h;rw[cond_eq_ite]at h
    grind [nZ,sO]
   |true=>
    cases t with
    |list e=>
     cases u with
     |slc id ver y=>
      cases y with
      |none=>
       simp only[jO]at h;split at h
       .rename_i D z xs E
        replace h:=dG h;obtain⟨l,h⟩:=h;have l:z=ver:=by simpa using l
        subst l;split at h
        .rename_i G o
         split at h
         .rename_i I J
          cases h;have A:=iq o;cases A;rw[gp]at o;cases o;cases d with
          |nil=>simp at j
          |cons p d=>
           obtain⟨K,L⟩:=p;cases k with
           |zero=>
            simp only[nZ,List.getElem?_cons_zero,Option.some.injEq,Prod.mk.injEq]at q j;obtain⟨rfl,rfl⟩:=q;obtain⟨rfl,rfl⟩:=j
            grind [sO]
           |succ k=>
            grind [nZ,sO]
         .cases h
        .cases h
       .cases h
      |some p=>simp[jO]at h
     |_=>simp[jO]at h
    |_=>simp[jO]at h
theorem ac8 {c':Cx} {b:Bool}: ∀(cs:List (Ty×Bool)) (cells:List bU) (f:List (Nat×Nat)) {x} (vs:List Value),jO c.hp b cs cells=a6 x->bK c cells vs->f.length=(nZ cs cells).length->
  (∀(k i v l o:Nat),(nZ cs cells)[k]? =a6 (i,v)->f[k]? =a6 (l,o)-> ∀e xs,dQ c.hp i=a6 (.arr e v xs)->dQ c'.hp l=a6 (.arr e o xs)/\(c'.mu l).v=(c.mu i).v)->
  (∀t v x u,(t,false)∈cs->(b=true->mD v=false\/t.rigid=true)->(∀i∈refs v,i∈sW cs cells)->v.as c.hp t=a6 x->bW c v u->VD c' t x u)->bK c' (GL cs f x) vs:=by
 intro cs
 induction cs with
 |nil=>
  grind [GL,bK,jO]
 |cons tc cs A=>
  intro cells f x vs h q hl g hd;obtain⟨t,I⟩:=tc;cases cells with
  |nil=>simp_all [jO]
  |cons v cells=>
   cases vs with
   |nil=>simp[bK]at q
   |cons u vs=>
    simp only[bK]at q;cases I with
    |false=>
     simp only[jO]at h;rw[cond_eq_ite]at h;split at h
     .cases h
     .rename_i S
      split at h
      .rename_i B s
       split at h
       .rename_i J y
        cases h;simp only[GL,bK,bW];refine⟨hd t v B u (by simp) (fun U=> ?_) (fun i g=>by simp[sW,g]) s q.1,A cells f vs y q.2 (by simpa [nZ] using hl) (fun k i v l o d j=>g k i v l o (by simpa [nZ] using d) j) fun t v x u d j D=>hd t v x u (ak _ d) j fun i g=>by simp[sW,D i g]⟩
        grind
       .cases h
      .cases h
    |true=>
     cases t with
     |list e=>
      cases v with
      |slc id ver K=>
       cases K with
       |none=>
        simp only[jO]at h;split at h
        .rename_i V E xs L
         replace h:=dG h;obtain⟨z,h⟩:=h;have z:E=ver:=by simpa using z
         subst z;split at h
         .rename_i B s
          split at h
          .rename_i J y
           cases h;have M:=iq s;cases M;rw[gp]at s;cases s;cases f with
           |nil=>simp[nZ]at hl
           |cons p f=>
            obtain⟨N,O⟩:=p;simp only[GL,bK];obtain⟨d,j⟩:=g 0 id E N O (by simp[nZ]) (by simp) _ _ L;refine⟨?_,A cells f vs y q.2 (by simpa [nZ] using hl) (fun k i v l o d j=>g (k+1) i v l o (by simpa [nZ] using d) (by simpa using j)) fun t v x u d j D=>hd t v x u (ak _ d) j fun i g=>by simp_all [sW]⟩;have G:=q.1;simp only[bW]at G ⊢;refine⟨G.1,.inl ⟨_,d⟩,fun t u W X=> ?_⟩;simp_all
          .cases h
         .cases h
        .cases h
       |some p=>simp[jO]at h
      |_=>simp[jO]at h
     |_=>simp[jO]at h
theorem LJ: ∀(cs:List (Ty×Bool)) (d:List (Nat×Nat)) (x),List.Sublist ((sO cs d x).map (·.1)) (d.map (·.1)):=by
 intro cs
 induction cs with
 |nil=>grind [sO]
 |cons tc cs f=>
  intro d x;obtain⟨t,o⟩:=tc;cases o with
  |false=>simp_all [sO]
  |true=>
   cases t with
   |list e=>
    cases d with
    |nil=>grind [sO]
    |cons p d=>
     simp_all [sO]
   |_=>simp_all [sO]
theorem Ov: ∀(h:gQ) (i:Nat) (o:dM),(h.map (·.1)).Nodup->(i,o)∈h->dQ h i=a6 o
 |(k,p)::h,i,o,f,d=>by
  simp only[au,List.nodup_cons]at f;rw[eG];rcases List.mem_cons.1 d with e|d
  .cases e;simp
  .have:k≠i:=fun e=>f.1 (e▸List.mem_map.2 ⟨_,d,rfl⟩);rw[aq this];exact Ov h i o f.2 d
theorem nD: ∀(l h:gQ) (i:Nat),i∉l.map (·.1)->dQ (Ox l h) i=dQ h i
 |[],h,i,_=>rfl
 |(k,o)::l,h,i,d=>by
  simp only[au,List.mem_cons,not_or]at d;simp only[Ox];rw[nD l _ i d.2,jm,aq (Ne.symm d.1)]
theorem DY: ∀(l h:gQ) (i:Nat) (o:dM),(l.map (·.1)).Nodup->(i,o)∈l->(dQ h i).isSome=true->dQ (Ox l h) i=a6 o
 |(k,p)::l,h,i,o,d,f,s=>by
  simp only[au,List.nodup_cons]at d;simp only[Ox];rcases List.mem_cons.1 f with e|f
  .have g:=(Prod.mk.inj e).1;have j:=(Prod.mk.inj e).2;subst g j;rw[nD l _ i d.1,jm,am rfl];cases hg:dQ h i with
   |none=>simp_all
   |some q=>rfl
  .refine DY l _ i o d.2 f ?_
   grind [jm]
def VO:List Nat->List Nat->(Nat->Loc)->(Nat->Loc)->Nat->Loc
 |a::e,j::f,d,m,i=>if a=i then d j else VO e f d m i
 |_,_,_,m,i=>m i
theorem Ux {o m:Nat->Loc}: ∀(d f:List Nat) (k a j:Nat),d.Nodup->d[k]? =a6 a->f[k]? =a6 j->VO d f o m a=o j
 |[],_,k,a,j,_,h,_=>by simp at h
 |_::_,[],k,a,j,_,_,h=>by simp at h
 |p::d,q::f,0,a,j,_,g,i=>by
  simp_all [VO]
 |p::d,q::f,k+1,a,j,l,g,i=>by
  simp only[List.getElem?_cons_succ]at g i;simp only[List.nodup_cons]at l;have:p≠a:=fun e=>l.1 (e▸List.mem_of_getElem? g);simp only[VO,aq this];exact Ux d f k a j l.2 g i
theorem Uy {f m:Nat->Loc}: ∀(d e:List Nat) (i:Nat),i∉d->VO d e f m i=m i
 |[],_,i,_=>by simp[VO]
 |_::_,[],i,_=>by simp[VO]
 |a::d,j::e,i,h=>by
  simp only[List.mem_cons,not_or]at h;simp only[VO,aq (Ne.symm h.1)];exact Uy d e i h.2
def aBG (W0:World) (c:Cx) (s:fF) (z:((s.cs.map (·.1)).foldr Ty.pair Ty.unit).den×(s.rs.foldr Ty.pair Ty.unit).den):Ending->World->Prop:=fun e f=>
 ∃(d:Cx) (us:List Value) (cells:List bU),e=.returned (IW us)/\d.w=f/\d.Ok W0/\c.Mono d/\dQ d.hp 0=a6 (.box s.bt cells)/\(d.mu 0).blk=(c.mu 0).blk/\
  ((nZ s.cs cells).map (·.1)).Nodup/\jO d.hp true s.cs cells=a6 z.1/\oJ d s.rs z.2 us
def dL (P:Program) (g:FuncId) (s:fF):Prop:=
 ∀(W0:World) (c:Cx) x y z,c.Ok W0->c.mks=[]->c.nxt=0->c.hp=(0,.box s.bt (GL s.cs (jf s.cs 1) x))::sO s.cs (jf s.cs 1) x-> ∀d:Array Value,bK c (.ptr 0 0::Jz s.ps y) d.toList->s.f x y=a6 z->
  (callFunc g d).run P c.w=.ok (.enter g d) c.w/\Calls P g d c.w (aBG W0 c s z)
theorem xF: ∀(cs:List (Ty×Bool)) (n:Nat),∀p∈jf cs n,p.2=0
 |[],n,p,h=>by simp[jf]at h
 |(_,true)::cs,n,p,h=>by
  simp only[jf,List.mem_cons]at h;rcases h with rfl|h
  .rfl
  .exact xF cs (n+1) p h
 |(_,false)::cs,n,p,h=>xF cs n p h
theorem LU: ∀(d:List Ty) x (us:List Value),oJ c d x us->bK c (Jz d x) us
 |[],x,us,h=>by
  simp_all [oJ,Jz,bK]
 |t::d,x,us,h=>by
  obtain⟨u,e,rfl,f,g⟩:=h;simp only[Jz,bK,bW];exact⟨f,LU d x.2 e g⟩
theorem oJ.move {c' c2:Cx} (e:c2.w=c'.w): ∀(d:List Ty) x (us:List Value),((∀b,c'.free b->c2.free b)\/d.all Ty.rigid=true)->oJ c' d x us->oJ c2 d x us
 |[],x,us,_,h=>h
 |t::d,x,us,hr,h=>by
  obtain⟨u,f,rfl,g,i⟩:=h;refine⟨u,f,rfl,VD.move e (hr.imp (fun h=>h) fun h=> ?_) g,oJ.move e d x.2 f (hr.imp (fun h=>h) fun h=> ?_) i⟩
  all_goals simp_all
theorem Xw: ∀(l:List bU) (v:bU),v∈l-> ∀i∈refs v,i∈lq l
 |u::l,v,d,i,f=>by
  simp only[lq,List.mem_append];rcases List.mem_cons.1 d with e|d
  .simp_all
  .exact .inr (Xw l v d i f)
theorem aJw {g:FuncId} {s:fF} (hs:dL P g s) {id:Nat} {qs:List bU} {st:St} {K:bU->St->Option R} (h:s.go id qs st K=a6 r) {a:Act} (hr:iM W0 b0 rd c st a ats) {us:Array Value} (hv:bK c (.ptr id 0::qs) us.toList)
  (Rr:Ending->World->Prop) (hR: ∀c' z u cd,K z cd=a6 r->iM W0 b0 rd c' cd a ats->bW c' z u->c.Mono c'->Rr (.returned u) c'.w):
  (callFunc g us).run P c.w=.ok (.enter g us) c.w/\Calls P g us c.w Rr:=by
 unfold fF.go at h;split at h<;>try (cases h;done)
 rename_i t cells ab
 replace h:=dG h;obtain⟨hc,h⟩:=h;simp only[af,Bool.or_eq_true,aY]at hc;obtain⟨ht,⟨ax,aV⟩,ay⟩:=hc;have ht:t=s.bt:=ah ht;subst ht;split at h<;>try (cases h;done)
 rename_i x hx
 split at h<;>try (cases h;done)
 rename_i y hy
 cases hz:s.f x y with
 |none=>rw[hz]at h;cases h
 |some z=>
 rw[hz]at h;simp only[bJ]at h;rw[<-hr.hp]at ab hx hy;have ax:=Ef ax;have aV:=tN aV;generalize ag:nZ s.cs cells=own at*;have V:=hr.ok;obtain⟨hB,vs,hw,eq,es⟩:=V.obj id _ ab;have aB: ∀(k i v:Nat),own[k]? =a6 (i,v)-> ∃(e:Ty) (xs:List e.den),dQ c.hp i=a6 (.arr e v xs):=fun k i v hk=>by
  obtain⟨e,xs,d,_⟩:=ZJ s.cs cells own hx k i v i v (by rw[ag];exact hk) hk;exact⟨e,xs,d⟩
 have az: ∀p∈own,∃k:Nat,own[k]? =a6 p:=fun p W=>List.getElem?_of_mem W;have ch:id∉own.map (·.1):=fun hm=>by
  obtain⟨p,W,rfl⟩:=List.mem_map.1 hm;obtain⟨k,hk⟩:=az p W;obtain⟨e,xs,d⟩:=aB k p.1 p.2 hk;rw[ab]at d;cases d
 let S:Nat->Prop:=fun i=>i=id\/i∈own.map (·.1)
 have et: ∀i,S i-> ∃o,dQ c.hp i=a6 o/\ ∀f fr ps asg bd ky n p,o≠ .lp f fr ps asg bd ky n p:=fun i A=>by
  rcases A with rfl|A
  .exact⟨_,ab,by simp⟩
  .obtain⟨p,W,rfl⟩:=List.mem_map.1 A;obtain⟨k,hk⟩:=az p W;obtain⟨e,xs,d⟩:=aB k p.1 p.2 hk;exact⟨_,d,by simp⟩
 let aA:Nat->Prop:=fun b=> ∃i o,S i/\dQ c.hp i=a6 o/\o.blk (c.mu i)=a6 b
 have aW: ∀b,aA b->c.own b:=fun b ⟨i,o,_,d,l⟩=>⟨i,o,d,l⟩
 let I:Cx:=⟨fun k=>if k=0 then c.mu id else VO ((jf s.cs 1).map (·.1)) (own.map (·.1)) c.mu c.mu k,(0,.box s.bt (GL s.cs (jf s.cs 1) x))::sO s.cs (jf s.cs 1) x,0,c.w,[],fun b=>s.rigid=false/\b<c.w.heap.size/\ ¬c.free b/\ ¬aA b⟩
 have aX:(jf s.cs 1).length=own.length:=by rw[<-ag];exact Xu s.cs cells hx 1
 have ai: ∀(k i v M:Nat),own[k]? =a6 (i,v)->(jf s.cs 1)[k]? =a6 (M,0)->M≠0/\I.mu M=c.mu i:=fun k i v M d l=>by
  have N:=Fq s.cs 1 _ (List.mem_of_getElem? l);refine⟨by simp at N;omega, ?_⟩;have X:M≠0:=by simp at N;omega
  simp only[I,aq X];exact Ux _ _ k M i (uC s.cs 1) (by rw[List.getElem?_map,l];rfl) (by rw[List.getElem?_map,d];rfl)
 have aF: ∀(M:Nat) (o:dM),dQ I.hp M=a6 o->(M=0/\o=.box s.bt (GL s.cs (jf s.cs 1) x))\/
   ∃(k i v:Nat) (e:Ty) (xs:List e.den),own[k]? =a6 (i,v)/\(jf s.cs 1)[k]? =a6 (M,0)/\o=.arr e 0 xs/\dQ c.hp i=a6 (.arr e v xs):=fun M o q=>by
  simp only[I,eG]at q;split at q
  .rename_i e
   cases q;exact .inl ⟨e.symm,rfl⟩
  .right;obtain⟨k,i,v,v',e,xs,E,D,Y,J,_⟩:=Xk s.cs cells (jf s.cs 1) hx (by rw[ag];exact aX) M o (wL _ _ _ q);rw[ag]at E;have:=xF s.cs 1 _ (List.mem_of_getElem? D);simp only at this;subst this;exact⟨k,i,v,e,xs,E,D,Y,J⟩
 have aG: ∀b,I.own b->aA b:=fun b ⟨M,o,d,l⟩=>by
  rcases aF M o d with ⟨rfl,rfl⟩|⟨k,i,v,e,xs,E,D,rfl,J⟩
  .exact⟨id,_,.inl rfl,ab,by simpa [I,dM.blk] using l⟩
  .rw[(ai k i v M E D).2]at l;exact⟨i,_,.inr (List.mem_map.2 ⟨_,List.mem_of_getElem? E,rfl⟩),J,l⟩
 have cn: ∀b,c.free b->I.free b/\I.w.heap[b]? =c.w.heap[b]? :=fun b G=>⟨⟨G.1,fun q=>G.2.1 (aW b (aG b q)),by simp[I],fun bf=>bf.2.2.1 G⟩,rfl⟩;have conv: ∀(t:Ty) (v:bU) (x:t.den) (u:Value),(∀i aj vw,v=.slc i aj vw->s.rigid=true/\i≠id/\i∉own.map (·.1))->v.as c.hp t=a6 x->bW c v u->VD I t x u:=fun t v x u ew d l=>by
  refine af9 V cn (fun i aj vw ad o b N X=> ?_) d l;obtain⟨h5,h6,h7⟩:=ew i aj vw ad;refine⟨⟨((V.obj i o N).lt X).2,fun q=> ?_,by simp[I],fun bf=>by have:=bf.1;rw[h5]at this;cases this⟩,rfl⟩;obtain⟨j,Z,hj,h8,h9⟩:=aG b q;have:=V.inj i j o Z b N h8 X h9;subst this;rcases hj with hj|hj
  .exact h6 hj
  .exact h7 hj
 have cu: ∀i,i∈lq qs++sW s.cs cells->i≠id/\i∉own.map (·.1):=fun i A=>by
  have:=aV i A;simp only[List.mem_cons,not_or]at this;exact this
 have ex:I.Ok W0:=by
  refine⟨V.bel,fun M o q=> ?_,fun i j o p b d l N X=> ?_,fun r hr=>by simp[I]at hr,fun b G=>⟨G.2.1,fun q=>G.2.2.2 (aG b q),by simp[I]⟩,V.phi⟩
  .rcases aF M o q with ⟨rfl,rfl⟩|⟨k,i,v,e,xs,E,D,rfl,J⟩
   .refine⟨by simpa [I] using hB,vs,by simpa [I] using hw, ?_,es⟩;refine ac8 s.cs cells (jf s.cs 1) vs.toList hx eq (by rw[ag];exact aX) (fun k i v M v' E D e xs Y=> ?_) fun t v x u E D Y J q5=>conv t v x u (fun i aj vw ad=> ?_) J q5
    .rw[ag]at E;have cv:=xF s.cs 1 _ (List.mem_of_getElem? D);simp only at cv;subst cv;obtain⟨h6,h7⟩:=ai k i v M E D;refine⟨?_,by rw[h7]⟩;obtain⟨e2,fv,h8,h9⟩:=ZJ s.cs cells (jf s.cs 1) hx k i v M 0 (by rw[ag];exact E) D;rw[Y]at h8;cases h8;have dQ:=Ov _ _ _ (List.Sublist.nodup (LJ s.cs (jf s.cs 1) x) (uC s.cs 1)) h9;simp only[I,eG,aq (Ne.symm h6)];exact dQ
    .subst ad;obtain⟨h6,h7⟩:=cu i (bn _ (Y i (by simp[refs])));refine⟨?_,h6,h7⟩;cases hrg2:s.rigid with
     |true=>rfl
     |false=>
      rcases D (by rw[hrg2];rfl)with h8|h8
      .simp[mD]at h8
      .cases t<;>simp[Ty.rigid]at h8<;>simp[bU.as]at J
   .obtain⟨bg,el,zs,w1,w2,w3⟩:=V.obj i _ J;refine⟨bg,el,zs,by rw[(ai k i v M E D).2];exact w1,fQ.mono (eY.mono cn e) _ _ w2,w3⟩
  .rcases aF i o d with ⟨rfl,rfl⟩|⟨k,i1,v,e,xs,E,D,rfl,J⟩<;>rcases aF j p l with ⟨rfl,rfl⟩|⟨k',i2,v',e',aH,al,an,rfl,aJ⟩
   .rfl
   .rw[(ai k' i2 v' j al an).2]at X;have:=V.inj id i2 _ _ b ab aJ (by simpa [I,dM.blk] using N) X;subst this;rw[ab]at aJ;cases aJ
   .rw[(ai k i1 v i E D).2]at N;have:=V.inj id i1 _ _ b ab J (by simpa [I,dM.blk] using X) N;subst this;rw[ab]at J;cases J
   .rw[(ai k i1 v i E D).2]at N;rw[(ai k' i2 v' j al an).2]at X;have:=V.inj i1 i2 _ _ b J aJ N X;subst this;have bi:k=k':=by
     have e1:(own.map (·.1))[k]? =a6 i1:=by rw[List.getElem?_map,E];rfl
     have e2:(own.map (·.1))[k']? =a6 i1:=by rw[List.getElem?_map,al];rfl
     exact(List.getElem?_inj (List.getElem?_eq_some_iff.1 e1).1 ax).1 (e1.trans e2.symm)
    subst bi;rw[D]at an;cases an;rfl
 obtain⟨us⟩:=us;cases us with
 |nil=>simp[bK]at hv
 |cons u0 us=>
 simp only[bK]at hv;obtain⟨bu,eL⟩:=hv;have eV:bK I (.ptr 0 0::Jz s.ps y) (u0::us):=by
  simp only[bK];refine⟨?_,LU s.ps y us (zH s.ps qs y us hy eL fun t v x u hm d l=>conv t v x u (fun i aj vw ad=> ?_) d l)⟩
  .simp only[bW]at bu ⊢;exact⟨bu.1,.inl ⟨_,by simp[I,eG];rfl⟩,fun t' fw _=>by simpa [I] using bu.2.2 _ _ ab⟩
  .subst ad;have eW:i∈lq qs:=Xw _ _ hm i (by simp[refs]);obtain⟨h6,h7⟩:=cu i (bF _ eW);refine⟨?_,h6,h7⟩;rcases ay with ay|ay
   .exact ay
   .have:=List.any_eq_false.1 ay _ hm;simp[mD]at this
 obtain⟨eZ,fa⟩:=hs W0 I x y z ex rfl rfl rfl ⟨u0::us⟩ eV hz;refine⟨eZ,fa.mono ?_⟩;rintro e w' ⟨O,cw,ao,rfl,rfl,av,bz,dc,fb,fc,aK,fd⟩
 let U:List (Nat×Nat):=own.map fun p=>(p.1,p.2+1)
 generalize aO:nZ s.cs ao=own1 at*
 let B:Cx:=⟨fun i=>if i=id then c.mu id else VO (own.map (·.1)) (own1.map (·.1)) O.mu c.mu i,iU (Ox (sO s.cs U z.1) c.hp) id (.box s.bt (GL s.cs U z.1)),c.nxt,O.w,c.mks,c.bar⟩
 have dd:own1.length=own.length:=by rw[<-aO,<-Xu s.cs ao aK 1,aX]
 have df:U.length=(nZ s.cs ao).length:=by rw[aO];simp[U,dd]
 have dl:(U.map (·.1))=own.map (·.1):=by simp[U,List.map_map,Function.comp_def]
 have fe:((sO s.cs U z.1).map (·.1)).Nodup:=List.Sublist.nodup (LJ s.cs U z.1) (by rw[dl];exact ax);have bC: ∀i,i∈(sO s.cs U z.1).map (·.1)->i∈own.map (·.1):=fun i A=>by
  have:=(LJ s.cs U z.1).subset A;rwa [dl]at this
 have aP: ∀(k i v:Nat),own[k]? =a6 (i,v)-> ∃(j w:Nat) (e:Ty) (xs:List e.den),own1[k]? =a6 (j,w)/\dQ O.hp j=a6 (.arr e w xs)/\dQ B.hp i=a6 (.arr e (v+1) xs)/\B.mu i=O.mu j/\(.list e,true)∈s.cs:=fun k i v hk=>by
  have ff:k<own1.length:=by rw[dd];exact(List.getElem?_eq_some_iff.1 hk).1
  obtain⟨⟨j,w⟩,hj⟩: ∃p,own1[k]? =a6 p:=⟨_,List.getElem?_eq_getElem ff⟩;have fg:U[k]? =a6 (i,v+1):=by simp[U,List.getElem?_map,hk]
  obtain⟨e,xs,d,l⟩:=ZJ s.cs ao U aK k j w i (v+1) (by rw[aO];exact hj) fg;obtain⟨k',i1,v1,v2,e',aH,E,D,Y,J,q5⟩:=Xk s.cs ao U aK df i _ l;have fh:i∈own.map (·.1):=List.mem_map.2 ⟨_,List.mem_of_getElem? hk,rfl⟩;have dp:id≠i:=fun e=>ch (e▸fh);obtain⟨e0,fi,h0⟩:=aB k i v hk;refine⟨j,w,e,xs,hj,d, ?_, ?_, ?_⟩
  .simp only[B];rw[jm,aq dp];exact DY _ _ _ _ fe l (by rw[h0];rfl)
  .simp only[B,aq (Ne.symm dp)];exact Ux _ _ k i j ax (by rw[List.getElem?_map,hk];rfl) (by rw[List.getElem?_map,hj];rfl)
  .cases Y;exact q5
 have bD:dQ B.hp id=a6 (.box s.bt (GL s.cs U z.1)):=by
  simp only[B];rw[jm,am rfl,nD _ _ _ fun h=>ch (bC id h),ab];rfl
 have aQ:B.mu id=c.mu id:=by simp[B]
 have ds:(O.mu 0).blk=(c.mu id).blk:=by rw[fb];simp[I]
 have aS: ∀(i:Nat) (Z:dM),S i->dQ B.hp i=a6 Z-> ∃j o1,dQ O.hp j=a6 o1/\o1.blk (O.mu j)=Z.blk (B.mu i)/\((i=id/\j=0/\o1=.box s.bt ao)\/ ∃(k v w:Nat),own[k]? =a6 (i,v)/\own1[k]? =a6 (j,w)/\ ∃(e:Ty) (xs:List e.den),o1=.arr e w xs):=fun i Z A q=>by
  rcases A with rfl|A
  .rw[bD]at q;cases q;exact⟨0,_,dc,by simp[dM.blk,aQ,ds],.inl ⟨rfl,rfl,rfl⟩⟩
  .obtain⟨p,W,rfl⟩:=List.mem_map.1 A;obtain⟨k,hk⟩:=az p W;obtain⟨j,w,e,xs,E,D,Y,J,_⟩:=aP k p.1 p.2 hk;rw[Y]at q;cases q;exact⟨j,_,D,by simp only[dM.blk];rw[J],.inr ⟨k,p.2,w,hk,E,e,xs,rfl⟩⟩
 have dT: ∀b,b<c.w.heap.size-> ¬aA b->O.out b/\O.w.heap[b]? =c.w.heap[b]? :=fun b G hn=>bz.out b ⟨G,fun q=>hn (aG b q),by simp[I]⟩;obtain⟨ea,fj⟩:=Cx.many (c2:=B) V S rfl rfl rfl (fun i A=>by
   have d:i≠id:=fun e=>A (.inl e);have l:i∉own.map (·.1):=fun e=>A (.inr e);refine⟨?_,by simp only[B,aq d];exact Uy _ _ _ l⟩;simp only[B];rw[jm,aq (Ne.symm d),nD _ _ _ fun h=>l (bC i h)])
  (fun i A=>by
   rcases A with rfl|A
   .exact⟨_,_,ab,bD,by simp[dM.like,aQ],by simp⟩
   .obtain⟨p,W,rfl⟩:=List.mem_map.1 A;obtain⟨k,hk⟩:=az p W;obtain⟨j,w,e,xs,E,D,Y,J,_⟩:=aP k p.1 p.2 hk;obtain⟨e0,fi,h0⟩:=aB k p.1 p.2 hk;exact⟨_,_,h0,Y,⟨by omega,fun e=>by omega⟩,by simp⟩)
  av.bel bz.size (fun b G hn=>(dT b G fun⟨i,o,d,l,N⟩=>hn i o d l N).2)
  (fun i Z b A q G=>by
   by_cases hlt:b<c.w.heap.size
   .right;refine Classical.byContradiction fun hn=> ?_;obtain⟨j,o1,d,l,_⟩:=aS i Z A q;exact(dT b hlt fun⟨j,o,N,X,h5⟩=>hn ⟨j,o,N,X,h5⟩).1.2.1 ⟨j,o1,d,l.trans G⟩
   .left;omega)
  (fun i M Z p' b A fk q W G fl=>by
   obtain⟨j,o1,d,l,N⟩:=aS i Z A q;obtain⟨j',fm,aw,aU,ee⟩:=aS M p' fk W;have hj:=av.inj j j' o1 fm b d aw (l.trans G) (aU.trans fl);subst hj;rw[d]at aw;cases aw;rcases N with ⟨rfl,rfl,rfl⟩|⟨k,v,w,E,D,e,xs,rfl⟩
   .rcases ee with ⟨rfl,_⟩|⟨k',v',w',al,an,e',aH,he⟩
    .rfl
    .cases he
   .rcases ee with ⟨_,_,he⟩|⟨k',v',w',al,an,e',aH,he⟩
    .cases he
    .have bi:k=k':=by
      have e1:(own1.map (·.1))[k]? =a6 j:=by rw[List.getElem?_map,D];rfl
      have e2:(own1.map (·.1))[k']? =a6 j:=by rw[List.getElem?_map,an];rfl
      exact(List.getElem?_inj (List.getElem?_eq_some_iff.1 e1).1 fc).1 (e1.trans e2.symm)
     subst bi;rw[E]at al;cases al;rfl)
  (fun b L i o A q G=>by
   obtain⟨o2,d,l⟩:=et i A;rw[q]at d;cases d;exact(V.obj i o q).no_loop l G)
 have bG:s.rigid=true\/ ∀b,O.free b->B.free b:=by
  cases hrg2:s.rigid with
  |true=>exact .inl rfl
  |false=>
   right;intro b G;have bH: ∀b,b<c.w.heap.size-> ¬c.free b-> ¬aA b-> ¬O.free b:=fun b d l N hf=>hf.2.2.2 (by rw[bz.bar];exact⟨hrg2,d,l,N⟩);refine⟨G.1, ?_,fun hm=> ?_,fun hm=> ?_⟩
   .rintro ⟨i,Z,d,l⟩;by_cases A:S i
    .obtain⟨j,o1,N,X,_⟩:=aS i Z A d;exact G.2.1 ⟨j,o1,N,X.trans l⟩
    .have aw:i≠id:=fun e=>A (.inl e);have aU:i∉own.map (·.1):=fun e=>A (.inr e);simp only[B]at d l;rw[jm,aq (Ne.symm aw),nD _ _ _ fun h=>aU (bC i h)]at d;rw[aq aw,Uy _ _ _ aU]at l;refine bH b ((V.obj i Z d).lt l).2 (fun hf=>hf.2.1 ⟨i,Z,d,l⟩) ?_ G;rintro ⟨j,o,hj,N,X⟩;have:=V.inj i j Z o b d N l X;subst this;exact A hj
   .exact bH b (V.mark_lt hm) (fun hf=>hf.2.2.1 hm) (fun q=>V.mark_own hm (aW b q)) G
   .exact bH b (V.bar b hm).1 (fun hf=>hf.2.2.2 hm) (fun q=>(V.bar b hm).2.1 (aW b q)) G
 have cc:s.rigid=true->(∀p∈s.cs,p.1.rigid=true\/p.2=true/\p.1.elem.rigid=true)/\s.rs.all Ty.rigid=true:=fun h=>by
  simp only[fF.rigid,af]at h;exact⟨fun p W=>by have:=List.all_eq_true.1 h.1 p W;simpa using this,h.2⟩
 have fo:B.Ok W0:=fj fun i Z A q=>by
  rcases A with rfl|A
  .rw[bD]at q;cases q;obtain⟨fx,em,fp,fq,fs⟩:=av.obj 0 _ dc;refine⟨by rw[aQ];exact hB,em,by rw[aQ,<-ds];exact fp, ?_,fs⟩;refine ac8 s.cs ao U em.toList aK fq df (fun k j w i v E D e xs Y=> ?_) fun t v x u E D Y J q5=> ?_
   .rw[aO]at E;have hk: ∃v0,own[k]? =a6 (i,v0)/\v=v0+1:=by
     simp only[U,List.getElem?_map,Option.map_eq_some_iff]at D;obtain⟨p,ft,fu⟩:=D;cases fu;exact⟨p.2,ft,rfl⟩
    obtain⟨v0,hk,rfl⟩:=hk;obtain⟨j',w',e',aH,p1,p2,p3,p4,_⟩:=aP k i v0 hk;rw[E]at p1;cases p1;rw[Y]at p2;cases p2;exact⟨p3,by rw[p4]⟩
   .rcases bG with hf|hf
    .have ht:t.rigid=true:=by
      rcases(cc hf).1 (t,false) E with h|h
      .exact h
      .cases h.1
     cases q:mD v with
     |false=>exact VD.move (c':=O) (c2:=B) rfl (.inr ht) (Jn (cb:=O) (fun b G=>⟨G,rfl⟩) q J q5)
     |true=>
      refine VD.move (c':=O) (c2:=B) rfl (.inr ht) (af9 (cb:=O) av (fun b G=>⟨G,rfl⟩) (fun i aj vw ad=> ?_) J q5);subst ad;cases t<;>simp[Ty.rigid]at ht<;>simp[bU.as]at J
    .refine VD.move (c':=O) (c2:=B) rfl (.inl hf) (af9 (cb:=O) av (fun b G=>⟨G,rfl⟩) (fun i aj vw ad=> ?_) J q5);subst ad;rcases D rfl with h8|h8
     .simp[mD]at h8
     .cases t<;>simp[Ty.rigid]at h8<;>simp[bU.as]at J
  .obtain⟨p,W,rfl⟩:=List.mem_map.1 A;obtain⟨k,hk⟩:=az p W;obtain⟨j,w,e,xs,E,D,Y,J,q5⟩:=aP k p.1 p.2 hk;rw[Y]at q;cases q;obtain⟨bg,el,zs,w1,w2,w3⟩:=av.obj j _ D;refine⟨bg,el,zs,by rw[J];exact w1,fQ.move (c':=O) (c2:=B) rfl ?_ w2,w3⟩;rcases bG with hf|hf
   .right;rcases(cc hf).1 _ q5 with h|h
    .simp[Ty.rigid]at h
    .exact h.2
   .exact .inl hf
 have hd:AU W0 c st B {st with hp:=iU (Ox (sO s.cs U z.1) st.hp) id (.box s.bt (GL s.cs U z.1))}:=⟨by simp[B,hr.hp],hr.nxt,rfl,rfl,fo,ea⟩;exact hR B _ _ _ h (hr.did hd) (Ak (LU s.rs z.2 cw (oJ.move (c':=O) (c2:=B) rfl s.rs z.2 cw (bG.symm.imp (fun h=>h) fun h=>(cc h).2) fd))) ea.mono
theorem adp {cl:Bool}: ∀(cs:List (Ty×Bool)) (n:Nat) (cells:List bU) (st:St) (K:List bU->St->Option R),rF cl n cs cells st K=a6 r-> ∀(c:Cx) (vs:List Value),c.Ok W0->c.hp=st.hp->c.nxt=st.nxt->bK c cells vs->
  ∃c' d f,AU W0 c st c' d/\c'.w=c.w/\bK c' f vs/\K f d=a6 r/\ ∀i o,dQ st.hp i=a6 o->dQ d.hp i=a6 o:=by
 have plain: ∀(cells:List bU) (st:St) (K:List bU->St->Option R),K cells st=a6 r-> ∀(c:Cx) (vs:List Value),c.Ok W0->c.hp=st.hp->c.nxt=st.nxt->bK c cells vs->
   ∃c' d f,AU W0 c st c' d/\c'.w=c.w/\bK c' f vs/\K f d=a6 r/\ ∀i o,dQ st.hp i=a6 o->dQ d.hp i=a6 o:=
  fun cells st K h c vs j p q g=>⟨c,st,cells,AU.refl j p q,rfl,g,h,fun i o h=>h⟩
 intro cs
 induction cs with
 |nil=>intro n cells st K h;cases cells<;>exact plain _ st K h
 |cons tc cs G=>
  intro n cells st K h c vs j p q g;cases cells with
  |nil=>exact plain _ st K (by obtain⟨t,o⟩:=tc;cases o<;>cases t<;>simpa only[rF] using h) c vs j p q g
  |cons v cells=>
   cases vs with
   |nil=>simp[bK]at g
   |cons u vs=>
    have x:rF cl (n+1) cs cells st (fun l st=>K (v::l) st)=a6 r-> ∃c' d f,AU W0 c st c' d/\c'.w=c.w/\bK c' f (u::vs)/\K f d=a6 r/\ ∀i o,dQ st.hp i=a6 o->dQ d.hp i=a6 o:=fun h=>by
     simp only[bK]at g;obtain⟨c',d,f,hd,z,A,B,hp⟩:=G (n+1) cells st _ h c vs j p q g.2;exact⟨c',d,v::f,hd,z,by simp only[bK];exact⟨bW.le hd.le _ _ g.1,A⟩,B,hp⟩
    obtain⟨t,o⟩:=tc;cases o with
    |false=>exact x (by simpa only[rF] using h)
    |true=>
     cases t with
     |list e=>
      cases v with
      |nils=>
       simp only[rF]at h;replace h:=dG h;obtain⟨D,h⟩:=h;have D:0<e.size:=by simpa [PD] using D
       obtain⟨id,U,I,L,M,h⟩:=ji h;simp only[bK]at g;have J:=g.1;simp only[bW]at J;subst J;obtain⟨N,s,O,S⟩:=qm j p q I L M (y:=e) D (xs:=[]) (v:=.slice a7 0 0) (w:=c.w) (Below.refl _ _) mP [] ⟨by simp,.inl ⟨rfl,rfl⟩⟩ (by simp[fQ]) rfl (fun _=>rfl);obtain⟨c',d,f,hd,z,A,B,hp⟩:=G (n+1) cells _ _ h N vs s.ok s.hp s.nxt (bK.le s.le _ _ g.2);refine⟨c',d,.slc id 0 a7::f,s.trans hd,z.trans O,by simp only[bK];exact⟨bW.le hd.le _ _ S,A⟩,B,fun i o E=>hp i o ?_⟩;have:id≠i:=fun e=>by subst e;rw[I]at E;cases E
       simp only[eG,aq this];exact E
      |_=>exact x (by simpa only[rF] using h)
     |_=>exact x (by simpa only[rF] using h)
theorem aHi {g:FuncId} {s:fF} (V:dL P g s) (cl:Bool) (n:Nat):lV (R:=R) P W0 n (NZ g s cl):=by
 intro b0 rd W X ay st K r h c a ats az i hr G Y o next Q Z
 cases W with
 |fn g' ab=>
  simp only[NZ]at h;split at h
  .rename_i hg
   subst hg;simp only[bW]at G;obtain⟨j,rfl,ad⟩:=G;have I:=bK.append_arr Y ad;have ag: ∀p:Ending->World->Prop,(∀d z u f,K z f=a6 r->iM W0 b0 rd d f a ats->bW d z u->c.Mono d->p (.returned u) d.w)->
     (callFunc g' (i++j)).run P c.w=.ok (.enter g' (i++j)) c.w/\Calls P g' (i++j) c.w p:=by
    intro p ai;generalize X++ab=al at h I;unfold fF.call at h;split at h<;>try (cases h;done)
    rename_i id qs
    split at h<;>try (cases h;done)
    rename_i t cells q
    rw[cond_eq_ite]at h;split at h
    .rw[<-hr.hp]at q;obtain⟨hB,J,hw,aj,an⟩:=hr.ok.obj id _ q;obtain⟨d,f,x,hd,aA,ao,hK,M⟩:=adp s.cs _ cells st _ h c J.toList hr.ok hr.hp hr.nxt aj;have l:=hr.did hd;have A:dQ d.hp id=a6 (.box t cells):=by rw[l.hp];exact M id _ (by rw[<-hr.hp];exact q)
     obtain⟨o1,y,B⟩:=hd.le.obj id _ (.inl ⟨_,q⟩) A;rw[q]at y;cases y;simp only[dM.like]at B;have N:dM.like (.box t cells) (d.mu id) (.box t x) (d.mu id):=rfl;have O: ∀b,(dM.box t x).blk (d.mu id)=a6 b->(dM.box t cells).blk (d.mu id)=a6 b\/d.w.heap.size<=b:=fun b hb=>.inl hb;have S: ∀(b:Nat) (L:Loop),(dM.box t cells).blk (d.mu id)=a6 b->d.w.heap[b]? =a6 (Obj.loop L)-> ∃L':Loop,d.w.heap[b]? =a6 (Obj.loop L'):=fun b L _ hL=>⟨L,hL⟩;have U:=Cx.Le.put (w:=d.w) l.ok A N (ae _) (fun b _ _=>rfl) O S;have av:AU W0 d f (d.put id (.box t x) (d.mu id) d.w) {f with hp:=iU f.hp id (.box t x)}:=by
      refine⟨by simp only[Cx.put];rw[l.hp],l.nxt,rfl,rfl,Cx.Ok.put l.ok A N l.ok.bel (ae _) (fun b _ _=>rfl) O S ?_,U⟩;refine⟨by simp_all [Cx.put,upd_same],J,by simp_all [Cx.put,upd_same],bK.le U _ _ ao,an⟩
     have D:=hd.trans av;have hG:=aJw V hK (hr.did D) (bK.le D.le _ _ I) p fun c3 z u aw k1 k2 k3 k4=>ai c3 z u aw k1 k2 k3 (D.le.mono.trans k4);change (callFunc g' (i++j)).run P d.w=.ok (.enter g' (i++j)) d.w/\Calls P g' (i++j) d.w p at hG;simp_all
    grind [aJw]
   obtain⟨y,B⟩:=ag (fun e E=>match e with
     |.returned v=>next (a.put o.dst v) E
     |.panicked ax=>Q (.panic ax) a E
     |.outgrown=>LetsOut Q) (fun d z u f k1 k2 k3 k4=>Z d z u f k1 k2 k3 k4)
   rw[nT,y];exact⟨oK rd,(sS B).mono fun e E he=>by cases e<;>exact he⟩
  .cases h
 |_=>simp[NZ]at h
end
end
section
open Option renaming some → a6, none → a7
open Bool renaming and_eq_true → af
open List renaming length_cons → aG, all_cons → aW
open Nat renaming le_trans → aI, lt_of_lt_of_le → aZ
open Go.RowKit
section
variable {P:Program} {T:TT} {W0:World} {b0:Nat} {rd:Option Nat} {R:Type} {r:R} {c:Cx} {ats:List (Array Value)}
theorem aKM {g:FuncId} {s:Sum} (hs:dR P g s) (cl:Bool) (n:Nat):lV (R:=R) P W0 n (EX g s cl):=by
 intro b0 rd fv aP aQ st K r h c a ats aS Z hr ab ak o next Q hn
 cases fv with
 |fn g' aU=>
  simp only[EX]at h;split at h
  .rename_i hg
   subst hg;simp only[bW]at ab;obtain⟨vs,rfl,al⟩:=ab;have ad:=bK.append_arr ak al;obtain⟨G,x,y,J,hy,z⟩:=afO h;rw[<-hr.hp]at J;obtain⟨q,an,ao,au⟩: ∃q:Nat->Prop,(∀b,q b->b<c.w.heap.size)/\oJ (jS c.w q) s.ps x (Z++vs).toList/\
     ((s.rs.all fun r=>r.1.rigid||(r.2&&r.1.elem.rigid))=true\/q=fun b=>b<c.w.heap.size/\ ¬c.free b):=by
    rcases G with G|G
    .refine⟨fun _=>False,fun b h=>h.elim,zH s.ps _ x _ J ad fun t v x u _ L z=>aiQ hr.ok (fun b f=>⟨Ih.2 ⟨f,fun h=>h⟩,rfl⟩) L z,.inl G⟩
    .refine⟨fun b=>b<c.w.heap.size/\ ¬c.free b,fun b h=>h.1,zH s.ps _ x _ J ad fun t v x u hm L z=>Jn (fun b f=>⟨Ih.2 ⟨f.1,fun h=>h.2 f⟩,rfl⟩) ?_ L z,.inr rfl⟩
     grind
   have av: ∀e A,uB c.w q s.rs y e A->(match e with
     |.returned v=>next (a.put o.dst v) A
     |.panicked aw=>Q (.panic aw) a A
     |.outgrown=>LetsOut Q):= ?_
   .rw[nT];rcases hs c.w q (Z++vs) x y hr.ok.phiw an ao hy with ⟨M,N⟩|⟨u,M,N⟩
    .rw[M];exact⟨oK rd,(sS N).mono fun e A he=>by
      grind⟩
    .rw[M];exact av (.returned u) c.w N
   rintro e A ⟨d,us,rfl,rfl,O,ax,aV,aX,S⟩;simp only;have B:GK c d.w:=O.bel;have ae: ∀(p:Cx),p.w=d.w->(∀b,(c.at_ d.w).free b->d.free b->p.free b)->((s.rs.all fun r=>r.1.rigid||(r.2&&r.1.elem.rigid))=true\/ ∀b,d.free b->p.free b):=fun p hw hf=>by
    rcases au with U|U
    .exact .inl U
    .right;intro b f;exact hf b (ax4 hr.ok O (ax.trans U) f) f
   rcases z with ⟨aY,ag,V⟩|⟨e,xs,id,i,bd,ag,h5,h6,h7,V⟩
   .have ay:=hr.ext B;refine hn (c.at_ d.w) _ _ _ V ay (Ak ?_) (Cx.Le.ext B).mono;refine GI (c':=d) (c2:=c.at_ d.w) rfl 0 s.rs y us (fun t ht=> ?_) (.inl ag) S;rcases ae (c.at_ d.w) rfl (fun b h _=>h)with h8|h8
    all_goals grind
   .have az:=O.obj 0 (.arr e 0 xs) (by simp_all [F5,eG]);obtain⟨aA,el,zs,W,hL,aB⟩:=az;have hk:=Ae hr.hp hr.nxt h5 h6;obtain⟨u0,ah⟩:=afS s.rs y us (by omega) S;simp only[bW]at ah;have X:dQ d.hp 0=a6 (.arr e 0 xs):=by simp_all [F5,eG]
    have aF:(d.mu 0).v.oneCell'=true:=by
     have:=(ah.2.2 _ _ _ X).2 rfl;simp_all [ja]
    have hl: ∀b,dM.blk (.arr e 0 xs) ⟨0,(d.mu 0).v⟩=a6 b->c.w.heap.size<=b:=fun b f=>(World.ownsRow.lt W b f).1;have ai:=Cx.Le.push (o:=.arr e 0 xs) (l:=⟨0,(d.mu 0).v⟩) (nxt:=i) (w:=d.w) hk (by rw[hr.nxt];exact h7) B.size B.block hl;have bf:=ae (c.push id (.arr e 0 xs) ⟨0,(d.mu 0).v⟩ i d.w) rfl (fun b Y aH=>⟨Y.1,(by
     rintro ⟨j,o,I,D⟩;simp only[Cx.push,eG]at I D;split at I
     .rename_i E
      subst E;cases I;rw[upd_same]at D;exact aH.2.1 ⟨0,_,X,D⟩
     .rename_i E
      rw[upd_ne _ _ (Ne.symm E)]at D;exact Y.2.1 ⟨j,o,I,D⟩),Y.2.2⟩)
    have bg:d.w.ownsRow W0.heap.size el e.size (d.mu 0).v xs.length zs:=by
     refine⟨W.1, ?_⟩;rcases W.2 with h|⟨g,aJ,aK,E,e2,e3⟩
     .exact .inl h
     .exact .inr ⟨g,aJ,aK,E,aI hr.ok.size e2,e3⟩
    have ho:(c.push id (.arr e 0 xs) ⟨0,(d.mu 0).v⟩ i d.w).ORel W0.heap.size id (.arr e 0 xs):=by
     refine⟨aA,el,zs,by simp_all [Cx.push,upd_same],fQ.move (c':=d) (c2:=c.push id (.arr e 0 xs) ⟨0,(d.mu 0).v⟩ i d.w) rfl ?_ hL,aB⟩
     grind [OT]
    have aO:=hr.ok.push hk (by rw[hr.nxt];exact h7) B hl ho;have hd:AU W0 c st (c.push id (.arr e 0 xs) ⟨0,(d.mu 0).v⟩ i d.w) {st with hp:=(id,.arr e 0 xs)::st.hp,nxt:=i}:=⟨by simp[Cx.push,hr.hp],rfl,rfl,rfl,aO,ai⟩;refine hn (c.push id (.arr e 0 xs) ⟨0,(d.mu 0).v⟩ i d.w) _ _ _ V (hr.did hd) (Ak ?_) ai.mono;refine GI (c':=d) (c2:=c.push id (.arr e 0 xs) ⟨0,(d.mu 0).v⟩ i d.w) rfl id s.rs y us (fun t ht=> ?_) (.inr fun u hu=> ?_) S
    .grind
    .simp only[bW]at hu ⊢;have aj:=(hu.2.2 _ _ _ X).2 rfl;simp only[ja]at aj;subst aj;refine⟨aF,.inl ⟨.arr e 0 xs,by simp[Cx.push,eG]⟩,fun t u bi h=> ?_⟩;simp_all [Cx.push,ja,upd_same]
  .cases h
 |_=>simp[EX]at h
theorem TV: ∀(rs:List (Ty×Bool)),(rs.all fun r=> !r.2&&r.1.rigid)=true->news rs=0
 |[],_=>rfl
 |(t,true)::rs,h=>by simp at h
 |(t,false)::rs,h=>by
  simp only[aW,af]at h;exact TV rs h.2
theorem aKL {g:FuncId} {s:Sum} (G:dR P g s) (cl:Bool) (I:(s.rs.all fun r=> !r.2&&r.1.rigid)=true):mV (R:=R) P (EX g s cl):=by
 intro W0 b0 rd J ab ad st K r h c a ats ae f hr z L;cases J with
 |fn g' ag=>
  simp only[EX]at h;split at h
  .rename_i M
   subst M;simp only[bW]at z;obtain⟨i,rfl,N⟩:=z;have O:=bK.append_arr L N;obtain⟨hc,x,y,A,S,j⟩:=afO h;rw[<-hr.hp]at A;rcases j with ⟨ah,U,V⟩|⟨e,xs,id,n',ai,U,_⟩
   .have l:=Uz _ (Jb 0 s.rs y I);refine⟨_,rv (Nu (oh 0 s.rs y)),V,(I4 l _).2 rfl,fun B d=> ?_⟩;have W:oJ (jS B fun _=>False) s.ps x (f++i).toList:=zH s.ps _ x _ A O fun t v x u _ X j=>aiQ hr.ok (fun b D=>⟨Ih.2 ⟨aZ D d.size,fun h=>h⟩,d.block b D⟩) X j;rcases G B (fun _=>False) (f++i) x y (Yd.below d hr.ok.phiw) (fun b h=>h.elim) W S with ⟨o,p⟩|⟨u,o,p⟩
    .refine .inl ⟨g',f++i,by rw[nT,o],p.mono ?_⟩;rintro e aj ⟨Y,us,rfl,rfl,E,ak,al,an,q⟩;exact⟨by rw[(I4 l _).1 (Ak q)],d.trans (E.bel.mono d.size)⟩
    .obtain⟨Y,us,Z,_,E,_,_,_,q⟩:=p;cases Z;right;rw[nT,o,(I4 l _).1 (Ak q)]
   simp_all [TV]
  .cases h
 |_=>simp[EX]at h
theorem aBw {E:Env} (hT:TOk P E.T) (hb: ∀g,(E.bf g=true->xx P E.em g)/\(E.il g=true->Ji P g)/\(E.sl g=true->Jl P g E.sc)) (h: ∀g s,E.sg g=a6 s->dR P g s) (hx: ∀g s,E.sb g=a6 s->dL P g s):vW P E:=
 ⟨hT,fun R W0 n g s d=>aHi (hx g s d) E.cl n,hb,fun R W0 n g s d=>aKM (h g s d) E.cl n,fun R g s d e=>aKL (h g s d) E.cl e⟩
def Ff:(d:List Ty)->(d.foldr Ty.pair Ty.unit).den->List bU
 |[],_=>[]
 |t::d,x=>.val t x.1::Ff d x.2
def frozen (hp:gQ):bU->bU
 |.val t x=>.val t x
 |.nils=>.nils
 |.slc id ver d=>match dQ hp id with
  |some (.arr e v xs)=>bif v==ver then .val (.list e) (acS xs d)else .undef
  |_=>.undef
 |_=>.undef
def bU.asR (hp:gQ) (own:Bool) (t:Ty) (v:bU):Option t.den:=bif own then v.as hp t else match v with
 |.agg l=>bif t.isAgg then Hm t (l.map (frozen hp))else a7
 |v=>v.as hp t
def jc (own:Bool):(rs:List (Ty×Bool))->List bU->gQ->Option ((rs.map (·.1)).foldr Ty.pair Ty.unit).den
 |[],[],_=>a6 ()
 |(t,false)::rs,v::l,d=>match(bif own&&(mD v&& !t.rigid)then a7 else v.asR d own t),jc own rs l d with
  |some x,a6 y=>a6 (x,y)
  |_,_=>a7
 |(.list e,true)::rs,.slc id ver a7::l,d=>match dQ d id with
  |some (.arr t u xs)=>bif u==ver then(match jE (.list e) (t':=.list t) xs,jc own rs l d with
   |some x,a6 y=>a6 (x,y)
   |_,_=>a7)else a7
  |_=>a7
 |_,_,_=>a7
def zo (n:Nat) (v:bU):List bU:=
 match n,v with
 |1,v=>[v]
 |_,.tup l=>l
 |_,_=>[.undef]
def UB (E:Env) (g:FuncId) (d:List Ty) (rs:List (Ty×Bool)) (x:(d.foldr Ty.pair Ty.unit).den):Option ((rs.map (·.1)).foldr Ty.pair Ty.unit).den:=
 kH E 1000000 (.call g (Ff d x)) ⟨[],[],[],0⟩ fun v st=>jc (!Nat.beq (news rs) 0) rs (zo rs.length v) st.hp
theorem Ob: ∀(d:List Ty) x (us:List Value),oJ c d x us->bK c (Ff d x) us
 |[],x,us,h=>by
  simp_all [oJ,Ff,bK]
 |t::d,x,us,h=>by
  obtain⟨u,e,rfl,f,g⟩:=h;simp only[Ff,bK,bW];exact⟨f,Ob d x.2 e g⟩
theorem uY {own:Bool}: ∀(rs:List (Ty×Bool)) (l:List bU) {hp:gQ},(jc own rs l hp).isSome=true->l.length=rs.length
 |[],[],_,_=>rfl
 |[],_::_,_,h=>by simp[jc]at h
 |(t,false)::rs,[],_,h=>by simp[jc]at h
 |(t,false)::rs,v::l,hp,h=>by
  simp only[jc]at h;split at h
  .rename_i d
   simp[uY rs l (hp:=hp) (by rw[d];rfl)]
  .cases h
 |(t,true)::rs,[],_,h=>by simp_all [jc]
 |(t,true)::rs,v::l,hp,h=>by
  cases t with
  |list e=>
   cases v with
   |slc id ver f=>
    cases f with
    |none=>
     simp only[jc]at h;split at h
     .rw[cond_eq_ite]at h;split at h
      .split at h
       .rename_i d
        simp[uY rs l (hp:=hp) (by rw[d];rfl)]
       .cases h
      .cases h
     .cases h
    |some p=>simp[jc]at h
   |_=>simp[jc]at h
  |_=>simp[jc]at h
theorem KL {own:Bool} {v:bU} {u:Value} {rs:List (Ty×Bool)} {hp:gQ} (h:(jc own rs (zo rs.length v) hp).isSome=true) (d:bW c v u): ∃us,u=IW us/\bK c (zo rs.length v) us:=by
 match rs,h with
 |[t],h=>exact⟨[u],rfl,by simpa [zo,bK] using d⟩
 |[],h=>
  cases v with
  |tup l=>
   simp only[List.length_nil,zo]at h ⊢;cases l with
   |nil=>
    simp only[bW]at d;obtain⟨e,rfl,f⟩:=d;have:e= #[]:=by
     have:=bK.length _ _ f
     grind
    subst this;exact⟨[],rfl,by simp[bK]⟩
   |cons _ _=>simp[jc]at h
  |_=>simp[zo,jc]at h
 |g::i::rs,h=>
  cases v with
  |tup l=>
   simp only[bW]at d;obtain⟨e,rfl,f⟩:=d;have hl:=bK.length _ _ f;have o:l.length=(g::i::rs).length:=uY _ _ h;simp only[aG,zo];refine⟨e.toList, ?_,f⟩;cases hvs:e.toList with
   |nil=>simp_all
   |cons v1 j=>
    cases j with
    |nil=>simp_all
    |cons v2 p=>simp only[IW];rw[<-hvs]
  |_=>
   exfalso;have:=uY _ _ h;simp[zo]at this
end
end
section
open Option renaming some → a6, none → a7
open Bool renaming and_eq_true → af, and_true → ay, not_false → az
open List renaming map_cons → au
open Nat renaming le_refl → ae, eq_of_beq_eq_true → ah
open Go.RowKit
structure eF (E:Env):Prop where
 T:TOk E.P E.T
 m:E.P.follows .mixedOrders=true
 ng:Jj E.P
 S: ∀g s,E.sg g=a6 s->dR E.P g s
 L:rE E.P E
 R:af5 E
 B: ∀g,(E.bf g=true->xx E.P E.em g)/\(E.il g=true->Ji E.P g)/\(E.sl g=true->Jl E.P g E.sc)
 X: ∀g s,E.sb g=a6 s->dL E.P g s
def aL3 (rs:List (Ty×Bool)):Bool:=Nat.ble (news rs) 1&&rs.all fun r=> !r.2||(match r.1 with|.list e=>Nat.blt 0 e.size|_=>false)
section
variable {P:Program} {T:TT} {W0:World} {b0:Nat} {rd:Option Nat} {R:Type} {r:R} {c:Cx} {ats:List (Array Value)}
theorem wz {E:Env} (h:eF E) (m:Nat) (R:Type) (W0:World):uA E.P W0 (kH E m (R:=R)):=
 (Ip h.T h.m h.ng rfl rfl (aBw h.T h.B h.S h.X) h.L h.R m R W0).1
theorem qL {w:World} {d:Nat->Prop} (e:Yd w) (hb: ∀b,d b->b<w.heap.size):iM w 0 a7 (jS w d) ⟨[],[],[],0⟩ ⟨#[],[]⟩ []:=
 ⟨rfl,rfl,⟨Below.refl _ _,fun id o h=>by simp[jS,dQ]at h,fun i j o p b h=>by simp[jS,dQ]at h,fun r hr=>by simp[jS]at hr,fun b h=>⟨hb b h,(by rintro ⟨i,o,h,_⟩;simp[jS,dQ]at h),by simp[jS]⟩,e⟩,by simp[jS,bK],trivial,⟨[],rfl,List.nodup_nil,fun r hr=>by simp at hr⟩,fun l hl=>by cases hl⟩
theorem abW {own:Bool} {c':Cx} (o:c'.w=c.w) (hf: ∀b,c.free b->c'.free b) (z:own=false-> ∀b,b<c.w.heap.size-> ¬c.bar b->c'.free b) {t:Ty} {v:bU} {x:t.den} {u:Value} (y:c.Ok W0)
  (h:(bif own&&(mD v&& !t.rigid)then a7 else v.asR c.hp own t)=a6 x) (d:bW c v u):VD c' t x u:=by
 have p: ∀b,c.free b->c'.free b/\c'.w.heap[b]? =c.w.heap[b]? :=fun b A=>⟨hf b A,by rw[o]⟩;rw[cond_eq_ite]at h;split at h
 .cases h
 rename_i U
 have B: ∀{id g i} {u:Value} {e:Ty} {x:List e.den},own=false->(bU.slc id g i).as c.hp (.list e)=a6 x->bW c (.slc id g i) u->VD c' (.list e) x u:=fun {id g i u e x} D h d=>by
  obtain⟨a,cp,E,j,q,G⟩:=UL y h d;have I:=ab6 y h d j;exact(VD.leaf rfl).2 ⟨a,cp,E,by rw[j],I,fQ.mono (eY.mono p e) _ _ q,G.imp (fun h=>h) fun⟨b,J,K,L,M,N⟩=>⟨b,J,K,z D b L M,N.of_block (by rw[o])⟩⟩
 cases own with
 |true=>
  have h:v.as c.hp t=a6 x:=h;cases ho:mD v with
  |false=>exact Jn p ho h d
  |true=>
   cases v with
   |slc id g i=>
    cases t with
    |list e=>grind [Ty.rigid]
    |_=>simp[bU.as]at h
   |agg l=>
    simp only[bU.as]at h;rw[cond_eq_ite]at h;split at h
    .rename_i s
     simp only[bW]at d;obtain⟨f,rfl,j,q⟩:=d;exact VD.move o (.inl hf) ((VD.agg s).2 ⟨f,rfl,nV h j⟩)
    .cases h
   |_=>simp[mD]at ho
 |false=>
  cases v with
  |slc id g i=>
   have h:(bU.slc id g i).as c.hp t=a6 x:=h;cases t with
   |list e=>grind
   |_=>simp[bU.as]at h
  |agg l=>
   have h:(bif t.isAgg then Hm t (l.map (frozen c.hp))else a7)=a6 x:=h;obtain⟨s,h⟩:=dG h;simp only[bW]at d;obtain⟨f,rfl,j,q⟩:=d;have O: ∀(l:List bU) (f:List Value),bK c l f->bK c' (l.map (frozen c.hp)) f:=by
    intro l
    induction l with
    |nil=>grind [bK]
    |cons v l S=>intro f h;cases f with
     |nil=>simp[bK]at h
     |cons u f=>
      simp only[bK,au]at h ⊢;refine⟨?_,S f h.2⟩;have d:=h.1;cases v with
      |val t x=>
       grind [frozen,bW,VD.move]
      |nils=>assumption
      |slc id g i=>
       simp only[frozen];split
       .rename_i e v xs V
        rw[cond_eq_ite];split
        .rename_i W
         simp only[bW];refine B rfl ?_ d;simp_all [bU.as,Bf,gp]
        .simp[bW]
       .simp[bW]
      |_=>simp[frozen,bW]
   exact(VD.agg s).2 ⟨f,rfl,nV h (O l _ j)⟩
  |_=>
   simp only[bU.asR,ac]at h;exact Jn p rfl h d
theorem abV {own:Bool} {c':Cx} (f:c.Ok W0) (g:c'.w=c.w) (hf: ∀b,c.free b->c'.free b) (i:own=false-> ∀b,b<c.w.heap.size-> ¬c.bar b->c'.free b): ∀(rs:List (Ty×Bool)) (l:List bU) (y) (us:List Value),jc own rs l c.hp=a6 y->news rs=0->bK c l us->bK c' (oh 0 rs y) us
 |[],[],y,[],_,_,_=>by simp[oh,bK]
 |[],[],_,_::_,_,_,d=>by simp[bK]at d
 |[],_::_,_,_,h,_,_=>by simp[jc]at h
 |(t,true)::rs,_,_,_,_,e,_=>by simp[news]at e
 |(t,false)::rs,[],_,_,h,_,_=>by simp[jc]at h
 |(t,false)::rs,v::l,y,[],h,_,d=>by simp[bK]at d
 |(t,false)::rs,v::l,y,u::us,h,e,d=>by
  simp only[jc]at h;split at h
  .rename_i x j o p
   cases h;simp only[bK]at d;simp only[oh,bK,bW];exact⟨abW g hf i f o d.1,abV f g hf i rs l j us p (by simpa [news] using e) d.2⟩
  .cases h
theorem alA (z:c.Ok W0): ∀(rs:List (Ty×Bool)) (l:List bU) (y) (us:List Value),jc true rs l c.hp=a6 y->news rs=1->bK c l us->
  ∃(id f:Nat) (e:Ty) (xs:List e.den),dQ c.hp id=a6 (.arr e f xs)/\xO rs y=a6 ⟨e,xs⟩/\
   ∀c':Cx,c'.w=c.w->(∀b,c.free b->c'.free b)->c'.hp=[(0,.arr e 0 xs)]->(c'.mu 0).v=(c.mu id).v->bK c' (oh 0 rs y) us
 |[],_,_,_,_,g,_=>by simp[news]at g
 |(t,false)::rs,[],_,_,h,_,_=>by simp[jc]at h
 |(t,false)::rs,v::l,y,[],h,_,d=>by simp[bK]at d
 |(t,false)::rs,v::l,y,u::us,h,g,d=>by
  simp only[jc]at h;split at h
  .rename_i x j i o
   cases h;simp only[bK]at d;obtain⟨id,f,e,xs,k1,k2,k3⟩:=alA z rs l j us o (by simpa [news] using g) d.2;refine⟨id,f,e,xs,k1,k2,fun c' A B D G=> ?_⟩
   grind [oh,bK,bW,abW]
  .cases h
 |(t,true)::rs,[],_,_,h,_,_=>by simp_all [jc]
 |(t,true)::rs,v::l,y,[],h,_,d=>by simp[bK]at d
 |(t,true)::rs,v::l,y,u::us,h,g,d=>by
  cases t with
  |list e=>
   cases v with
   |slc id f I=>
    cases I with
    |none=>
     simp only[jc]at h;split at h
     .rename_i L w xs E
      rw[cond_eq_ite]at h;split at h
      .rename_i q
       have q:w=f:=by simpa using q
       subst q;split at h
       .rename_i x j i o
        cases h;have J:=iq i;cases J;rw[gp]at i;cases i;simp only[bK]at d;refine⟨id,w,e,x,E,rfl,fun c' A B D G=> ?_⟩;simp only[oh,bK];refine⟨?_,abV z A B (fun h=>by cases h) rs l j us o (by simpa [news] using g) d.2⟩;have s:=d.1;simp only[bW]at s ⊢;have K:=(s.2.2 _ _ _ E).2 rfl;simp only[ja]at K;refine⟨s.1,.inl ⟨.arr e 0 x,by rw[D];simp[eG]⟩,fun t M N h=> ?_⟩;simp_all [ja]
       .cases h
      .cases h
     .cases h
    |some p=>simp[jc]at h
   |_=>simp[jc]at h
  |_=>simp[jc]at h
theorem TU: ∀(rs:List (Ty×Bool)) y,news rs=0->xO rs y=a7
 |[],_,_=>rfl
 |(t,true)::rs,_,h=>by simp[news]at h
 |(t,false)::rs,y,h=>TU rs y.2 (by simpa [news] using h)
theorem KN (g:c.Ok W0) {rs:List (Ty×Bool)} {l:List bU} {y} {us:List Value} (h:jc (!Nat.beq (news rs) 0) rs l c.hp=a6 y) (D:news rs<=1) (v:bK c l us):
  ∃c':Cx,c'.w=c.w/\c'.Ok W0/\c'.bar=c.bar/\c'.mks=[]/\c'.hp=F5 rs y/\bK c' (oh 0 rs y) us:=by
 by_cases s:news rs=0
 .let c':Cx:=⟨c.mu,[],c.nxt,c.w,[],c.bar⟩
  have u: ∀b,c.free b->c'.free b:=fun b f=>⟨f.1,(by rintro ⟨i,o,h,_⟩;simp[c',dQ]at h),by simp[c'],f.2.2.2⟩;exact⟨c',rfl,⟨g.bel,fun id o h=>by simp[c',dQ]at h,fun i j o p b h=>by simp[c',dQ]at h,fun r hr=>by simp[c']at hr,fun b f=>⟨(g.bar b f).1,(by rintro ⟨i,o,h,_⟩;simp[c',dQ]at h),by simp[c']⟩,g.phi⟩,rfl,rfl,by rw[F5,TU rs y s],abV g (c':=c') rfl u (fun _ b d q=>⟨d,(by rintro ⟨i,o,h,_⟩;simp[c',dQ]at h),by simp[c'],q⟩) rs l y us h s v⟩
 .have x:news rs=1:=by omega
  rw[show(!Nat.beq (news rs) 0)=true by rw[x];rfl]at h;obtain⟨id,E,e,xs,k1,k2,k3⟩:=alA g rs l y us h x v
  let c':Cx:=⟨fun _=>c.mu id,[(0,.arr e 0 xs)],c.nxt,c.w,[],c.bar⟩
  have u: ∀b,c.free b->c'.free b:=fun b f=>⟨f.1,(by
   rintro ⟨i,o,d,q⟩;simp only[c',eG]at d q;split at d
   .cases d;exact f.2.1 ⟨id,_,k1,q⟩
   .simp[dQ]at d),by simp[c'],f.2.2.2⟩
  refine⟨c',rfl,⟨g.bel,fun i o h=> ?_,fun i j o p b d q _ _=> ?_,fun r hr=>by simp[c']at hr,fun b f=>⟨(g.bar b f).1,(by
   rintro ⟨i,o,d,q⟩;simp only[c',eG]at d q;split at d
   .cases d;exact(g.bar b f).2.1 ⟨id,_,k1,q⟩
   .simp[dQ]at d),by simp[c']⟩,g.phi⟩,rfl,rfl,by rw[F5,k2],k3 c' rfl u rfl rfl⟩
  .simp only[c',eG]at h;split at h
   .cases h;obtain⟨s,z,A,d,q,B⟩:=g.obj id _ k1;exact⟨s,z,A,d,fQ.mono (eY.mono (fun b f=>⟨u b f,rfl⟩) e) _ _ q,B⟩
   .simp[dQ]at h
  grind [dQ]
theorem AQ {E:Env} (j:eF E) {g:FuncId} {s:Sum} (l:news s.rs<=1) (h: ∀x y,s.f x=a6 y->UB E g s.ps s.rs x=a6 y) (w:World) (d:Nat->Prop) (e:Array Value) (x) (y) (o:Yd w) (p: ∀b,d b->b<w.heap.size)
  (q:oJ (jS w d) s.ps x e.toList) (v:s.f x=a6 y):(callFunc g e).run E.P w=.ok (.enter g e) w/\Calls E.P g e w (uB w d s.rs y):=by
 have i:=h x y v;unfold UB at i;refine wz j 1000000 _ w g (Ff s.ps x) _ _ y i 0 a7 (jS w d) ⟨#[],[]⟩ [] e (qL o p) (Ob _ _ _ q) (uB w d s.rs y) fun M z u N k1 k2 k3 k4=> ?_;obtain⟨us,rfl,A⟩:=KL (by rw[k1];rfl) k3;rw[<-k2.hp]at k1;obtain⟨B,D,G,I,J,K,L⟩:=KN k2.ok k1 l A;exact⟨B,us,rfl,D,G,I.trans k4.bar,J,K,L⟩
theorem U8 {E:Env} (d:eF E) {g:FuncId} {s:Sum} (e:news s.rs<=1) (h: ∀x y,s.f x=a6 y->UB E g s.ps s.rs x=a6 y):dR E.P g s:=fun w i j x y l o p q=>.inl (AQ d e h w i j x y l o p q)
theorem ac7 {E:Env} (i:eF E) {g:FuncId} {d:List Ty} {x:(d.foldr Ty.pair Ty.unit).den} {t:Ty} {y:t.den} (v:t.rigid=true) (h:UB E g d [(t,false)] x=a6 (y,())) {w:World} {args:Array Value} (j:oJ (jS w fun _=>False) d x args.toList) (l:Yd w:=by exact trivial):
  Calls E.P g args w fun e w'=>e=.returned (Ju t y)/\Below w.heap.size w w':=by
 obtain⟨_,o⟩:=AQ i (g:=g) (s:=⟨d,[(t,false)],fun p=>UB E g d [(t,false)] p⟩) (by simp[news]) (fun x y h=>h) w (fun _=>False) args x (y,()) l (fun b h=>h.elim) j h;refine o.mono ?_;rintro e w' ⟨z,us,rfl,rfl,q,_,_,_,f⟩;refine⟨?_,q.bel⟩;cases us with
 |nil=>simp[oh,bK]at f
 |cons u us=>
  cases us with
  |cons _ _=>simp[oh,bK]at f
  |nil=>
   simp_all [oh,bK,bW,IW,VD.rigid]
theorem aHl {E:Env} (B:eF E) {g:FuncId} {e e2:Ty} (D:0<e.size) {f:List e.den->Option (List e2.den)} (G: ∀xs y,f xs=a6 y->kH E 1000000 (.call g [.lst e xs false]) ⟨[],[],[],0⟩ (fun v st=>jc false [(.list e2,false)] (zo 1 v) st.hp)=a6 (y,()))
  (h2: ∀y,f []=a6 y->kH E 1000000 (.call g [.lst e [] true]) ⟨[],[],[],0⟩ (fun v st=>jc false [(.list e2,false)] (zo 1 v) st.hp)=a6 (y,())):
  dR E.P g ⟨[.list e],[(.list e2,false)],fun x=>match f x.1 with|some y=>a6 (y,())|none=>a7⟩:=fun w i o x y I J K d=>.inl (by
 obtain⟨u,L,M,N,O⟩:=K;obtain⟨a,n,S,p,q,j,s⟩:=nG N;simp only at d;split at d
 .rename_i A U
  cases d;have V:kH E 1000000 (.call g [.lst e x.1 a.isNone]) ⟨[],[],[],0⟩ (fun v st=>jc false [(.list e2,false)] (zo 1 v) st.hp)=a6 (A,()):=by
   cases ha:a with
   |some _=>exact G _ _ U
   |none=>
    have W:S=[]:=by
     simp_all
    have hl:=fQ.length _ _ j;rw[W]at hl;have ab:x.1=[]:=by
     cases hxx:x.1 with
     |nil=>rfl
     |cons a l=>rw[hxx]at hl;have:=Nat.mul_pos (show 0<(a::l).length by simp) D;simp_all
    grind
  have X:bK (jS w i) [.lst e x.1 a.isNone] o.toList:=by
   rw[M,show L=[] from O];simp only[bK,bW,and_true];simp_all
  refine wz B 1000000 _ w g [.lst e x.1 a.isNone] _ _ _ V 0 a7 (jS w i) ⟨#[],[]⟩ [] o (qL I J) X (uB w i [(.list e2,false)] (A,())) fun c1 z u Y k1 k2 k3 k4=> ?_;obtain⟨us,rfl,Z⟩:=KL (own:=false) (rs:=[(.list e2,false)]) (hp:=Y.hp) (by grind) k3;rw[<-k2.hp]at k1;obtain⟨c',p,q,j,s,q5,q6⟩:=KN (rs:=[(.list e2,false)]) k2.ok k1 (by simp[news]) Z;exact⟨c',us,rfl,p,q,j.trans k4.bar,s,q5,q6⟩
 .cases d)
theorem ax5 {E:Env} (A:eF E) {g:FuncId} {e e2:Ty} (B:0<e.size) {f:List e.den->Option (List e2.den)} (h0:f []=a7) (D: ∀xs y,f xs=a6 y->kH E 1000000 (.call g [.lst e xs false]) ⟨[],[],[],0⟩ (fun v st=>jc true [(.list e2,true)] (zo 1 v) st.hp)=a6 (y,())):
  dR E.P g ⟨[.list e],[(.list e2,true)],fun x=>match f x.1 with|some y=>a6 (y,())|none=>a7⟩:=fun w i o x y G I J d=>.inl (by
 obtain⟨u,K,L,M,N⟩:=J;obtain⟨a,n,O,p,q,j,s⟩:=nG M;simp only at d;split at d
 .rename_i S U
  cases d;have V:a.isNone=false:=by
   cases V:a with
   |some _=>rfl
   |none=>
    have W:O=[]:=by
     simp_all
    have hl:=fQ.length _ _ j;rw[W]at hl;have ab:x.1=[]:=by
     cases hxx:x.1 with
     |nil=>rfl
     |cons a l=>rw[hxx]at hl;have:=Nat.mul_pos (show 0<(a::l).length by simp) B;simp_all
    simp_all
  have X:=D _ _ U;have Y:bK (jS w i) [.lst e x.1 false] o.toList:=by
   rw[L,show K=[] from N];simp_all [bK,bW]
  refine wz A 1000000 _ w g [.lst e x.1 false] _ _ _ X 0 a7 (jS w i) ⟨#[],[]⟩ [] o (qL G I) Y (uB w i [(.list e2,true)] (S,())) fun c1 z u Z k1 k2 k3 k4=> ?_;obtain⟨us,rfl,h3⟩:=KL (own:=true) (rs:=[(.list e2,true)]) (hp:=Z.hp) (by grind) k3;rw[<-k2.hp]at k1;obtain⟨c',p,q,j,s,q5,q6⟩:=KN (rs:=[(.list e2,true)]) k2.ok k1 (by simp[news]) h3;exact⟨c',us,rfl,p,q,j.trans k4.bar,s,q5,q6⟩
 .cases d)
theorem Dt {E:Env} (N:eF E) {g:FuncId} {e e2:Ty} (W:0<e.size) (X:0<e2.size) {f:List e.den->Option (List e2.den)} (Y: ∀xs y,f xs=a6 y->kH E 1000000 (.call g [.lst e xs false]) ⟨[],[],[],0⟩ (fun v st=>jc true [(.list e2,true)] (zo 1 v) st.hp)=a6 (y,()))
  (h2: ∀y,f []=a6 y->y=[]/\kH E 1000000 (.call g [.lst e [] true]) ⟨[],[],[],0⟩ (fun v st=>match v,st.hp with|.nils,[]=>a6 ()|_,_=>a7)=a6 ()):
  dR E.P g ⟨[.list e],[(.list e2,true)],fun x=>match f x.1 with|some y=>a6 (y,())|none=>a7⟩:=fun w i B x y O S Z o=>.inl (by
 obtain⟨u,ab,hu,hx,ad⟩:=Z;obtain⟨a,n,zs,p,q,j,s⟩:=nG hx;simp only at o;split at o
 .rename_i y' D
  cases o;have A:bK (jS w i) [.lst e x.1 a.isNone] B.toList:=by
   rw[hu,show ab=[] from ad];simp only[bK,bW,and_true];simp_all
  cases ha:a.isNone with
  |true=>
   have hz:zs=[]:=by
    simp_all
   have hl:=fQ.length _ _ j;rw[hz]at hl;have U:x.1=[]:=by
    cases hxx:x.1 with
    |nil=>rfl
    |cons a l=>rw[hxx]at hl;have:=Nat.mul_pos (show 0<(a::l).length by simp) W;simp_all
   rw[ha,U]at A;rw[U]at D;obtain⟨rfl,G⟩:=h2 _ D;refine wz N 1000000 _ w g [.lst e [] true] _ _ _ G 0 a7 (jS w i) ⟨#[],[]⟩ [] B (qL O S) A (uB w i [(.list e2,true)] ([],())) fun c1 z u d k1 k2 k3 k4=> ?_;split at k1
   .rename_i aj ag
    simp only[bW]at k3;obtain⟨V,I,d2,d3⟩:=qm (W0:=w) k2.ok k2.hp k2.nxt (id:=d.nxt) (n':=d.nxt+1) (by rw[ag];rfl) (ae _) (by omega) X (xs:=[]) (Below.refl _ _) (if e2=.int .u8 then mP else 0) [] (World.ownsRow_nil _ _ _ _) (by simp[fQ]) (v:=.slice a7 0 0) rfl (fun h=>by simp[h]);have ai:jc true [(.list e2,true)] [.slc d.nxt 0 a7] V.hp=a6 (([],()):List e2.den×Unit):=by
     rw[I.hp];simp only[jc,dQ,beq_self_eq_true,Nat.beq_refl,aa,gp];rfl
    have J:bK V [.slc d.nxt 0 a7] [.slice a7 0 0]:=by simp_all [bK]
    obtain⟨K,p,q,j,s,L,M⟩:=KN (rs:=[(.list e2,true)]) I.ok ai (by simp[news]) J;exact⟨K,[.slice a7 0 0],by rw[k3];rfl,p.trans d2,q,j.trans (I.le.bar.trans k4.bar),s,L,M⟩
   .cases k1
  |false=>
   rw[ha]at A;have G:=Y _ _ D;refine wz N 1000000 _ w g [.lst e x.1 false] _ _ _ G 0 a7 (jS w i) ⟨#[],[]⟩ [] B (qL O S) A (uB w i [(.list e2,true)] (y',())) fun c1 z u d k1 k2 k3 k4=> ?_;obtain⟨us,rfl,J⟩:=KL (own:=true) (rs:=[(.list e2,true)]) (hp:=d.hp) (by grind) k3;rw[<-k2.hp]at k1;obtain⟨K,p,q,j,s,L,M⟩:=KN (rs:=[(.list e2,true)]) k2.ok k1 (by simp[news]) J;exact⟨K,us,rfl,p,q,j.trans k4.bar,s,L,M⟩
 .cases o)
theorem aL7 {P:Program} {g:FuncId} {d:List Ty} {rs:List (Ty×Bool)} {f i:(d.foldr Ty.pair Ty.unit).den->Option ((rs.map (·.1)).foldr Ty.pair Ty.unit).den} (c:(d.foldr Ty.pair Ty.unit).den->Bool) (s:dR P g ⟨d,rs,f⟩) (h2:dR P g ⟨d,rs,i⟩):
  dR P g ⟨d,rs,fun x=>bif c x then f x else i x⟩:=fun w j l x y o p q e=>by
 cases hc:c x with
 |true=>simp only[hc,aa]at e;exact s w j l x y o p q e
 |false=>simp only[hc,ac]at e;exact h2 w j l x y o p q e
def VP:(rs:List Ty)->List bU->gQ->Option (rs.foldr Ty.pair Ty.unit).den
 |[],[],_=>a6 ()
 |t::rs,v::l,d=>match(bif true&&(mD v&& !t.rigid)then a7 else v.as d t),VP rs l d with
  |some x,a6 y=>a6 (x,y)
  |_,_=>a7
 |_,_,_=>a7
def atx:Nat->List Ty->List (Nat×Ty)
 |_,[]=>[]
 |n,.list t::d=>(n,t)::atx (n+1) d
 |n,_::d=>atx (n+1) d
def aHn (n:Nat) (v:bU):Bool:=Nat.beq n 1||(match v with
 |.tup l=>Nat.beq l.length n&& !Nat.beq n 1
 |_=>false)
def avT (E:Env) (g:FuncId) (d:TypeId) (cs:List (Ty×Bool)) (e rs:List Ty) (x:((cs.map (·.1)).foldr Ty.pair Ty.unit).den) (y:(e.foldr Ty.pair Ty.unit).den):Option (((cs.map (·.1)).foldr Ty.pair Ty.unit).den×(rs.foldr Ty.pair Ty.unit).den):=
 kH E 1000000 (.call g (.ptr 0 0::Jz e y)) ⟨[.ptr 0 0],[],(0,.box d (GL cs (jf cs 1) x))::sO cs (jf cs 1) x,0⟩ fun v st=>match st.fr with
  |[.ptr 0 0]=>bif aHn rs.length v then(match zS (atx 1 rs) {st with fr:=.ptr 0 0::zo rs.length v}with
   |some st=>match st.fr with
    |.ptr 0 0::l=>match dQ st.hp 0 with
     |some (.box t cells)=>bif Nat.beq t d&&TY ((nZ cs cells).map (·.1))then(match jO st.hp true cs cells with
      |some f=>match VP rs l st.hp with
       |some i=>a6 (f,i)
       |none=>a7
      |none=>a7)else a7
     |_=>a7
    |_=>a7
   |none=>a7)else a7
  |_=>a7
theorem ayc {n:Nat} {v:bU} {u:Value} (h:aHn n v=true) (d:bW c v u): ∃us,u=IW us/\bK c (zo n v) us:=by
 by_cases h1:n=1
 .subst h1;exact⟨[u],rfl,by simpa [zo,bK] using d⟩
 .have j:Nat.beq n 1=false:=by
   cases hq:Nat.beq n 1 with
   |false=>rfl
   |true=>exact absurd (ah hq) h1
  simp only[aHn,j,Bool.false_or]at h;split at h
  .rename_i l
   simp only[az,ay]at h;have hl:=ah h;simp only[bW]at d;obtain⟨g,rfl,i⟩:=d;refine⟨g.toList, ?_, ?_⟩
   .have f:=bK.length _ _ i
    match hq:g.toList,f with
    |[],_=>simp_all [IW]
    |[x],f=>simp at f;omega
    |x::y::r,_=>simp only[IW];rw[<-hq]
   .have:zo n (.tup l)=l:=by
     unfold zo;split
     .exact absurd rfl h1
     .rename_i e;cases e;rfl
     .rename_i e;exact(e _ rfl).elim
    rw[this];exact i
  .cases h
theorem ao5: ∀(rs:List Ty) (l:List bU) {hp:gQ},(VP rs l hp).isSome=true->(jc true (rs.map fun t=>(t,false)) l hp).isSome=true
 |[],[],_,_=>rfl
 |[],_::_,_,h=>by simp[VP]at h
 |_::_,[],_,h=>by simp[VP]at h
 |t::rs,v::l,hp,h=>by
  simp only[VP]at h;split at h
  .rename_i x y d e
   have:=ao5 rs l (hp:=hp) (by rw[e];rfl);change @Option.isSome ((((t,false)::rs.map fun t=>(t,false)).map (·.1)).foldr Ty.pair Ty.unit).den (jc true ((t,false)::rs.map fun t=>(t,false)) (v::l) hp)=true;rw[jc];rw[show bU.asR hp true t v=v.as hp t from rfl,d];cases h3:jc true (rs.map fun t=>(t,false)) l hp with
   |none=>simp_all
   |some z=>rfl
  .cases h
theorem afe (e:c.Ok W0): ∀(rs:List Ty) (l:List bU) (z) (us:List Value),VP rs l c.hp=a6 z->bK c l us->oJ c rs z us
 |[],[],z,[],_,_=>rfl
 |[],[],_,_::_,_,d=>by simp[bK]at d
 |[],_::_,_,_,h,_=>by simp[VP]at h
 |_::_,[],_,_,h,_=>by simp[VP]at h
 |t::rs,v::l,z,[],_,d=>by simp[bK]at d
 |t::rs,v::l,z,u::us,h,d=>by
  simp only[VP]at h;split at h
  .rename_i x y f g
   cases h;simp only[bK]at d;exact⟨u,us,rfl,abW (own:=true) (c':=c) rfl (fun b h=>h) (fun h=>by cases h) e f d.1,afe e rs l y us g d.2⟩
  .cases h
theorem afL {E:Env} (N:eF E) {g:FuncId} {s:fF} (h: ∀x y z,s.f x y=a6 z->avT E g s.bt s.cs s.ps s.rs x y=a6 z):dL E.P g s:=fun W0 c x y z O an S A U j V=>by
 have B:=h x y z V;unfold avT at B;obtain⟨us⟩:=U;cases us with
 |nil=>simp[bK]at j
 |cons u0 us=>
 have D:=j;simp only[bK]at D;obtain⟨G,_⟩:=D;have hr:iM W0 0 a7 c ⟨[.ptr 0 0],[],(0,.box s.bt (GL s.cs (jf s.cs 1) x))::sO s.cs (jf s.cs 1) x,0⟩ ⟨#[u0],[]⟩ []:=
  ⟨A,S,O,by simp_all [bK],trivial,⟨[],rfl,List.nodup_nil,fun r hr=>by simp at hr⟩,fun l hl=>by cases hl⟩
 refine wz N 1000000 _ W0 g (.ptr 0 0::Jz s.ps y) _ _ z B 0 a7 c ⟨#[u0],[]⟩ [] ⟨u0::us⟩ hr j (aBG W0 c s z) fun W v u X k1 k2 k3 k4=> ?_;split at k1<;>try (cases k1;done)
 rename_i Y
 replace k1:=dG k1;obtain⟨Z,k1⟩:=k1;split at k1<;>try (cases k1;done)
 rename_i ao ab
 split at k1<;>try (cases k1;done)
 rename_i l ad
 split at k1<;>try (cases k1;done)
 rename_i t cells o
 replace k1:=dG k1;obtain⟨I,k1⟩:=k1;simp only[af]at I;obtain⟨p,ag⟩:=I;have p:t=s.bt:=ah p;subst p;split at k1<;>try (cases k1;done)
 rename_i x' J
 split at k1<;>try (cases k1;done)
 rename_i z' K
 cases k1;obtain⟨e,rfl,h3⟩:=ayc Z k3;have q:=k2.fr;rw[Y]at q;simp only[bK,and_true]at q;have ai:iM W0 0 a7 W {X with fr:=.ptr 0 0::zo s.rs.length v} ⟨(u0::e).toArray,[]⟩ []:=
  ⟨k2.hp,k2.nxt,k2.ok,⟨q,h3⟩,k2.stk,k2.df,k2.rd⟩
 obtain⟨L,i,aj,ak⟩:=yE _ ai ab;have d:=i.fr;rw[ad]at d;have d:bK L (.ptr 0 0::l) (u0::e):=d;simp only[bK]at d;obtain⟨M,al⟩:=d;rw[<-i.hp]at o J K;refine⟨L,e,cells,rfl,ak,i.ok,k4.trans aj,o, ?_,Ef ag,J,afe i.ok s.rs l z' e K al⟩;simp only[bW]at M G;have e1:=M.2.2 _ _ o;have e2:=G.2.2 _ _ (by rw[A];simp[eG];exact⟨rfl,rfl⟩);simp_all
end
end
section
open Go.RowKit
def ax2:Sum:=⟨[.str,.int .u8],[(.int .i64,false)],fun x=>some (Lib.indexByte x.1 x.2.1.toNat.toUInt8,())⟩
theorem Rl {w:World} {d:Nat->Prop} (e:Yd w) (hb: ∀b,d b->b<w.heap.size):(jS w d).Ok w:=(qL e hb).ok
theorem afM {P:Program} {g:FuncId} {fn:Func} (hf:P.funcs[g]? =some fn) (e:(fn.name== "runtime.NumGoroutine")=false) (hb:fn.body.isNone=true) (f:Extern.findNext fn=none)
  (i:Extern.find fn=some Extern.BytealgIndexByte.indexByte):dR P g ax2:=by
 intro w j l x y o p q s;obtain⟨u,J,K,v,z,L,A,B,d⟩:=q;simp only[oJ]at d;subst d A;have D:l= #[u,z]:=by
  grind
 subst D;have E:=v.str_inv;have G:=B.int_inv;subst E G;have I:=Option.some.inj s;subst I;refine .inr ⟨_,by rw[run_callFunc_extern hf e hb f i,Lib.run_indexByteString];rfl,jS w j,[_],rfl,rfl,Rl o p,rfl,rfl,rfl, ?_⟩;simp_all [ax2,oh,bK,bW,VD.int_mk]
def acM:Sum:=⟨[.str,.str],[(.int .i64,false)],fun x=>some (Lib.compareBytes x.1 x.2.1,())⟩
theorem X3 {P:Program} {g:FuncId} {fn:Func} (hf:P.funcs[g]? =some fn) (e:(fn.name== "runtime.NumGoroutine")=false) (hb:fn.body.isNone=true) (f:Extern.findNext fn=none)
  (i:Extern.find fn=some Extern.BytealgCompare.compare):dR P g acM:=by
 intro w j l x y o p q s;obtain⟨u,J,K,v,z,L,A,B,d⟩:=q;simp only[oJ]at d;subst d A;have D:l= #[u,z]:=by
  grind
 subst D;have E:=v.str_inv;have G:=B.str_inv;subst E G;have I:=Option.some.inj s;subst I;refine .inr ⟨_,by rw[run_callFunc_extern hf e hb f i,Lib.run_compareString];rfl,jS w j,[_],rfl,rfl,Rl o p,rfl,rfl,rfl, ?_⟩;simp_all [acM,oh,bK,bW,VD.int_mk]
end
end Go.Proofs.YtlhpdcadgbjhiaaGreatDoor
