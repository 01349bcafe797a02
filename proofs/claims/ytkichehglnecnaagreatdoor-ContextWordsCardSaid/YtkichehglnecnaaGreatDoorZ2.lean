/- Parts of the proof, joined and shortened by a program: the plain machine, the functions as it prints them, and the mathematics over them. -/
import Derived.Stop.Looks
import Derived.RangeFuncNested
import Derived.RangeFuncRecord
import Derived.Sort.LoopGhostIn
import Derived.Laws.Externs
import Derived.Lib.Bytealg
import Derived.Test.YtkichehglnecnaaGreatDoorZ1
set_option linter.unusedVariables false
set_option linter.unusedSimpArgs false
set_option maxRecDepth 100000
set_option maxHeartbeats 4000000
namespace Go.Proofs.YtkichehglnecnaaGreatDoor
section
open Option renaming some → a6, none → a7
open Bool renaming and_eq_true → af
open List renaming mem_append_right → bC, mem_append_left → bD, eq_nil_of_length_eq_zero → bF
open Nat renaming le_refl → ae, eq_of_beq_eq_true → ak
open Go.RowKit
section
variable {P:Program} {T:TT} {W0:World} {b0 n:Nat} {rd:Option Nat} {c:Cx} {R:Type} {r:R} {st:St} {a:Act} {ats:List (Array Value)}
theorem aFe {n lo hi:Int} (h:eY n lo hi=true):0<=lo/\lo<=hi/\hi<=n:=by
 simp_all [eY]
theorem SH (d:ji W0 b0 rd c st a ats) {s:Nat} {t:Ty} {G:St} (h:BJ s t st=a6 G): ∃c',ji W0 b0 rd c' G a ats/\c.Mono c'/\c'.w=c.w:=by
 have j: ∀l:s<a.tmps.toList.length,dh c (st.fr.getD s .undef) a.tmps.toList[s]:=fun l=>by
  have:=d.fr.getD s;rwa [Array.getD,dif_pos (by simpa using l)]at this
 obtain⟨S,I,U,z⟩:=st;simp only[BJ]at h;split at h
 .rename_i A
  simp only at j;rw[A]at j;split at h
  .cases h
  .rename_i f
   rw[cond_eq_ite]at h;split at h
   .rename_i g
    cases h;simp only[af]at g;have B:z<=1000000*I.length+800000+s:=by simp_all
    have D:0<t.size:=by simp_all
    obtain⟨c',hd,V,q⟩:=ui d.ok (st:=⟨S,I,U,z⟩) d.hp d.nxt f B (ae z) (y:=t) D (xs:=[]) (v:=.slice a7 0 0) (w:=c.w) (Below.refl _ _) qX [] ⟨by simp,.inl ⟨rfl,rfl⟩⟩ (by simp[gK]) rfl (fun _=>rfl);have i:=d.did hd;refine⟨c',⟨i.hp,i.nxt,i.ok,bQ.setL _ _ _ i.fr fun l=> ?_,i.stk,i.df,i.rd⟩,hd.le.mono,V⟩
    grind [dh]
   .cases h
 .rename_i id W vw A
  simp only at j;rw[A]at j;split at h
  .rename_i u w m f
   rw[cond_eq_ite]at h;split at h
   .rename_i E
    have E:w=W:=by simpa using E
    subst E;split at h
    .cases h;exact⟨c,d,Cx.Mono.refl c,rfl⟩
    .rename_i lo o
     rw[cond_eq_ite]at h;split at h
     .rename_i g
      cases h;simp only[beq_iff_eq]at g;subst g;have J:=d.hp;simp only at J;subst J;have X:=d.ok.obj id _ f;obtain⟨Y,e,Z,K,p,ab⟩:=X;by_cases l:s<a.tmps.toList.length
      .have q:=j l;simp only[dh]at q;have M:=(q.2.2 _ _ _ f).2 rfl;have⟨ad,ag⟩:0<=o/\o<=bK m:=by
        obtain⟨a1,n1,c1,N,_,p2,p3,_⟩:=M;obtain⟨a2,c2,e2,_⟩:=uu K;rw[e2]at N;cases N;exact⟨p2,p3⟩
       obtain⟨aj,O⟩:=KD K ad ag M;have hk:(dV.arr u w m).like (c.mu id) (.arr u (w+1) (m.take o.toNat)) ⟨(c.mu id).blk,a.tmps.toList[s]⟩:=⟨by omega,fun e=>by omega⟩;have x:=Cx.Le.put (w:=c.w) d.ok f hk (ae _) (fun _ _ _=>rfl) (fun b g=>.inl (O b g)) (fun b L _ p=>⟨L,p⟩);have ah:=Cx.Ok.put (w:=c.w) d.ok f hk d.ok.bel (ae _) (fun _ _ _=>rfl) (fun b g=>.inl (O b g)) (fun b L _ p=>⟨L,p⟩) (by
        refine⟨Y,e,Z.take (o.toNat*u.size), ?_,gK.take _ _ _ (gK.mono (fV.mono x.free u) _ _ p),ab⟩;simp_all [bK,Cx.put,upd_same])
       refine⟨c.put id (dV.arr u (w+1) (List.take o.toNat m)) ⟨(c.mu id).blk,a.tmps.toList[s]⟩ c.w,⟨rfl,d.nxt,ah,bQ.setL _ _ _ (bQ.le x _ _ d.fr) fun _=> ?_,Gj.le x _ _ d.stk, ?_, ?_⟩,x.mono,rfl⟩
       .simp only[dh];refine⟨q.1,.inl ⟨_,Cx.put_get f⟩,fun t' u' al ai=> ?_⟩;rw[Cx.put_get f]at ai;simp_all [jy,Cx.put,upd_same]
       .obtain⟨ds,B,D,h3⟩:=d.df;exact⟨ds,B,D,h3⟩
       .exact d.rd
      .exfalso;have hl:=bQ.length _ _ d.fr;simp_all
     .cases h
   .cases h
  .cases h
 .cases h
theorem NP (d:ji W0 b0 rd c st a ats) {s:Nat} {t:Ty} {D:St} (h:G5 s t st=a6 D): ∃c',ji W0 b0 rd c' D a ats/\c.Mono c'/\c'.w=c.w:=by
 have E: ∀f:s<a.tmps.toList.length,dh c (st.fr.getD s .undef) a.tmps.toList[s]:=fun f=>by
  have:=d.fr.getD s;rwa [Array.getD,dif_pos (by simpa using f)]at this
 have ad: ∀(q: ∀f:s<a.tmps.toList.length,∃A,a.tmps.toList[s]=.slice A 0 0),∃c',ji W0 b0 rd c' {st with fr:=st.fr.set s (.val (.list t) [])} a ats/\c.Mono c'/\c'.w=c.w:=fun q=>
  ⟨c,⟨d.hp,d.nxt,d.ok,bQ.setL _ _ _ d.fr fun f=>by
   obtain⟨A,V⟩:=q f;rw[V];simp only[dh];exact(VD.leaf rfl).2 ⟨A,0,[],rfl,ae _,rfl,.inl rfl⟩,d.stk,d.df,d.rd⟩,Cx.Mono.refl c,rfl⟩
 unfold G5 at h;split at h
 .simp_all [dh]
 .simp_all [dh]
 .rename_i id ag G
  rw[G]at E;split at h
  .rename_i u w I v
   replace h:=dL h;obtain⟨y,h⟩:=h;simp only[af,beq_iff_eq]at y;obtain⟨rfl,J⟩:=y;cases h;obtain⟨B,W,K,X⟩:=st;have M:=d.hp;simp only at M v J G;subst M;have Y:bQ c (B.set s .undef) a.tmps.toList:=bQ.setL _ _ _ d.fr fun _=>by simp[dh]
   have hk:=Cx.keeps_filter (c:=c) (p:=fun i=> !Nat.beq i id) (xf J);have Z:=d.ok.filter (p:=fun i=> !Nat.beq i id) hk.right;have l:ji W0 b0 rd {c with hp:=c.hp.filter fun e=> !Nat.beq e.1 id} ⟨B.set s .undef,W,c.hp.filter fun e=> !Nat.beq e.1 id,X⟩ a ats:=
    ⟨rfl,d.nxt,Z,bQ.keeps _ _ hk.left.left Y,Gj.keeps _ _ hk.left.right d.stk,d.df,d.rd⟩
   refine⟨{c with hp:=c.hp.filter fun e=> !Nat.beq e.1 id},⟨rfl,l.nxt,l.ok, ?_,l.stk,l.df,l.rd⟩,⟨fun _ h=>h,fun b L h=>⟨L,h⟩,ae _,rfl,Xq c fun i=> !Nat.beq i id⟩,rfl⟩;have jB:=bQ.setL (z:=.val (.list u) I) s _ _ l.fr fun f=>by
    have q:=E f;simp only[dh]at q ⊢;have N:=(q.2.2 _ _ _ v).2 rfl;simp only[jy]at N;obtain⟨ah,e,zs,O,hL,ai⟩:=d.ok.obj id _ v;rw[N];have ab:=gK.mono (fV.mono hk.free u) _ _ hL;rcases O.2 with ⟨m,S⟩|⟨g,aj,al,m,S,e3,e4,e5,e6,e7⟩
    .have hx:I=[]:=bF S;subst hx;rw[m];exact(VD.leaf rfl).2 ⟨a7,0,[],rfl,ae _,rfl,.inl rfl⟩
    .obtain⟨a2,an,U,f2,f3⟩:=QK O;rw[m]at U;cases U;rw[m];refine(VD.leaf rfl).2 ⟨_,_,zs,rfl,e4,ab,f3.imp (fun h=>h) fun⟨g',q1,q2,q4,q3⟩=> ?_⟩;cases q1;refine⟨g,0,rfl,⟨q2, ?_, ?_,fun y=>(d.ok.bar _ y).2.1 ⟨id,_,v,by simp[dV.blk,m,Value.ownBlock]⟩⟩,q3⟩
     .rintro ⟨j,o,x,h2⟩;simp only at x;rw[lw (fun i=> !Nat.beq i id)]at x;split at x
      .rename_i hj
       have:=d.ok.inj j id o _ g x v h2 (by simp[dV.blk,m,Value.ownBlock]);simp_all
      .cases x
     .intro hm;obtain⟨_,hd⟩:=d.ok.mks g hm;simp_all
   simp_all
  .cases h
 .cases h
 .cases h;exact⟨c,d,Cx.Mono.refl c,rfl⟩
theorem acO (d:ji W0 b0 rd c st a ats) {id off:Nat} {t:Ty} {q:St} (h:Xr id off t st=a6 q): ∃c',ji W0 b0 rd c' q a ats/\c.Mono c'/\c'.w=c.w:=by
 have same:a6 st=a6 q-> ∃c',ji W0 b0 rd c' q a ats/\c.Mono c'/\c'.w=c.w:=fun h=>by cases h;exact⟨c,d,Cx.Mono.refl c,rfl⟩
 obtain⟨N,O,S,u⟩:=st;simp only[Xr]at h;split at h
 .rename_i i cs U
  split at h
  .rename_i J
   split at h
   .rename_i K
    cases h;have l:dW c.hp id=a6 (.box i cs):=by rw[d.hp];exact U
    obtain⟨x,us,z,s,A⟩:=d.ok.obj id _ l;have M: ∀m:off<us.toList.length,us.toList[off]=.slice a7 0 0:=fun m=>by
     have:=bQ.getD s off;rw[J,Array.getD,dif_pos (by simpa using m)]at this
     assumption
    have p:(dV.box i cs).like (c.mu id) (.box i (cs.set off (.val (.list K) []))) (c.mu id):=rfl;have j:=Cx.Le.put (w:=c.w) d.ok l p (ae _) (fun _ _ _=>rfl) (fun b f=>.inl f) (fun b L _ o=>⟨L,o⟩);have B:=Cx.Ok.put (w:=c.w) d.ok l p d.ok.bel (ae _) (fun _ _ _=>rfl) (fun b f=>.inl f) (fun b L _ o=>⟨L,o⟩) (by
     refine⟨by simp only[Cx.put,upd_same];exact x,us,by simp only[Cx.put,upd_same];exact z, ?_,A⟩;exact bQ.le j _ _ (bQ.setL off _ _ s fun m=>by
      rw[M m];simp only[dh];exact(VD.leaf rfl).2 ⟨a7,0,[],rfl,ae _,rfl,.inl rfl⟩))
    refine⟨c.put id (.box i (cs.set off (.val (.list K) []))) (c.mu id) c.w,⟨?_,d.nxt,B,bQ.le j _ _ d.fr,Gj.le j _ _ d.stk, ?_, ?_⟩,j.mono,rfl⟩
    .simp only[Cx.put];rw[d.hp]
    .obtain⟨D,E,G,I⟩:=d.df;exact⟨D,E,G,I⟩
    .exact d.rd
   generalize id+500000+2000*off=nm at h;split at h
   .cases h
   .rename_i V
    rw[cond_eq_ite]at h;split at h
    .rename_i f
     cases h;simp only[af]at f;have W:u<=nm:=by simpa [Nat.ble_eq] using f.1
     have X:0<t.size:=by have:=f.2;simp[Nat.blt]at this;omega
     have Z:nm≠id:=fun e=>by simp_all
     obtain⟨c',hd,Y,hv⟩:=ui d.ok (st:=⟨N,O,S,u⟩) d.hp d.nxt V W (ae u) (y:=t) X (xs:=[]) (v:=.slice a7 0 0) (w:=c.w) (Below.refl _ _) qX [] ⟨by simp,.inl ⟨rfl,rfl⟩⟩ (by simp[gK]) rfl (fun _=>rfl);have g:=d.did hd;have l:dW c'.hp id=a6 (.box i cs):=by
      rw[hd.hp];simp only[fD]
      grind
     obtain⟨x,us,z,s,A⟩:=g.ok.obj id _ l;have M: ∀m:off<us.toList.length,us.toList[off]=.slice a7 0 0:=fun m=>by
      have:=bQ.getD s off;rw[J,Array.getD,dif_pos (by simpa using m)]at this
      assumption
     have p:(dV.box i cs).like (c'.mu id) (.box i (cs.set off (.slc nm 0 a7))) (c'.mu id):=rfl;have j:=Cx.Le.put (w:=c'.w) g.ok l p (ae _) (fun _ _ _=>rfl) (fun b f=>.inl f) (fun b L _ o=>⟨L,o⟩);have B:=Cx.Ok.put (w:=c'.w) g.ok l p g.ok.bel (ae _) (fun _ _ _=>rfl) (fun b f=>.inl f) (fun b L _ o=>⟨L,o⟩) (by
      refine⟨by simp only[Cx.put,upd_same];exact x,us,by simp only[Cx.put,upd_same];exact z, ?_,A⟩
      grind [bQ.le,bQ.setL])
     refine⟨c'.put id (.box i (cs.set off (.slc nm 0 a7))) (c'.mu id) c'.w,⟨?_,g.nxt,B,bQ.le j _ _ g.fr,Gj.le j _ _ g.stk, ?_, ?_⟩,hd.le.mono.trans j.mono,Y⟩
     .simp only[Cx.put];rw[hd.hp]
     .obtain⟨D,E,G,I⟩:=g.df;exact⟨D,E,G,I⟩
     .exact g.rd
    .cases h
  .exact same h
 .exact same h
theorem Z4 (k:Nat) (o:dV) (i:Nat): ∀h:iw,dW (aww k o h) i=if k=i then a6 o else dW h i
 |[]=>by simp[aww,fD]
 |(j,p)::h=>by
  simp only[aww];rw[cond_eq_ite];split
  .rw[fD]
  .rename_i d
   have f:j≠k:=fun e=>d (by simp_all);rw[fD,Z4 k o i h,fD]
   grind
theorem zS (i:Nat): ∀h:iw,dW (ny h) i=dW h i
 |[]=>rfl
 |(k,o)::h=>by simp only[ny];rw[Z4,zS i h,fD]
theorem ji.sorted (d:ji W0 b0 rd c st a ats): ∃c',ji W0 b0 rd c' {st with hp:=ny st.hp} a ats/\c.Mono c'/\c'.w=c.w:=by
 have g: ∀i,dW (ny c.hp) i=dW c.hp i:=fun i=>zS i _;have q: ∀(o:dV) (l:Loc),o.like l o l:=fun o l=>by
  cases o<;>simp[dV.like]
 have e:c.Le {c with hp:=ny c.hp}:=by
  refine⟨fun b f=>⟨⟨f.1,fun⟨j,o,s,m⟩=>f.2.1 ⟨j,o,by simp_all,m⟩,f.2.2⟩,rfl⟩,fun id hk=> ?_,fun id u _ h=>⟨u,by rw[<-g];exact h,q _ _⟩,fun _ h=>h,fun b L h=>⟨L,h⟩,ae _,rfl⟩;rcases hk with ⟨o,h⟩|h
  .exact .inl ⟨o,by simp_all⟩
  .exact .inr h
 have v:({c with hp:=ny c.hp}:Cx).Ok W0:=by
  refine⟨d.ok.bel,fun id o h=> ?_,fun i j o p b s m=>d.ok.inj i j o p b (by simp_all) (by simp_all),d.ok.mks,fun b f=>(e.out b (d.ok.bar b f)).1,d.ok.phi⟩;exact(d.ok.obj id o (by rw[<-g];exact h)).le e rfl fun b _=>rfl
 exact⟨{c with hp:=ny c.hp},⟨by show ny c.hp=ny st.hp;rw[d.hp],d.nxt,v,bQ.le e _ _ d.fr,Gj.le e _ _ d.stk,d.df,d.rd⟩,e.mono,rfl⟩
theorem ahK (e:ji W0 b0 rd c st a ats) {id off:Nat} {t:Ty} {d:St} (h:TW id off t st=a6 d): ∃c',ji W0 b0 rd c' d a ats/\c.Mono c'/\c'.w=c.w:=by
 simp only[TW]at h;split at h
 .rename_i q f
  cases h;obtain⟨s,g,i,j⟩:=acO e f;obtain⟨l,m,o,p⟩:=g.sorted;exact⟨l,m,i.trans o,p.trans j⟩
 .cases h
theorem aln (g:ji W0 b0 rd c st a ats) {s id N:Nat} {u:TypeId} {xs:List bZ} (hn:st.fr.getD s .undef=.ptr id 0) (K:dW st.hp id=a6 (.box u xs)) (aF:id≠N)
  (ab:st.nxt.ble N=true) (ad:Hr [id,N] (ni (st.fr.set s .undef)++uZ st.stk++(ni xs++Ag (st.hp.filter fun e=> !(Nat.beq e.1 id||Nat.beq e.1 N))))=true):
  ∃c',ji W0 b0 rd c' {st with fr:=st.fr.set s (.ptr N 0),hp:=ny ((N,.box u xs)::st.hp.filter fun e=> !(Nat.beq e.1 id||Nat.beq e.1 N))} a ats/\c.Mono c'/\c'.w=c.w:=by
 have au: ∀U:s<a.tmps.toList.length,dh c (.ptr id 0) a.tmps.toList[s]:=fun U=>by
  have:=g.fr.getD s;rw[hn]at this;rwa [Array.getD,dif_pos (by simpa using U)]at this
 obtain⟨fr,stk,hp,nxt⟩:=st;have ag:=g.hp;have ah:=g.nxt;simp only at ag K ad hn ab ah;subst ag;subst ah;have ab:c.nxt<=N:=by simp_all
 have X: ∀i∈ni (fr.set s .undef)++uZ stk++(ni xs++Ag (c.hp.filter fun e=> !(Nat.beq e.1 id||Nat.beq e.1 N))),i≠id/\i≠N:=fun i A=>by
  have:=xf ad i A;simp_all
 have V: ∀i,dW (ny ((N,.box u xs)::c.hp.filter fun e=> !(Nat.beq e.1 id||Nat.beq e.1 N))) i=if N=i then a6 (.box u xs)else if i=id then a7 else dW c.hp i:=fun i=>by
  rw[zS,fD];split
  .rfl
  .rename_i av
   rw[lw (fun i=> !(Nat.beq i id||Nat.beq i N))];have d:Nat.beq i N=false:=Bool.eq_false_iff.2 fun h=>av (ak h).symm;simp_all [Bool.eq_false_iff]
 generalize hH:ny ((N,.box u xs)::c.hp.filter fun e=> !(Nat.beq e.1 id||Nat.beq e.1 N))=H at*;generalize E:({c with mu:=Go.Proofs.YtkichehglnecnaaGreatDoor.upd c.mu N (c.mu id),hp:=H}:Cx)=c2;have M:c2.hp=H:=by rw[<-E]
 have B:c2.w=c.w:=by rw[<-E]
 have ai:c2.nxt=c.nxt:=by rw[<-E]
 have W:c2.mks=c.mks:=by rw[<-E]
 have aj:c2.bar=c.bar:=by rw[<-E]
 have O:c2.mu N=c.mu id:=by rw[<-E];exact upd_same ..
 have J: ∀i,i≠N->c2.mu i=c.mu i:=fun i A=>by rw[<-E];simp[Go.Proofs.YtkichehglnecnaaGreatDoor.upd,A]
 have al: ∀b,(∃i o,dW c2.hp i=a6 o/\o.blk (c2.mu i)=a6 b)-> ∃i o,dW c.hp i=a6 o/\o.blk (c.mu i)=a6 b:=fun b ⟨i,o,d,m⟩=>by
  grind
 have an: ∀b,c.out b->c2.out b:=fun b D=>⟨by rw[B];exact D.1,fun h=>D.2.1 (al b h),by rw[W];exact D.2.2⟩;have aw: ∀b,c.free b->c2.free b/\c2.w.heap[b]? =c.w.heap[b]? :=fun b D=>⟨⟨by rw[B];exact D.1,fun h=>D.2.1 (al b h),by rw[W,aj];exact D.2.2⟩,by rw[B]⟩;have keeps: ∀l:List Nat,(∀i∈l,i≠id/\i≠N)->c.Keeps c2 l:=fun l Y=>by
  refine⟨aw,fun i A hk=> ?_,fun i A o' x=> ?_⟩
  .rcases hk with ⟨o,x⟩|hk
   .left
    grind
   .right;rw[ai];exact hk
  .rw[M,V,aq (fun e=>(Y i A).2 e.symm),aq (Y i A).1]at x;refine⟨o',x, ?_⟩;rw[J i (Y i A).2];exact o'.like_refl _
 have ax: ∀i o,i≠id->i≠N->dW c.hp i=a6 o->(i,o)∈c.hp.filter fun e=> !(Nat.beq e.1 id||Nat.beq e.1 N):=fun i o A ay x=>List.mem_filter.2 ⟨zQ _ _ _ x,by
  have d:Nat.beq i N=false:=Bool.eq_false_iff.2 fun h=>ay (ak h);have m:Nat.beq i id=false:=Bool.eq_false_iff.2 fun h=>A (ak h);simp_all⟩
 have az:c2.Ok W0:=by
  refine⟨by rw[B];exact g.ok.bel,fun i o x=> ?_,fun i j o q b d m v y=> ?_,fun r aG=>by rw[B];exact g.ok.mks r (by simp_all),fun b D=>an b (g.ok.bar b (by simp_all)),g.ok.phi⟩
  .rw[M,V]at x;split at x
   .rename_i e;subst e;cases x
    obtain⟨d,Z,m,v,y⟩:=g.ok.obj id _ K;exact⟨by rw[O];exact d,Z,by rw[B,O];exact m,bQ.keeps _ _ (keeps _ fun j hj=>X j (bC _ (bD _ hj))) v,y⟩
   .rename_i e
    split at x
    .cases x
    .rename_i G
     have I:=g.ok.obj i o x;have hm:=ax i o G (fun q=>e q.symm) x;have hk:=fun j hj=>X j (bC _ (bC _ (Ei _ _ hm j hj)));have ao:=J i (fun q=>e q.symm);cases o with
     |box e cs=>
      obtain⟨d,Z,m,v,y⟩:=I;refine⟨by rw[ao];exact d,Z,by simp_all,bQ.keeps _ _ (keeps _ hk) v,y⟩
     |arr t ver xs=>
      obtain⟨I,e,zs,d,m,v⟩:=I;refine⟨I,e,zs,by simp_all, ?_,v⟩
      grind [gK.mono,fV.mono]
     |lp f fr ps asg bd ky n p=>
      obtain⟨I,d,L,m,v,y⟩:=I;refine⟨I,by rw[ao];exact d,L,by simp_all,bQ.keeps _ _ (keeps _ hk) v,y⟩
     |dead=>trivial
     |mp kk vk es=>
      simp_all [Cx.ORel]
  .rw[M,V]at d m;split at d<;>split at m
   .omega
   .rename_i S G
    split at m
    .cases m
    .rename_i e3
     subst S;cases d;rw[O]at v;rw[J j (fun q=>G q.symm)]at y;exact absurd (g.ok.inj id j _ q b K m v y).symm e3
   .rename_i S G
    split at d
    .cases d
    .rename_i e3
     subst G;cases m;rw[O]at y;rw[J i (fun q=>S q.symm)]at v;exact absurd (g.ok.inj i id o _ b d K v y) e3
   .rename_i S G
    split at d
    .cases d
    .split at m
     .cases m
     .rw[J i (fun q=>S q.symm)]at v;rw[J j (fun q=>G q.symm)]at y;exact g.ok.inj i j o q b d m v y
 have aA:bQ c (fr.set s .undef) a.tmps.toList:=bQ.setL _ _ _ g.fr fun _=>by simp[dh]
 have kl:=keeps _ X;have aB:=bQ.keeps _ _ kl.left.left aA;have jB:=bQ.setL (z:=.ptr N 0) s _ _ aB fun U=>by
  have hv:=au U;simp only[dh]at hv ⊢;exact⟨hv.1,.inl ⟨_,by rw[M,V,am rfl]⟩,fun _ _ _=>by rw[O];exact hv.2.2 _ _ K⟩
 rw[List.set_set]at jB;exact⟨c2,⟨by rw[M],ai,az,jB,Gj.keeps _ _ kl.left.right g.stk,by rw[W];exact g.df,by rw[B];exact g.rd⟩,
  ⟨fun _ h=>by rw[W];exact h,fun b L h=>⟨L,by rw[B];exact h⟩,by simp_all,aj,fun b D=>⟨an b D,by rw[B]⟩⟩,B⟩
theorem ahV (d:ji W0 b0 rd c st a ats) {s:Nat} {t:Ty} {ab:St} (h:Us s t st=a6 ab): ∃c',ji W0 b0 rd c' ab a ats/\c.Mono c'/\c'.w=c.w:=by
 have ad: ∀W:s<a.tmps.toList.length,dh c (st.fr.getD s .undef) a.tmps.toList[s]:=fun W=>by
  have:=d.fr.getD s;rwa [Array.getD,dif_pos (by simpa using W)]at this
 unfold Us at h;generalize hN:1000000*st.stk.length+800000+s=N at h;split at h
 .rename_i id ag X
  rw[X]at ad;rw[cond_eq_ite]at h;split at h
  .cases h;exact d.sorted
  .rename_i K
   have K:id≠N:=fun e=>K (by simp[e]);split at h
   .rename_i u w S M
    obtain⟨g,h⟩:=dL h;simp only[af]at g;obtain⟨ah,ai⟩:=g;cases h;obtain⟨fr,az,hp,aX⟩:=st;have aj:=d.hp;have al:=d.nxt;simp only at aj M ai X ah al;subst aj;subst al;have ah:c.nxt<=N:=by simp_all
    have an: ∀i∈ni (fr.set s .undef)++uZ az++Ag (c.hp.filter fun e=> !(Nat.beq e.1 id||Nat.beq e.1 N)),i≠id/\i≠N:=fun i B=>by
     have:=xf ai i B;simp_all
    have Y: ∀i,dW (ny ((N,.arr u w S)::c.hp.filter fun e=> !(Nat.beq e.1 id||Nat.beq e.1 N))) i=if N=i then a6 (.arr u w S)else if i=id then a7 else dW c.hp i:=fun i=>by
     rw[zS,fD];split
     .rfl
     .rename_i aA
      rw[lw (fun i=> !(Nat.beq i id||Nat.beq i N))];have m:Nat.beq i N=false:=Bool.eq_false_iff.2 fun h=>aA (ak h).symm;simp_all [Bool.eq_false_iff]
    generalize hH:ny ((N,.arr u w S)::c.hp.filter fun e=> !(Nat.beq e.1 id||Nat.beq e.1 N))=H at*;generalize G:({c with mu:=Go.Proofs.YtkichehglnecnaaGreatDoor.upd c.mu N (c.mu id),hp:=H}:Cx)=v;have U:v.hp=H:=by rw[<-G]
    have E:v.w=c.w:=by rw[<-G]
    have ao:v.nxt=c.nxt:=by rw[<-G]
    have Z:v.mks=c.mks:=by rw[<-G]
    have au:v.bar=c.bar:=by rw[<-G]
    have av:v.mu N=c.mu id:=by rw[<-G];exact upd_same ..
    have O: ∀i,i≠N->v.mu i=c.mu i:=fun i B=>by rw[<-G];simp[Go.Proofs.YtkichehglnecnaaGreatDoor.upd,B]
    have aw: ∀b,(∃i o,dW v.hp i=a6 o/\o.blk (v.mu i)=a6 b)-> ∃i o,dW c.hp i=a6 o/\o.blk (c.mu i)=a6 b:=fun b ⟨i,o,m,y⟩=>by
     grind
    have ax: ∀b,c.out b->v.out b:=fun b g=>⟨by rw[E];exact g.1,fun h=>g.2.1 (aw b h),by rw[Z];exact g.2.2⟩;have aB: ∀b,c.free b->v.free b/\v.w.heap[b]? =c.w.heap[b]? :=fun b g=>⟨⟨by rw[E];exact g.1,fun h=>g.2.1 (aw b h),by rw[Z,au];exact g.2.2⟩,by rw[E]⟩;have keeps: ∀l:List Nat,(∀i∈l,i≠id/\i≠N)->c.Keeps v l:=fun l hl=>by
     refine⟨aB,fun i B hk=> ?_,fun i B o' x=> ?_⟩
     .rcases hk with ⟨o,x⟩|hk
      .left
       grind
      .right;rw[ao];exact hk
     .rw[U,Y,aq (fun e=>(hl i B).2 e.symm),aq (hl i B).1]at x;refine⟨o',x, ?_⟩;rw[O i (hl i B).2];exact o'.like_refl _
    have aF: ∀i o,i≠id->i≠N->dW c.hp i=a6 o->(i,o)∈c.hp.filter fun e=> !(Nat.beq e.1 id||Nat.beq e.1 N):=fun i o B aG x=>List.mem_filter.2 ⟨zQ _ _ _ x,by
     have m:Nat.beq i N=false:=Bool.eq_false_iff.2 fun h=>aG (ak h);have y:Nat.beq i id=false:=Bool.eq_false_iff.2 fun h=>B (ak h);simp_all⟩
    have aH:v.Ok W0:=by
     refine⟨by rw[E];exact d.ok.bel,fun i o x=> ?_,fun i j o q b m y A D=> ?_,fun r aY=>by rw[E];exact d.ok.mks r (by simp_all),fun b g=>ax b (d.ok.bar b (by simp_all)),d.ok.phi⟩
     .rw[U,Y]at x;split at x
      .rename_i e;subst e;cases x
       obtain⟨aI,e,zs,aZ,hL,aJ⟩:=d.ok.obj id _ M;refine⟨aI,e,zs, ?_, ?_,aJ⟩
       .simp_all
       grind [gK.mono,fV.mono]
      .rename_i e
       split at x
       .cases x
       .rename_i I
        have J:=d.ok.obj i o x;have hm:=aF i o I (fun q=>e q.symm) x;have hk:=fun j hj=>an j (bC _ (Ei _ _ hm j hj));have ay:=O i (fun q=>e q.symm);cases o with
        |box e cs=>
         obtain⟨m,vs,y,A,D⟩:=J;refine⟨by rw[ay];exact m,vs,by simp_all,bQ.keeps _ _ (keeps _ hk) A,D⟩
        |arr t ag S=>
         obtain⟨J,e,zs,m,y,A⟩:=J;refine⟨J,e,zs,by simp_all, ?_,A⟩
         grind [gK.mono,fV.mono]
        |lp f fr ps asg bd ky n p=>
         obtain⟨J,m,L,y,A,D⟩:=J;refine⟨J,by rw[ay];exact m,L,by simp_all,bQ.keeps _ _ (keeps _ hk) A,D⟩
        |dead=>trivial
        |mp kk vk es=>
         simp_all [Cx.ORel]
     .rw[U,Y]at m y;split at m<;>split at y
      .omega
      .rename_i V I
       split at y
       .cases y
       .rename_i e3
        subst V;cases m;rw[av]at A;rw[O j (fun q=>I q.symm)]at D;exact absurd (d.ok.inj id j _ q b M y A D).symm e3
      .rename_i V I
       split at m
       .cases m
       .rename_i e3
        subst I;cases y;rw[av]at D;rw[O i (fun q=>V q.symm)]at A;exact absurd (d.ok.inj i id o _ b m M A D) e3
      .rename_i V I
       split at m
       .cases m
       .split at y
        .cases y
        .rw[O i (fun q=>V q.symm)]at A;rw[O j (fun q=>I q.symm)]at D;exact d.ok.inj i j o q b m y A D
    have aK:bQ c (fr.set s .undef) a.tmps.toList:=bQ.setL _ _ _ d.fr fun _=>by simp[dh]
    have kl:=keeps _ an;have aO:=bQ.keeps _ _ kl.left.left aK;have jB:=bQ.setL (z:=.slc N ag a7) s _ _ aO fun W=>by
     have hv:=ad W;simp only[dh]at hv ⊢;refine⟨hv.1,.inl ⟨_,by rw[U,Y,am rfl]⟩,fun t' u' bf bg=> ?_⟩
     grind
    rw[List.set_set]at jB;exact⟨v,⟨by rw[U],ao,aH,jB,Gj.keeps _ _ kl.left.right d.stk,by rw[Z];exact d.df,by rw[E];exact d.rd⟩,
     ⟨fun _ h=>by rw[Z];exact h,fun b L h=>⟨L,by rw[E];exact h⟩,by simp_all,au,fun b g=>⟨ax b g,by rw[E]⟩⟩,E⟩
   .cases h
 .rename_i id X
  rw[cond_eq_ite]at h;split at h
  .cases h;exact d.sorted
  .rename_i K
   have K:id≠N:=fun e=>K (by simp[e]);split at h
   .rename_i u S M
    obtain⟨g,h⟩:=dL h;simp only[af]at g;cases h;exact aln d X M K g.1 g.2
   .cases h
 .cases x:BJ s t st with
  |none=>simp_all
  |some bi=>
   rw[x]at h;cases h;obtain⟨c1,aP,aQ,aS⟩:=SH d x;obtain⟨v,aU,aV,aW⟩:=aP.sorted;exact⟨v,aU,aQ.trans aV,aW.trans aS⟩
theorem Zc {s:Nat} {t:Ty} {l:List (Nat×Ty)} {st d:St} (h:kw ((s,t)::l) st=a6 d):(∃t' st1,G5 s t' st=a6 st1/\kw l st1=a6 d)\/(∃t' st1,TW (s/100) (s %100) t' st=a6 st1/\kw l st1=a6 d)\/(∃t' st1,Us s t' st=a6 st1/\kw l st1=a6 d)\/ ∃st1,BJ s t st=a6 st1/\kw l st1=a6 d:=by
 have own:(match BJ s t st with|some st=>kw l st|none=>a7)=a6 d-> ∃st1,BJ s t st=a6 st1/\kw l st1=a6 d:=fun h=>by
  grind
 cases t with
 |pair x y=>
  cases x with
  |unit=>
   grind [kw]
  |list z=>
   cases z with
   |unit=>
    grind [kw]
   |bool=>
    grind [kw]
   |_=>right;right;right;exact own h
  |_=>right;right;right;exact own h
 |_=>right;right;right;exact own h
theorem uj: ∀(l:List (Nat×Ty)) {c:Cx} {st:St},ji W0 b0 rd c st a ats-> ∀{u:St},kw l st=a6 u-> ∃c',ji W0 b0 rd c' u a ats/\c.Mono c'/\c'.w=c.w
 |[],c,st,q,u,h=>by cases h;exact⟨c,q,Cx.Mono.refl c,rfl⟩
 |(s,t)::l,c,st,q,u,h=>by
  rcases Zc h with ⟨y,v,d,e⟩|⟨y,v,d,e⟩|⟨y,v,d,e⟩|⟨v,d,e⟩
  .obtain⟨x,f,g,i⟩:=NP q d;obtain⟨j,m,o,p⟩:=uj l f e;exact⟨j,m,g.trans o,p.trans i⟩
  .obtain⟨x,f,g,i⟩:=ahK q d;obtain⟨j,m,o,p⟩:=uj l f e;exact⟨j,m,g.trans o,p.trans i⟩
  .obtain⟨x,f,g,i⟩:=ahV q d;obtain⟨j,m,o,p⟩:=uj l f e;exact⟨j,m,g.trans o,p.trans i⟩
  .obtain⟨x,f,g,i⟩:=SH q d;obtain⟨j,m,o,p⟩:=uj l f e;exact⟨j,m,g.trans o,p.trans i⟩
theorem rW (d:ji W0 b0 rd c st a ats) {y:List Nat} {i:List (Nat×Ty)} {e:St} (h:PE y i st=a6 e): ∃c',ji W0 b0 rd c' e a ats/\c.Mono c'/\c'.w=c.w:=by
 have j:ji W0 b0 rd c {st with fr:=KA y 0 st.fr} a ats:=⟨d.hp,d.nxt,d.ok,D6 0 _ _ d.fr,d.stk,d.df,d.rd⟩;have go: ∀{f:Cx} {l:St},ji W0 b0 rd f l a ats->(match kw i l with
   |some st=>match gc (1000000*st.stk.length) .undef st with
    |some st=>a6 (abg st)
    |none=>a7
   |none=>a7)=a6 e-> ∃c',ji W0 b0 rd c' e a ats/\f.Mono c'/\c'.w=f.w:=fun {f l} j h=>by
  split at h
  .rename_i A g
   obtain⟨B,m,o,p⟩:=uj i j g;split at h
   .rename_i K D
    cases h;obtain⟨z,q,_,s,x,_,_⟩:=m.gc (v:=.undef) (u:=undef) (by simp[dh]) D;obtain⟨E,G,I,J⟩:=q.anew;exact⟨E,G,(o.trans s).trans I,J.trans (x.trans p)⟩
   .cases h
  .cases h
 unfold PE at h;split at h
 .rename_i A g
  split at g
  .grind
  .obtain⟨B,m,_,o,p,_,_⟩:=j.gc (v:=.undef) (u:=undef) (by simp[dh]) g;obtain⟨z,q,s,x⟩:=go m h;exact⟨z,q,o.trans s,x.trans p⟩
 .cases h
theorem Kz: ∀(l:List (Nat×Ty)) {c:Cx} {st:St},ji W0 b0 rd c st a ats-> ∀{d:St},I4 l st=a6 d-> ∃c',ji W0 b0 rd c' d a ats/\c.Mono c'/\c'.w=c.w
 |[],c,st,e,d,h=>by cases h;exact⟨c,e,Cx.Mono.refl c,rfl⟩
 |(s,t)::l,c,st,e,d,h=>by
  simp only[I4]at h;split at h
  .rename_i u f
   obtain⟨v,g,i,j⟩:=NP e f;obtain⟨m,o,p,q⟩:=Kz l g h;exact⟨m,o,i.trans p,q.trans j⟩
  .cases h
theorem aa7 (d:ji W0 b0 rd c st a ats) {k:fJ} {e:St} (h:aAM k st=a6 e): ∃c',ji W0 b0 rd c' e a ats/\c.Mono c'/\c'.w=c.w:=by
 simp only[aAM]at h;split at h
 .rename_i A f
  have g:ji W0 b0 rd c {st with fr:=KA k.rets 0 st.fr} a ats:=⟨d.hp,d.nxt,d.ok,D6 0 _ _ d.fr,d.stk,d.df,d.rd⟩;obtain⟨B,i,j,l⟩:=Kz k.give g f;split at h
  .rename_i D m
   cases h;obtain⟨E,o,_,p,q,_,_⟩:=i.gc (v:=.undef) (u:=undef) (by simp[dh]) m;obtain⟨s,x,y,z⟩:=o.anew;exact⟨s,x,(j.trans p).trans y,z.trans (q.trans l)⟩
  .cases h
 .cases h
end
end
section
open Option renaming some → a6, none → a7
open Bool renaming and_eq_true → af, false_eq_true → ag
open List renaming mem_cons_of_mem → aj
open Nat renaming le_refl → ae, lt_or_ge → aJ
open Go.RowKit
def o9 {R:Type} (P:Program) (call:gX R):Prop:=
 ∀(W0:World) (b0:Nat) (rd:Option Nat) (l:bZ) (m:List bZ) (p:Option Nat) (st:St) (K:bZ->St->Option R) (r:R),call l m p st K=a6 r->
  ∀(c:Cx) (a:Act) (ats:List (Array Value)) (i:Value) (j:Array Value),ji W0 b0 rd c st a ats->dh c l i->bQ c m j.toList->
   ∃z v,K z st=a6 r/\dh c z v/\ ∀f,J3 c f->(∃g o,(do let d<-Deferred.ofValue i j;invoke d.target d.args:Sem Next).run P f=.ok (.enter g o) f/\
    Calls P g o f (fun e q=>e=.returned v/\J3 c q))\/(do let d<-Deferred.ofValue i j;invoke d.target d.args:Sem Next).run P f=.ok (.value v) f
section
variable {P:Program} {T:TT} {W0:World} {b0 n:Nat} {rd:Option Nat} {c:Cx} {R:Type} {r:R} {st:St} {a:Act} {ats:List (Array Value)}
theorem ji.ext (h:ji W0 b0 rd c st a ats) {w:World} (e:J3 c w):ji W0 b0 rd (c.at_ w) st a ats:=by
 have d:=Cx.Le.ext e;exact⟨h.hp,h.nxt,h.ok.ext e,bQ.le d _ _ h.fr,Gj.le d _ _ h.stk,let⟨f,g,i,j⟩:=h.df;⟨f,g,i,j⟩,fun l m=>let⟨L,o⟩:=h.rd l m;d.lp l L o⟩
theorem ahH (hT:TOk P T) {cl:Bool} {call:gX R} (L:o9 P call) {o:Oper} (D:kQ o.op=true) {K:bZ->St->Option R} (h:fF T cl call o st K=a6 r) (d:ji W0 b0 rd c st a ats):
  ∃z v,K z st=a6 r/\dh c z v/\ ∀w',J3 c w'->o.quietAtIn (FW rd) n P a (J3 c) w' v:=by
 by_cases hq2:iT o.op=true
 .obtain⟨z,u,j,l,p⟩:=Eg hT d.ok hq2 d.hp d.fr h;refine⟨z,u,j,l,fun w' q=> ?_⟩;unfold Oper.quietAtIn;rw[p w' q];exact⟨rfl,rfl⟩
 .obtain⟨s,M,E,G,I,J⟩:=o;cases M<;>simp only[kQ,ag]at D<;>(try (exact absurd rfl hq2))
  case call cc=>
   obtain⟨y,e,i⟩:=cc;cases y with
   |builtin b=>cases b<;>simp only[ag]at D<;>exact absurd rfl hq2
   |invoke x m=>simp_all
   |value f=>
    simp only[fF]at h;obtain⟨z,v,j,l,p⟩:=L W0 b0 rd _ _ s st K r h c a ats (a.eval f) (e.map a.eval) d (dY d.fr f) (by
     have:=bQ.map_eval (c:=c) d.fr e.toList;simpa using this)
    refine⟨z,v,j,l,fun w' q=> ?_⟩;unfold Oper.quietAtIn;rcases p w' q with ⟨g,N,A,O⟩|A
    .have B:(execOp a.eval ⟨s,.call {callee:=.value f,args:=e,argTypes:=i},E,G,I,J⟩).run P w'=.ok (.enter g N) w':=A;rw[B];exact⟨rfl,wI rd,(callsIn_wide (n:=n-1)).2 O⟩
    .have B:(execOp a.eval ⟨s,.call {callee:=.value f,args:=e,argTypes:=i},E,G,I,J⟩).run P w'=.ok (.value v) w':=A;rw[B];exact⟨rfl,rfl⟩
theorem Qw (hT:TOk P T) {cl:Bool} {call:gX R} (s:o9 P call) (ops:Array Oper) {K:St->Option R}: ∀(l:List Oper) (st:St) (a:Act),(∀o∈l,kQ o.op=true)->iP T cl call ops K l st=a6 r->ji W0 b0 rd c st a ats->
  wpQuietIn (FW rd) n P ops (J3 c) (fun m=> ∃f,K f=a6 r/\ji W0 b0 rd c f m ats) l a
 |[],st,a,u,h,e=>by
  simp only[iP]at h;exact⟨st,h,e⟩
 |o::l,st,a,u,h,e=>by
  simp only[iP]at h;have D: ∀o∈l,kQ o.op=true:=fun G I=>u G (aj _ I);have y: ∀(st:St) (a:Act),ji W0 b0 rd c st a ats->fF T cl call o st (fun v st=>iP T cl call ops K l (st.put o.dst v))=a6 r->
    o.quietIn (FW rd) n P a (J3 c) (wpQuietIn (FW rd) n P ops (J3 c) (fun m=> ∃f,K f=a6 r/\ji W0 b0 rd c f m ats) l):=fun st a e h=>by
   obtain⟨z,v,p,J,L⟩:=ahH (n:=n) hT s (u o (by simp)) h e;exact⟨v,L,Qw hT s ops l _ _ D p (e.put J)⟩
  have A: ∀(st:St),ji W0 b0 rd c st a ats->iP T cl call ops K l (st.put o.dst (.tup []))=a6 r->wpQuietIn (FW rd) n P ops (J3 c) (fun m=> ∃f,K f=a6 r/\ji W0 b0 rd c f m ats) l (a.put o.dst undef):=fun st e h=>
   Qw hT s ops l (st.put o.dst (.tup [])) (a.put o.dst undef) D h (e.put (by simp only[dh];exact⟨#[],rfl,by simp[bQ]⟩))
  simp only[wpQuietIn];refine⟨fun _ _ _ _=>trivial, ?_⟩;cases hg:o.guard with
  |none=>
   rw[hg]at h;rw[am (by simp[Region.wanted,hg])];exact y st a e h
  |some M=>
   obtain⟨j,N⟩:=M;rw[hg]at h;simp only at h;split at h
   .cases h
   .rename_i d hd
    have g:=MP ops j d hd a.tmps;have i:=e.fr.getD d;split at h
    .rename_i b B
     rw[B]at i;simp only[dh]at i;have O:=i.bool_inv;have V:d<a.tmps.size:=by
      rcases aJ d a.tmps.size with p|p
      .exact p
      simp_all [undef]
     have E:a.tmps[d]? =a6 (.bool b):=by
      simp_all
     rw[E]at g;simp only at g;have S:a.put (a6 d) (.bool b)=a:=by
      simp only[Act.put];obtain⟨W,X⟩:=Array.getElem?_eq_some_iff.1 E;have:a.tmps.setIfInBounds d (.bool b)=a.tmps:=by
       grind
      rw[this]
     have q:ji W0 b0 rd c (st.put (a6 d) (.val .bool b)) a ats:=by
      have:=e.put (dst:=a6 d) (z:=.val .bool b) (v:=.bool b) (by simp_all [dh]);rwa [S]at this
     cases b<;>cases N<;>(try simp only[aa,ac]at h)
     .rw[am (by simp[Region.wanted,hg,g])];exact y _ a q h
     .rw[aq (by simp[Region.wanted,hg,g])];exact A _ q h
     .rw[aq (by simp[Region.wanted,hg,g])];exact A _ q h
     .rw[am (by simp[Region.wanted,hg,g])];exact y _ a q h
    .rename_i B
     rw[B]at i;simp only[dh]at i;obtain⟨Y,O,_⟩:=i;have U:yielded ops a.tmps j=a7:=by
      rw[g];cases he:a.tmps[d]? with
      |none=>rfl
      |some x=>
       simp_all
     rw[aq (by simp[Region.wanted,hg,U])];exact A st e h
    .cases h
section
variable {ops:Array Oper} {md:Region.Mode} {C:World->Prop} {F:Fence}
theorem YN {o:Oper} (hd:ug o.op=false) {a:Act} {K:Act->Prop} {g:Act->World->Prop} {j:Exit->Act->World->Prop} {w:World} (i:C w) (h: ∀a w',C w'->K a->g a w')
  (l:o.askedIn F P a C) (m:o.quietIn F n P a C K):o.wpIn F n P a w g j:=by
 obtain⟨v,p,y⟩:=m;have d:=p w i;unfold Oper.quietAtIn at d;unfold Oper.wpIn;refine⟨l w i, ?_⟩;rw[Ak hd];generalize (execOp a.eval o).run P w=r at*;cases r with
 |ok x w'=>
  cases x<;>simp only[Oper.quietUponIn]at d<;>simp only[Oper.uponIn]
  case value u=>
   simp_all
  case skip=>
   simp_all
  case enter f args=>
   obtain⟨q,hd,s⟩:=d;rw[q];exact⟨hd,s.mono fun e z ⟨A,B⟩=>by simp_all⟩
 |halt x w'=>simp only[Oper.quietUponIn]at d
theorem Rq {i:Nat} (hd: ∀(i:Nat) (o:Oper),ops[i]? =a6 o->ug o.op=false) {a:Act} {K:Act->Prop} {f:Act->World->Prop} {j:Exit->Act->World->Prop} {w:World} (g:C w) (h: ∀a w',C w'->K a->f a w')
  (d:qOpIn F n P ops C i K a):wpOpIn F n P ops j i f a w:=by
 unfold qOpIn at d;unfold wpOpIn;split
 .simp_all
 .rename_i o l
  simp only[l]at d;obtain⟨m,d⟩:=d;split
  .rename_i e;simp only[e,if_true]at d;grind [YN]
  .rename_i e;simp only[e]at d;exact⟨m w g,h _ _ g d⟩
theorem Cc {Q:Act->Prop} {g:Exit->Act->World->Prop} (hd: ∀(i:Nat) (o:Oper),ops[i]? =a6 o->ug o.op=false) (f: ∀a w,C w->Q a->g .normal a w): ∀(d:Nat) (j:Array Bool) (a:Act) (w:World),C w->
  wpAnyQIn F n P md ops C Q d j a->wpAnyIn F n P md ops g d j a w
 |0,_,_,_,e,h=>⟨h.1,f _ _ e h.2⟩
 |d+1,_,_,_,e,h=>⟨fun l=>f _ _ e (h.1 l),fun i m=>Rq hd e (fun p q s=>Cc hd f d _ p q s) (h.2 i m)⟩
theorem MO {id:Nat} {Q:Exit->Act->World->Prop} {a:Act} {w:World} (hd: ∀(i:Nat) (o:Oper),ops[i]? =a6 o->ug o.op=false) (f:P.follows .mixedOrders=true) (d:Region.lexB .any ops=true) (g:C {w with drawn:=w.drawn+1})
  (h:wpQuietIn F n P ops C (fun e=> ∀w',C w'->Q .normal e w') ops.toList a):(Code.region id ops true).wpIn F n P Q a w:=by
 simp only[Region.lexB,af]at d;refine wpIn_region_any f (Cc (Q:=fun e=> ∀w',C w'->Q .normal e w') hd (fun _ w' j h=>h w' j) _ _ _ _ g ?_);have:=wpAnyQIn_lex (F:=F) (n:=n) (C:=C) (md:=.any) d.1 ops.toList 0 (Array.replicate ops.size false) a (by simp) (by simpa using d.2) h;simpa using this
end
theorem AC {F:Fence} {ops:Array Oper} {C:World->Prop} {Q g:Act->Prop} (h: ∀a,Q a->g a): ∀(l:List Oper) (a:Act),wpQuietIn F n P ops C Q l a->wpQuietIn F n P ops C g l a
 |[],a,d=>h a d
 |o::l,a,d=>by
  simp only[wpQuietIn]at d ⊢;refine⟨d.1, ?_⟩;have e:=d.2;split
  .rename_i f
   rw[am f]at e;exact Oper.quietIn_mono (AC h l) e
  .rename_i f
   rw[aq f]at e;exact AC h l _ e
theorem Ze {d:Op} (h:kQ d=true):ug d=false:=by cases d<;>first|rfl|(simp[kQ]at h)
theorem Ry (hT:TOk P T) (l:P.follows .mixedOrders=true) {cl:Bool} {call:gX R} (m:o9 P call) {id:Nat} {ops:Array Oper} (f:OU ops=true) {K:St->Option R} {Q:Exit->Act->World->Prop}
  (h:iP T cl call ops K ops.toList st=a6 r) (p:ji W0 b0 rd c st a ats) (q: ∀c' d e,K d=a6 r->ji W0 b0 rd c' d e ats->c.Mono c'->Q .normal e c'.w):
  (Code.region id ops true).wpIn (FW rd) n P Q a c.w:=by
 simp only[OU,af]at f;have g: ∀o∈ops.toList,kQ o.op=true:=List.all_eq_true.1 f.1;refine MO (C:=J3 c) (fun i o y=>Ze (g o (by grind))) l f.2 ⟨rfl,rfl,rfl,ae _,fun _ _=>rfl⟩ ?_;refine AC (fun e s u j=> ?_) _ _ (Qw (n:=n) hT m ops ops.toList st a g h p);obtain⟨d,v,x⟩:=s;exact q (c.at_ u) d e v (x.ext j) (Cx.Le.ext j).mono
end
end
section
open Option renaming some → a6, none → a7
open Bool renaming and_eq_true → af, false_eq_true → ag
open List renaming map_cons → au, map_nil → aX
open Nat renaming le_refl → ae
open Go.RowKit
section
variable {P:Program} {T:TT} {W0:World} {b0 n:Nat} {rd:Option Nat} {c:Cx} {R:Type} {r:R} {st:St} {a:Act} {ats:List (Array Value)} {t:TypeId}
theorem aDS (hT:TOk P T) (U:c.Ok W0) {cl:Bool} {call:gX R} {o:Oper} {st:St} {a:Act} {K:bZ->St->Option R} (M:MB o.op=true) (I:c.hp=st.hp) (m:bQ c st.fr a.tmps.toList)
  (h:fF T cl call o st K=a6 r): ∃z u,K z st=a6 r/\dh c z u/\ ∀w',(execOp a.eval o).run P w'=.ok (.value u) w':=by
 have G: ∀{s:Sem Value} {u:Value} {w':World},s.run P w'=.ok u w'->(do pure (Next.value (<-s)):Sem Next).run P w'=.ok (.value u) w':=fun V=>by
  simp[Sem.run_bind,V]
 obtain⟨aw,W,ty,ax,ay,az⟩:=o;simp only at M;cases W<;>simp only[MB,ag]at M
 case move x=>exact⟨_,_,h,dY m x,fun w'=>rfl⟩
 case assign x=>exact⟨_,_,h,dY m x,fun w'=>rfl⟩
 case pick x y z=>
  simp only[fF]at h;have X:=dY m x;split at h
  .rename_i b A
   rw[A]at X;simp only[dh]at X;have ab:=X.bool_inv;cases b
   .exact⟨_,_,h,dY m z,fun w'=>by simp[execOp,ab,asBool]⟩
   .exact⟨_,_,h,dY m y,fun w'=>by simp[execOp,ab,asBool]⟩
  .cases h
 case nilCheck x=>
  simp only[fF]at h;have d:=dY m x;split at h
  .rename_i id aj J
   rw[J]at d;split at h
   .rename_i bt cs ad
    have N:=d;simp only[dh]at d;rw[<-I]at ad;have D:=d.2.2 _ _ ad;exact⟨_,_,h,N,fun w'=>by simp[execOp,D]⟩
   .cases h
  .rename_i y e J
   rw[J]at d;have N:=d;simp only[dh]at d;obtain⟨b,o,zs,D,_⟩:=d;exact⟨_,_,h,N,fun w'=>by simp[execOp,D]⟩
  .rename_i id ak i aj J
   rw[J]at d;split at h
   .rename_i e u xs ah
    replace h:=dL h;obtain⟨E,h⟩:=h;have E:u=ak:=by simpa using E
    subst E;have N:=d;simp only[dh]at d;rw[<-I]at ah;obtain⟨g,n,cp,_,D⟩:=(d.2.2 _ _ _ ah).2 rfl;exact⟨_,_,h,N,fun w'=>by simp[execOp,D]⟩
   .cases h
  .cases h
 case binOp W t x y yt=>
  simp only[fF]at h;rw[<-I]at h;obtain⟨z,u,j,p,q⟩:=ayu (P:=P) (ox:=x) (oy:=y) (K:=fun v=>K v st) hT U h (dY m x) (dY m y);exact⟨z,u,j,p,fun w'=>G (q w')⟩
 case unOp W t x=>
  simp only[fF]at h;obtain⟨z,u,j,p,q⟩:=aMT (P:=P) (K:=fun v=>K v st) h (dY m x);exact⟨z,u,j,p,fun w'=>G (q w')⟩
 case slice t x lo hi mx=>
  simp only[fF]at h;rw[<-I]at h;obtain⟨z,u,j,p,q⟩:=aoC (P:=P) (K:=fun v=>K v st) hT U h (dY m x) (nI.map m lo) (nI.map m hi) (nI.map m mx);exact⟨z,u,j,p,fun w'=>G (q w')⟩
 case fieldAddr t x f=>
  simp only[fF]at h;rw[<-I]at h;obtain⟨z,u,j,p,q⟩:=SL (P:=P) (K:=fun v=>K v st) hT h (dY m x);exact⟨z,u,j,p,fun w'=>G (q w')⟩
 case field t x f=>
  simp only[fF]at h;obtain⟨z,u,j,p,q⟩:=aoA (P:=P) (K:=fun v=>K v st) hT h (dY m x);exact⟨z,u,j,p,fun w'=>G (q w')⟩
 case indexAddr t x i=>
  simp only[fF]at h;rw[<-I]at h;obtain⟨z,u,j,p,q⟩:=SN (P:=P) (K:=fun v=>K v st) hT U h (dY m x) (dY m i);exact⟨z,u,j,p,fun w'=>G (q w')⟩
 case index t x i=>
  simp only[fF]at h;split at h
  .rename_i s n V Y
   replace h:=gW h;obtain⟨j,h⟩:=h;have d:=dY m x;rw[V]at d;obtain⟨p,q⟩:=aoB (P:=P) hT d (dY m i) Y j;exact⟨_,_,h,p,fun w'=>G (q w')⟩
  .cases h
 case extract x n=>
  simp only[fF]at h;have d:=dY m x;split at h
  .rename_i l hl
   rw[hl]at d;split at h
   .rename_i v D
    simp only[dh]at d;obtain⟨vs,J,ai⟩:=d;obtain⟨Y,D⟩:=List.getElem?_eq_some_iff.1 D;have an:=bQ.length _ _ ai;simp at an;have j:=bQ.get _ _ ai n Y (by simp;omega);rw[D]at j;simp only[Array.getElem_toList]at j;refine⟨_,_,h,j,fun w'=>G ?_⟩;rw[J];have:vs[n]? =a6 vs[n]:=Array.getElem?_eq_getElem (by omega);simp[Instr.extract,this]
   .cases h
  .cases h
 case call cc=>
  obtain⟨aA,O,ao⟩:=cc;simp only at M;have B:=bQ.map_eval (c:=c) m O.toList;split at M
  all_goals try (cases M;done)
  .
   simp only[fF,lJ]at h;split at h<;>try (cases h;done)
   .rename_i x A d
    split at h<;>try (cases h;done)
    rename_i t ht
    rw[<-I]at h;obtain⟨L,av⟩: ∃L,O= #[L]:=by
     obtain⟨l⟩:=O
     match l,d with
     |[L],_=>exact⟨L,rfl⟩
    subst av;obtain⟨t0⟩:=ao;simp only at ht;subst ht;simp only[au,aX,List.cons.injEq,and_true]at d;subst d;obtain⟨z,u,j,p,q⟩:=q_len (P:=P) (K:=fun v=>K v st) hT U h (dY m L) (ty:=ty);exact⟨z,u,j,p,fun w'=>by simp[execOp,resolve,invoke,builtin,Sem.run_bind,q w']⟩
   all_goals (rename_i A _;cases A)
  .
   simp only[fF,lJ]at h;split at h<;>try (cases h;done)
   all_goals try (rename_i A _;cases A;done)
   rename_i k n l A d
   split at h<;>try (cases h;done)
   rename_i ns Z
   rw[d]at B;obtain⟨S⟩:=O;cases S with
   |nil=>simp[bQ]at B
   |cons L S=>
    simp only[au,bQ]at B;have E:=B.1;simp only[dh]at E;have j:=E.int_inv;have p:=wK _ _ _ Z B.2;exact⟨_,_,h,by simp only[dh];exact VD.int_mk,fun w'=>by simp[execOp,resolve,invoke,builtin,Sem.run_bind,Builtin.min_,j,p,XT]⟩
  .
   simp only[fF,lJ]at h;split at h<;>try (cases h;done)
   all_goals try (rename_i A _;cases A;done)
   rename_i k n l A d
   split at h<;>try (cases h;done)
   rename_i ns Z
   rw[d]at B;obtain⟨S⟩:=O;cases S with
   |nil=>simp[bQ]at B
   |cons L S=>
    simp only[au,bQ]at B;have E:=B.1;simp only[dh]at E;have j:=E.int_inv;have p:=wK _ _ _ Z B.2;exact⟨_,_,h,by simp only[dh];exact VD.int_mk,fun w'=>by simp[execOp,resolve,invoke,builtin,Sem.run_bind,Builtin.max_,j,p,XR]⟩
def iY {e:Type} (x:Sem e):Prop:= ∀P w v d,x.run P w=.ok v d->Below w.heap.size w d
theorem iY.pure {d:Type} (v:d):iY (pure v:Sem d):=fun P w v e h=>by simp_all [Below.refl]
theorem iY.looks {d:Type} {x:Sem d} (h:x.Looks):iY x:=fun P w v f e=>by rw[h.ok e];exact Below.refl _ _
theorem iY.bind {g j:Type} {x:Sem g} {f:g->Sem j} (hx:iY x) (hf: ∀a,iY (f a)):iY (x>>=f):=fun P w v l h=>by
 rw[Sem.run_bind]at h;cases hr:x.run P w with
 |halt e d=>simp_all
 |ok u d=>
  rw[hr,Result.andThen_ok]at h;have i:=hx P w u d hr;exact i.trans ((hf u P d v l h).mono i.size)
theorem iY.never {d:Type} {x:Sem d} (h: ∀P w v w',x.run P w≠ .ok v w'):iY x:=fun P w v w' e=>absurd e (h P w v w')
theorem iY.ite {d:Type} {p:Prop} [Decidable p] {x y:Sem d} (hx:iY x) (e:iY y):iY (if p then x else y):=by split<;>assumption
theorem iY.new (o:Obj):iY (newObj o):=fun P w v d h=>by
 have e:(newObj o).run P w=.ok w.heap.size (w.alloc o):=rfl;rw[e]at h;cases h;exact(Below.refl _ _).alloc (ae _) o
theorem yc (t:TypeId):iY (underlying t):=.looks (underlying_looks t)
theorem ajG (t:TypeId):iY (typeInfo t):=.looks (typeInfo_looks t)
theorem Wp (t:TypeId):iY (sizeOf t):=.looks (sizeOf_looks t)
theorem rY {d:Type} (s:String):iY (stuck s:Sem d):=.looks (stuck_looks s)
theorem Ky {d:Type} (u:Unsupported):iY (unsupported u:Sem d):=.looks (unsupported_looks u)
theorem amS (t:TypeId):iY (isAgg t):=by
 unfold isAgg;refine(yc t).bind fun d=> ?_;split<;>exact .pure _
theorem agP (t:TypeId):iY (zeroValue t):=by
 unfold zeroValue;refine(ajG t).bind fun d=> ?_;split
 .exact .pure _
 .exact Ky _
theorem ajF (v:Value):iY (Instr.sureAddr v):=by
 unfold Instr.sureAddr;split
 .exact .pure _
 .exact rY _
theorem arn (t:TypeId) (a:Addr):iY (loadVar t a):=by
 unfold loadVar;refine(amS t).bind fun d=> ?_;split
 .exact(Wp t).bind fun k=>(iY.looks (loadCells_looks a k)).bind fun _=>.pure _
 .exact .looks (load_looks _ _)
theorem ark (v:Value):iY (asIntOf v):=by
 unfold asIntOf;split
 .exact .pure _
 .exact Ky _
 .exact rY _
theorem awq (v:Value):iY (asBool v):=by
 unfold asBool;split
 .exact .pure _
 .exact rY _
theorem Xh {d g:Type} {x:Sem d} {f:d->Sem g} (hf: ∀a P w v w',(f a).run P w≠ .ok v w'): ∀P w v w',(x>>=f).run P w≠ .ok v w':=fun P w v w' h=>by
 rw[Sem.run_bind]at h;cases hr:x.run P w with
 |halt e i=>simp_all
 |ok u i=>simp_all
theorem Y3 {d:Type} (v:Value): ∀P w u w',(goPanic v:Sem d).run P w≠ .ok u w':=fun P w u w' h=>by cases h
theorem LU {d:Type} (e:RuntimeError): ∀P w u w',(runtimePanic e:Sem d).run P w≠ .ok u w':=by
 grind [runtimePanic,Xh,Y3]
theorem YU {d:Type} (k:IntKind) (x y:Int) (code:BoundsCode):iY (boundsPanic k x y code:Sem d):=by
 unfold boundsPanic;dsimp only;split<;>exact .never (Xh fun _=>LU _)
theorem agN (e:TypeId) (cs:Array Value):iY (newRow e cs):=by
 unfold newRow;exact(iY.new _).bind fun _=>.pure _
theorem aG4 (t:TypeId) (cs:Array Value) (off:Nat):iY (part t cs off):=by
 unfold part;refine(amS t).bind fun b=> ?_;split
 .exact(Wp t).bind fun _=>.pure _
 .split
  .exact .pure _
  .exact rY _
theorem aws (t:TypeId) (v:Value):iY (Instr.loadAt t v):=by
 unfold Instr.loadAt;exact(ajF v).bind fun a=>arn t a
theorem arl (t:Value) (i:Nat):iY (Instr.extract t i):=by
 unfold Instr.extract;split
 .split
  .exact .pure _
  .exact rY _
 .exact rY _
theorem aB4 (t:TypeId) (x i:Value):iY (Instr.index t x i):=by
 unfold Instr.index;refine(ark i).bind fun e=> ?_;refine(yc t).bind fun d=> ?_
 repeat' first
  |exact YU _ _ _ _
  |exact rY _
  |exact .pure _
  |exact(Wp _).bind fun _=>aG4 _ _ _
  |split
  |dsimp only
theorem aLZ (t:TypeId) (v:Value):iY (Instr.box t v):=by
 unfold Instr.box newVar;exact(agN _ _).bind fun _=>.pure _
theorem aB3 (t:TypeId):iY (Instr.alloc t true (.tuple #[])):=by
 unfold Instr.alloc;refine(agP t).bind fun z=> ?_;dsimp only;unfold newVar;exact(agN _ _).bind fun _=>.pure _
theorem acd (r:Nat):(getObj r).Looks:=fun _=>trivial
theorem agM (r:Nat):iY (getObj r):=.looks (acd r)
theorem aB5 (r:Nat):iY (Go.shape r):=.looks (fun _=>trivial)
theorem awt (r:Nat):iY (viewAt r):=by
 unfold viewAt
 repeat' first
  |exact .pure _
  |exact aB5 _
  |exact agM _
  |(refine iY.bind ?_ fun _=> ?_)
  |split
  |dsimp only
theorem awr (t:TypeId):iY (elemOf t):=by
 unfold elemOf;refine(yc t).bind fun d=> ?_;split
 .exact .pure _
 .exact rY _
theorem aL0 (d:Array TypeId) (ty:TypeId) (args:Array Value):iY (Builtin.len_ d ty args):=by
 unfold Builtin.len_
 repeat' first
  |exact .pure _
  |exact rY _
  |exact yc _
  |exact agM _
  |(refine iY.bind ?_ fun _=> ?_)
  |split
  |dsimp only
theorem agO (d:Array TypeId) (ty:TypeId) (args:Array Value):iY (Builtin.unsafeSliceData_ d ty args):=by
 obtain⟨l⟩:=args
 match l with
 |[]=>exact rY _
 |_::_::_=>exact rY _
 |[v]=>
  cases v with
  |slice a n c=>
   cases a with
   |none=>exact iY.pure _
   |some a=>
    have e:Builtin.unsafeSliceData_ d ty #[.slice (a6 a) n c]=(do
      if c≠0 then pure (.pointer (a6 a))
      else if(<-viewAt a.block).isSome then pure (.pointer (a6 a))
      else pure (.pointer (a6 ⟨<-newObj (.view a (<-elemOf ty)),0,a7⟩))):=rfl
    rw[e]
    repeat' first
     |exact .pure _
     |exact awt _
     |exact awr _
     |exact iY.new _
     |(refine iY.bind ?_ fun _=> ?_)
     |split
     |dsimp only
  |_=>exact rY _
theorem ajS {o:Oper} (hk:TR o.op=true) (d:Operand->Value) (P:Program) (w:World) (v:Next) (w':World) (h:(execOp d o).run P w=.ok v w'):(∃u,v=.value u)/\Below w.heap.size w w':=by
 have f: ∀{s:Sem Value},iY s->(do pure (Next.value (<-s)):Sem Next).run P w=.ok v w'->(∃u,v=.value u)/\Below w.heap.size w w':=fun {s} D h=>by
  rw[Sem.run_bind]at h;cases hr:s.run P w with
  |halt e E=>simp_all
  |ok u E=>
   rw[hr,Result.andThen_ok,Sem.run_pure]at h;cases h;exact⟨⟨u,rfl⟩,D P w u w' hr⟩
 obtain⟨l,G,g,m,p,q⟩:=o;simp only at hk;cases G<;>simp only[TR,ag]at hk
 case move x=>cases h;exact⟨⟨_,rfl⟩,Below.refl _ _⟩
 case assign x=>cases h;exact⟨⟨_,rfl⟩,Below.refl _ _⟩
 case pick x y z=>
  have e:execOp d ⟨l,.pick x y z,g,m,p,q⟩=(do pure (Next.value (<-(do pure (if<-asBool (d x)then d y else d z):Sem Value))):Sem Next):=by
   simp[execOp,bind_assoc]
  rw[e]at h;exact f ((awq _).bind fun _=>.pure _) h
 case load t x=>exact f (aws t (d x)) h
 case index t x i=>exact f (aB4 t (d x) (d i)) h
 case extract x i=>exact f (arl (d x) i) h
 case box t x=>exact f (aLZ t (d x)) h
 case alloc t=>exact f (aB3 t) h
 case call cc=>
  obtain⟨A,j,B⟩:=cc;cases A with
  |builtin b=>
   cases b<;>simp only[ag]at hk
   case len=>
    grind [execOp,builtin,resolve,invoke,aL0]
   case unsafeSliceData=>
    have e:execOp d ⟨l,.call {callee:=.builtin .unsafeSliceData,args:=j,argTypes:=B},g,m,p,q⟩=(do pure (Next.value (<-Builtin.unsafeSliceData_ B g (j.map d))):Sem Next):=by
     rfl
    grind [agO]
  |_=>simp at hk
theorem qK {ops:Array Oper} (h:oG ops=true) (i:Nat) (o:Oper) (d:ops[i]? =a6 o):ug o.op=false/\ ∀cs b,o.op≠ .select cs b:=by
 have:=List.all_eq_true.1 h o (by grind)
 grind [ug]
def rX (P:Program) (ops:Array Oper) (C:World->Prop) (o:Oper) (v:Value) (a:Act):Prop:=
 (Region.wanted o (yielded ops a.tmps)=true/\ ∀w,C w->(execOp a.eval o).run P w=.ok (.value v) w)\/(Region.wanted o (yielded ops a.tmps)=false/\v=undef)
def abb (P:Program) (C:World->Prop) (o:Oper):Prop:=(∀w,C w)\/ ∀e w v d,C w->(execOp e o).run P w=.ok v d->(∃u,v=.value u)/\C d
variable {ops:Array Oper} {C:World->Prop} {Q:Exit->Act->World->Prop}
theorem rX.of_same {o:Oper} {v:Value} {a d:Act} (i:rX P ops C o v a) (j:execOp d.eval o=execOp a.eval o)
  (f:Region.wanted o (yielded ops d.tmps)=Region.wanted o (yielded ops a.tmps)):rX P ops C o v d:=by
 rcases i with ⟨e,g⟩|⟨e,g⟩
 .exact .inl ⟨by rw[f];exact e,fun w l=>by simp_all⟩
 .exact .inr ⟨by rw[f];exact e,g⟩
theorem rX.wpOpIn {i:Nat} {o:Oper} {v:Value} {a:Act} (hd:oG ops=true) (hi:ops[i]? =a6 o) (e:rX P ops C o v a) {K:Act->World->Prop} {w:World} (f:C w) (h:K (a.put o.dst v) w):wpOpIn (FW rd) n P ops Q i K a w:=by
 unfold Go.wpOpIn;simp only[hi];rcases e with ⟨d,g⟩|⟨d,rfl⟩
 .rw[am d];refine⟨tJ o w _, ?_⟩;rw[Ak (qK hd i o hi).1,g w f];exact h
 .rw[aq (by rw[d];simp)]
  grind [tJ]
theorem aiA {j:Nat} {e g:Oper} {v:Value} (hd:oG ops=true) (hi: ∃i:Nat,ops[i]? =a6 e) (o:ops[j]? =a6 g) (z:e.apart ops g=true) (A:abb P C g) (G: ∀c a w,¬Q (.panic c) a w) {K:Act->World->Prop} {a:Act} {w:World} (I:C w)
  (l:rX P ops C e v a) (h:wpOpIn (FW rd) n P ops Q j K (a.put e.dst v) w):wpOpIn (FW rd) n P ops Q j (fun p w'=>C w'/\rX P ops C e v p/\K (p.put e.dst v) w') a w:=by
 obtain⟨q,J,s⟩:=Oper.apart_spec z;obtain⟨i,hi⟩:=hi;have B:=(qK hd i e hi).2;obtain⟨y,D⟩:=qK hd j g o;have L: ∀(a:Act),rX P ops C e v a-> ∀u,rX P ops C e v (a.put g.dst u):=fun a l u=>l.of_same (execOp_put e B a g.dst u s) (wanted_put e a g.dst u s);unfold wpOpIn at*;simp only[o]at*;rw[wanted_put g a e.dst v q]at h;split
 .rename_i m
  rw[am m]at h;unfold Oper.wpIn at*;refine⟨tJ g w _, ?_⟩;have h:=h.2;rw[Ak y,execOp_put g D a e.dst v q]at h;rw[Ak y];have hk:(∀w,C w)\/ ∀x w',(execOp a.eval g).run P w=.ok x w'->(∃u,x=.value u)/\C w':=by
   rcases A with hk|hk
   all_goals grind
  generalize (execOp a.eval g).run P w=r at*;cases r with
  |ok x w'=>
   have E:(∀w,C w)\/((∃u,x=.value u)/\C w'):=by
    simp_all
   cases x<;>simp only[Oper.uponIn]at h ⊢
   case value u=>
    grind [Act.put_comm]
   case skip=>
    grind [Act.put_comm]
   case defer d=>
    rcases E with hk|hk
    .have M: ∀d,rX P ops C e v {a with defers:=d::a.defers}:=fun d=>l.of_same rfl rfl
     grind [Act.put_comm,Act.put_defers]
    simp_all
   case enter f args=>
    grind [Act.put_comm]
   case row row args=>
    grind [Act.put_comm]
   grind [Act.put_comm]
  |halt x w'=>
   cases x<;>simp only[Oper.uponIn]at h ⊢;simp_all
 .rename_i m
  rw[aq m]at h
  grind [tJ,Act.put_comm]
theorem Qo {l:List Nat} {i:Nat}:aag l i=true↔i∈l:=by
 simp_all [aag]
theorem IK {i:Nat} {o:Oper} {v:Value} (hd:oG ops=true) (hi:ops[i]? =a6 o) (E: ∀c a w,¬Q (.panic c) a w) (D:List Nat) (G: ∀j∈D,j≠i->IJ ops j D=true):
  ∀(p:Nat) (d:Array Bool) (a:Act) (w:World),C w->(∀j∈D,d.getD j true=false)->
   (∀j m,ops[j]? =a6 m->j∉D->d.getD j true=false->o.apart ops m=true/\abb P C m)->i∈D->
   i∈Region.ready .any ops d->rX P ops C o v a->
   wpAnyIn (FW rd) n P .any ops Q p (d.setIfInBounds i true) (a.put o.dst v) w->wpAnyIn (FW rd) n P .any ops Q (p+1) d a w:=by
 have I: ∀(d:Array Bool) (j:Nat),(∀j∈D,d.getD j true=false)->j∈Region.ready .any ops d->j≠i->j∉D:=fun d j q l f s=>by
  have g:=G j s f;unfold IJ at g;obtain⟨_,m,u,J⟩:=mem_ready.1 l;rw[u]at g;obtain⟨e,he,K⟩:=Array.any_eq_true'.1 g;simp only[af]at K
  grind [Qo]
 intro p
 induction p with
 |zero=>
  intro d a w g q _ y z x H;refine⟨fun h=>(by simp_all),fun j l=> ?_⟩;by_cases f:j=i
  .subst f;exact x.wpOpIn hd hi g H
  .have:=ready_mono l f;rw[H.1]at this;cases this
 |succ p L=>
  intro d a w g q A y z x H;refine⟨fun h=>(by simp_all),fun j l=> ?_⟩;by_cases f:j=i
  .subst f;exact x.wpOpIn hd hi g H
  .have M:=H.2 j (ready_mono l f);have s:=I d j q l f;obtain⟨N,m,u,J⟩:=mem_ready.1 l;obtain⟨O,S⟩:=A j m u s N;have U:=aiA hd ⟨i,hi⟩ u O S E g x M;have V: ∀k∈D,(d.setIfInBounds j true).getD k true=false:=fun k hk=>by
    rw[getD_set_ne true (fun e=>s (by rw[e];exact hk))];exact q k hk
   have W: ∀k ok,ops[k]? =a6 ok->k∉D->(d.setIfInBounds j true).getD k true=false->o.apart ops ok=true/\abb P C ok:=fun k ok hk X ab=>by
    refine A k ok hk X ?_;by_cases hjk:j=k
    all_goals simp_all
   refine wpOpIn_mono (fun Y Z B=>L (d.setIfInBounds j true) Y Z B.1 V W y (ready_mono z (Ne.symm f)) B.2.1 ?_) U;simp_all [Array.setIfInBounds_comm]
theorem Nz {cl:Bool} {call:gX R} {K:St->Option R} (o:Oper) (l:List Oper) (st:St):iP T cl call ops K (o::l) st=iP T cl call ops (iP T cl call ops K l) [o] st:=by
 simp only[iP]
theorem ahG {cl:Bool} {call:gX R} {K:St->Option R} {o:Oper} (h:iP T cl call ops K [o] st=a6 r) (f:ji W0 b0 rd c st a ats):
  (Region.wanted o (yielded ops a.tmps)=true/\ ∃st1,ji W0 b0 rd c st1 a ats/\fF T cl call o st1 (fun v st=>K (st.put o.dst v))=a6 r)\/
  (Region.wanted o (yielded ops a.tmps)=false/\ ∃st1,ji W0 b0 rd c st1 (a.put o.dst undef) ats/\K st1=a6 r):=by
 simp only[iP]at h;have y: ∀(st:St),ji W0 b0 rd c st a ats->ji W0 b0 rd c (st.put o.dst (.tup [])) (a.put o.dst undef) ats:=fun st f=>f.put (by simp only[dh];exact⟨#[],rfl,by simp[bQ]⟩);cases hg:o.guard with
 |none=>
  grind [Region.wanted]
 |some m=>
  obtain⟨j,p⟩:=m;rw[hg]at h;simp only at h;split at h
  .cases h
  .rename_i d hd
   have g:=MP ops j d hd a.tmps;have e:=f.fr.getD d;have q:=bQ.length _ _ f.fr;rw[Array.length_toList]at q;split at h
   .rename_i b i
    rw[i]at e;simp only[dh]at e;have s:=e.bool_inv;have A:d<a.tmps.size:=by
     grind
    have l:a.tmps[d]? =a6 (.bool b):=by
     simp_all
    rw[l]at g;simp only at g;have u:a.put (a6 d) (.bool b)=a:=by
     simp only[Act.put];obtain⟨B,D⟩:=Array.getElem?_eq_some_iff.1 l;have:a.tmps.setIfInBounds d (.bool b)=a.tmps:=by
      grind
     rw[this]
    have E:ji W0 b0 rd c (st.put (a6 d) (.val .bool b)) a ats:=by
     have:=f.put (dst:=a6 d) (z:=.val .bool b) (v:=.bool b) (by simp_all [dh]);rwa [u]at this
    cases b<;>cases p<;>(try simp only[aa,ac]at h)
    .grind [Region.wanted]
    .grind [Region.wanted]
    .grind [Region.wanted]
    grind [Region.wanted]
   .rename_i i
    rw[i]at e;simp only[dh]at e;obtain⟨G,s,_⟩:=e;have I:yielded ops a.tmps j=a7:=by
     rw[g];cases he:a.tmps[d]? with
     |none=>rfl
     |some x=>
      simp_all
    grind [Region.wanted]
   .cases h
theorem aiu {e:Array Bool} {i:Nat} {pure:Bool} {f:Oper} (hi:ops[i]? =a6 f) (h:Yy ops e i pure=true): ∃D:List Nat,i∈D/\(∀j∈D,e.getD j true=false)/\(∀j∈D,j≠i->IJ ops j D=true)/\
  ∀j d,ops[j]? =a6 d->j∉D->e.getD j true=false->f.apart ops d=true/\(pure=true\/TR d.op=true):=by
 unfold Yy at h;rw[hi]at h;simp only[af]at h;obtain⟨l,m,o⟩:=h;refine⟨_,Qo.1 l,fun j g=> ?_,fun j g q=> ?_,fun j d p s u=> ?_⟩
 .simp_all
 .have:=List.all_eq_true.1 m j g;simp_all
 .have:=List.all_eq_true.1 o j (List.mem_range.2 (Array.getElem?_eq_some_iff.1 p).1);simp_all [Qo]
theorem aam {f:Op->Bool} {i:Nat} (h:ako ops f i=true): ∃o,ops[i]? =a6 o/\f o.op=true:=by
 grind [ako]
theorem alm {d:Op} (h:MB d=true):iT d=true:=by
 cases d<;>simp_all [MB,iT,kQ]
theorem Ij (hT:TOk P T) {cl:Bool} {call:gX R} (E:nX P W0 n call) (hd:oG ops=true) {K:St->Option R} {Q:Act->World->Prop}:
  ∀(m:Nat) (g:Array Bool) (l:List Nat) (c:Cx) (st:St) (a:Act),xm ops m g=a6 l->iP T cl call ops K (l.filterMap fun i=>ops[i]?) st=a6 r->ji W0 b0 rd c st a ats->
   (∀c' M S,K M=a6 r->ji W0 b0 rd c' M S ats->c.Mono c'->Q S c'.w)->wpAnyIn (FW rd) n P .any ops (fun e a w=>e=.normal/\Q a w) m g a c.w
 |0,g,l,c,st,a,d,h,G,y=>by
  simp only[xm]at d;rw[cond_eq_ite]at d;split at d
  .rename_i he
   cases d;simp only[List.filterMap_nil,iP]at h;exact⟨by simpa using he,rfl,y c st a h G (Cx.Mono.refl c)⟩
  .cases d
 |m+1,g,l,c,st,a,d,h,G,y=>by
  have U: ∀c (a:Act) (w:World),¬(Exit.panic c=.normal/\Q a w):=fun c a w h=>by cases h.1
  have take: ∀(i:Nat) (q:Bool) (p:List Nat),i∈Region.ready .any ops g->(if q then ako ops MB i=true else ako ops iT i=true)->Yy ops g i q=true->xm ops m (g.setIfInBounds i true)=a6 p->
    iP T cl call ops K ((i::p).filterMap fun i=>ops[i]?) st=a6 r->wpAnyIn (FW rd) n P .any ops (fun e a w=>e=.normal/\Q a w) (m+1) g a c.w:=fun i q p V av ah I h=>by
   obtain⟨o,N,hq,ai⟩: ∃o,ops[i]? =a6 o/\iT o.op=true/\(q=true->MB o.op=true):=by
    grind [aam,alm]
   obtain⟨D,W,X,Y,d4⟩:=aiu N ah;simp only[List.filterMap_cons,N]at h;rw[Nz]at h;have Z: ∀j J,ops[j]? =a6 J->j∉D->g.getD j true=false->o.apart ops J=true/\abb P (fun w=>q=true\/J3 c w) J:=fun j J aj ak hl=>by
    obtain⟨e1,L⟩:=d4 j J aj ak hl;refine⟨e1, ?_⟩;rcases L with L|L
    .exact .inl fun w=>.inl L
    .refine .inr fun ρ w v w' B hx=> ?_;obtain⟨hu,hb⟩:=ajS L ρ P w v w' hx;exact⟨hu,B.imp (fun h=>h) fun B=>B.trans (hb.mono B.size)⟩
   have ab:q=true\/J3 c c.w:=.inr (Below.refl _ _);rcases ahG h G with ⟨s,A,f,x⟩|⟨s,A,f,x⟩
   .have hy: ∃z u,iP T cl call ops K (p.filterMap fun i=>ops[i]?) (A.put o.dst z)=a6 r/\dh c z u/\rX P ops (fun w=>q=true\/J3 c w) o u a:=by
     cases q with
     |true=>
      obtain⟨z,u,k1,k2,k3⟩:=aDS hT f.ok (ai rfl) f.hp f.fr x;exact⟨z,u,k1,k2,.inl ⟨s,fun w _=>k3 w⟩⟩
     |false=>
      obtain⟨z,u,k1,k2,k3⟩:=Eg hT f.ok hq f.hp f.fr x;exact⟨z,u,k1,k2,.inl ⟨s,fun w B=>k3 w (B.resolve_left (by simp))⟩⟩
    obtain⟨z,u,k1,k2,k3⟩:=hy;exact IK hd N U D Y m g a c.w ab X Z W V k3 (Ij hT E hd m _ p c (A.put o.dst z) (a.put o.dst u) I k1 (f.put k2) y)
   .exact IK hd N U D Y m g a c.w ab X Z W V (.inr ⟨s,rfl⟩) (Ij hT E hd m _ p c A (a.put o.dst undef) I x f y)
  simp only[xm]at d;split at d
  .rename_i O
   cases d;simp only[List.filterMap_nil,iP]at h;exact⟨fun _=>⟨rfl,y c st a h G (Cx.Mono.refl c)⟩,by rw[O];simp⟩
  .rename_i k rs O
   split at d
   .grind
   .split at d
    .grind
    .split at d
     .split at d
      .rename_i p I
       cases d;obtain⟨_,ok,ad,_⟩:=mem_ready.1 (show k∈Region.ready .any ops g by rw[O];simp);simp only[List.filterMap_cons,ad]at h;rw[Nz]at h;refine wpAnyIn_all O (by simp) fun j hj=> ?_;obtain rfl:j=k:=by simpa using hj
       unfold wpOpIn;simp only[ad];rcases ahG h G with ⟨s,A,f,x⟩|⟨s,A,f,x⟩
       .rw[am s];exact Xo hT E x f fun c' z u M k1 k2 k3 k4=>Ij hT E hd m _ p c' (M.put ok.dst z) (a.put ok.dst u) I k1 (k2.put k3) fun al an ao q1 q2 q3=>y al an ao q1 q2 (k4.trans q3)
       .rw[aq (by rw[s];simp)];exact⟨tJ ok c.w _,Ij hT E hd m _ p c A (a.put ok.dst undef) I x f y⟩
      .cases d
     .cases d
theorem Zd (hT:TOk P T) (i:P.follows .mixedOrders=true) {cl:Bool} {call:gX R} (j:nX P W0 n call) {id:Nat} {l:List Oper} (hp:alh ops=a6 l) {K:St->Option R} {Q:Exit->Act->World->Prop}
  (h:iP T cl call ops K l st=a6 r) (m:ji W0 b0 rd c st a ats) (o: ∀c' d f,K d=a6 r->ji W0 b0 rd c' d f ats->c.Mono c'->Q .normal f c'.w):
  (Code.region id ops true).wpIn (FW rd) n P Q a c.w:=by
 unfold alh at hp;rw[cond_eq_ite]at hp;split at hp
 .rename_i hd
  split at hp
  .rename_i p q
   cases hp;have g:J3 c {c.w with drawn:=c.w.drawn+1}:=⟨rfl,rfl,rfl,ae _,fun _ _=>rfl⟩;have s:=Ij (Q:=fun a w=>Q .normal a w) hT j hd ops.size _ p (c.at_ {c.w with drawn:=c.w.drawn+1}) st a q h (m.ext g) fun c' d f k1 k2 k3=>o c' d f k1 k2 ((Cx.Le.ext g).mono.trans k3);exact Code.wpIn_mono (fun e a w u=>by simp_all) (wpIn_region_any i s)
  .cases hp
 .cases hp
end
end
section
open Option renaming some → a6, none → a7
open List renaming mem_cons_of_mem → aj
open Nat renaming lt_of_lt_of_le → bu
open Go.RowKit
def xU {R:Type} (P:Program) (W0:World) (l:oQ R):Prop:=
 ∀(f:FuncId) (g:List bZ) (st:St) (K:bZ->St->Option R) (r:R),l (.call f g) st K=a6 r->
  ∀(b0:Nat) (rd:Option Nat) (c:Cx) (a:Act) (ats:List (Array Value)) (d:Array Value),ji W0 b0 rd c st a ats->bQ c g d.toList->
   ∀i:Ending->World->Prop,(∀e z u j,K z j=a6 r->ji W0 b0 rd e j a ats->dh e z u->c.Mono e->i (.returned u) e.w)->
    (callFunc f d).run P c.w=.ok (.enter f d) c.w/\Calls P f d c.w i
section
variable {P:Program} {T:TT} {W0:World} {b0 n:Nat} {rd:Option Nat} {c:Cx} {R:Type} {r:R} {st:St} {a:Act} {ats:List (Array Value)}
def Ex.xt:Ex->Exit
 |.normal=>.normal
 |.exit i=>.exit i
 |.goto l=>.goto l
 |.ret=>.ret
section
variable {F:Fence} {b:Frame} {k:List Item} {cs:List Frame} {w:World} {Q:Exit->Act->World->Prop}
theorem tq {x:Code}:step P (lone (b.atR a (.code (.scope x)::k)) cs w)=.next (lone (b.atR a (.code x:: .inScope x::k)) cs w):=
 step_lone_go (by rfl)
theorem Zk {x:Code}:step P (lone (b.atR a (.inScope x::k)) cs w)=.next (lone (b.atR a k) cs w):=
 step_lone_go (by rfl)
theorem alQ {x:Code} (h:x.wpIn F n P (fun e a w=>(∀l,e≠ .goto l)/\Q e a w) a w):(Code.scope x).wpIn F n P Q a w:=by
 intro b k cs s m o;have d:(lone (b.atR a (.code (.scope x)::k)) cs w).fenced P F:=fenced_calm m o rfl;obtain⟨e,g,i,⟨B,j⟩,f⟩:=h b (.inScope x::k) cs s m o;cases e with
 |normal=>exact⟨.normal,g,i,j,.head d tq (StepsIn.trans f (.one (fenced_calm m o rfl) Zk))⟩
 |exit p=>
  have q:exitTo p (.inScope x::k)=exitTo p k:=by simp[exitTo]
  exact⟨.exit p,g,i,j,fun u hk=>.head d tq (f.1 u (by rw[q];exact hk)),
   fun v hk=>let⟨y,z,A⟩:=f.2 v (by rw[q];exact hk);⟨y,z,.head d tq A⟩⟩
 |goto l=>simp_all
 |ret=>exact⟨_,g,i,j,.of_steps (.one d tq) f⟩
 |panic D=>exact⟨_,g,i,j,.of_steps (.one d tq) f⟩
 |outgrown=>exact⟨_,g,i,j,.of_steps (.one d tq) f⟩
end
theorem ax1 (d:c.Ok W0):c.Le {c with w:=c.w.alloc (.deferred (a6 [])),mks:=c.w.heap.size::c.mks}/\({c with w:=c.w.alloc (.deferred (a6 [])),mks:=c.w.heap.size::c.mks}:Cx).Ok W0:=by
 have f:=pV c.w (.deferred (a6 []));have j:c.Le {c with w:=c.w.alloc (.deferred (a6 [])),mks:=c.w.heap.size::c.mks}:=
  ⟨fun b g=>⟨⟨bu g.1 f.size,g.2.1,by
    intro p;rcases List.mem_cons.1 p with e|e
    .have:=g.1;omega
    .exact g.2.2 e⟩,f.block b g.1⟩,fun _ h=>h,fun id o _ i=>⟨o,i,o.like_refl _⟩,fun r l=>aj _ l,fun b L m=>⟨L,(f.block b (Array.getElem?_eq_some_iff.1 m).1).trans m⟩,f.size,rfl⟩
 refine⟨j,⟨d.bel.trans (f.mono d.size),fun id o i=>(d.obj id o i).le j rfl fun b q=>f.block b ((d.obj id o i).lt q).2,d.inj,fun r l=> ?_,fun b f=>(j.out b (d.bar b f)).1,d.phi⟩⟩;rcases List.mem_cons.1 l with e|e
 .subst e;exact⟨d.size,World.alloc_heap_new _ _⟩
 .exact⟨(d.mks r e).1,(f.block r (d.mark_lt e)).trans (d.mks r e).2⟩
theorem aIw (g:c.Ok W0) {st:St} (i:c.hp=st.hp) (h2:c.nxt=st.nxt) {id n':Nat} (p:dW st.hp id=a7) (q:st.nxt<=id) (y:st.nxt<=n') {f:FuncId} {fr:List bZ} {L:Loop} (s:bQ c fr L.tmps.toList) (u:L.state=.ready) (hp:L.pending=a7) {d:Option Nat} (v: ∀k,d=a6 k->ut f k=a6 (L.assign,L.body)):
  ∃c',Gv W0 c st c' {st with hp:=(id,.lp f fr L.params.toList L.assign L.body d 0 a7)::st.hp,nxt:=n'}/\c'.w=c.w.alloc (.loop L)/\dh c' (.yld id) (.func (.yield c.w.heap.size) #[] #[])/\c'.mks=c.mks:=by
 have hk:=Ee i h2 p q;have e:=pV c.w (.loop L);have j: ∀b,dV.blk (.lp f fr L.params.toList L.assign L.body d 0 a7) ⟨c.w.heap.size,undef⟩=a6 b->c.w.heap.size<=b:=fun b e=>by
  simp_all [dV.blk]
 have m:=Cx.Le.push (o:=.lp f fr L.params.toList L.assign L.body d 0 a7) (l:=⟨c.w.heap.size,undef⟩) (nxt:=n') (w:=c.w.alloc (.loop L)) hk (by omega) e.size e.block j;have x:(c.push id (.lp f fr L.params.toList L.assign L.body d 0 a7) ⟨c.w.heap.size,undef⟩ n' (c.w.alloc (.loop L))).ORel W0.heap.size id (.lp f fr L.params.toList L.assign L.body d 0 a7):=by
  refine⟨v,by simp[Cx.push,upd_same];exact g.size,L, ?_,bQ.le m _ _ s,rfl,rfl,rfl,u,hp⟩;simp only[Cx.push,upd_same];exact World.alloc_heap_new c.w _
 refine⟨_,⟨?_,rfl,rfl,rfl,g.push hk (by omega) e j x,m⟩,rfl, ?_,rfl⟩
 .simp[Cx.push,i]
 .simp only[dh];refine⟨rfl,.inl ⟨_,by simp[Cx.push,fD];rfl⟩,fun _ _ _ _ _ _ _ _ _=>by simp[Cx.push,upd_same]⟩
theorem MJ (g:c.Ok W0) {id:Nat} {f:FuncId} {fr:List bZ} {i:List Nat} {asg l:Code} {m:Option Nat} {k:Nat} {p:Option Ex} (u:dW c.hp id=a6 (.lp f fr i asg l m k p)) {L:Loop} (x:c.w.heap[(c.mu id).blk]? =a6 (.loop L)) (d:Loop)
  {o':dV} (v:o'=.dead\/(∃q s,o'=.lp f fr i asg l m q s/\atm q s d/\d.tmps=L.tmps/\d.params=L.params/\d.assign=L.assign/\d.body=L.body)):
  ∃c',c'.hp=jB c.hp id o'/\c'.nxt=c.nxt/\c.Le c'/\c'.Ok W0/\c'.w=c.w.putObj (c.mu id).blk (.loop d)/\c'.mks=c.mks:=by
 have G:(c.mu id).blk<c.w.heap.size:=(Array.getElem?_eq_some_iff.1 x).1;obtain⟨I,J,K,y,M,N,O,S,e4⟩:=g.obj id _ u;rw[x]at y;have U:K=L:=by cases y;rfl
 subst U;have hk:(dV.lp f fr i asg l m k p).like (c.mu id) o' (c.mu id):=by
  rcases v with rfl|⟨q,s,rfl,_⟩<;>simp[dV.like]
 have z:c.w.heap.size<=(c.w.putObj (c.mu id).blk (.loop d)).heap.size:=by simp
 have o: ∀b,b<c.w.heap.size->(dV.lp f fr i asg l m k p).blk (c.mu id)≠a6 b->(c.w.putObj (c.mu id).blk (.loop d)).heap[b]? =c.w.heap[b]? :=fun b _ V=>
  World.putObj_heap_other fun e=>V (by rw[e];rfl)
 have A: ∀b,o'.blk (c.mu id)=a6 b->(dV.lp f fr i asg l m k p).blk (c.mu id)=a6 b\/c.w.heap.size<=b:=fun b o=>by
  rcases v with rfl|⟨q,s,rfl,_⟩
  .cases o
  .exact .inl o
 have B: ∀(b:Nat) (D:Loop),(dV.lp f fr i asg l m k p).blk (c.mu id)=a6 b->c.w.heap[b]? =a6 (Obj.loop D)-> ∃W:Loop,(c.w.putObj (c.mu id).blk (.loop d)).heap[b]? =a6 (Obj.loop W):=fun b D o _=>by
  grind [dV.blk,World.putObj_heap_same]
 have X:Below W0.heap.size W0 (c.w.putObj (c.mu id).blk (.loop d)):=
  ⟨g.bel.os,g.bel.tape,g.bel.output,by omega,fun j Y=>(World.putObj_heap_other (by omega)).trans (g.bel.block j Y)⟩
 have E:=Cx.Le.put g u hk z o A B;refine⟨c.put id o' (c.mu id) (c.w.putObj (c.mu id).blk (.loop d)),rfl,rfl,E,Cx.Ok.put g u hk X z o A B ?_,rfl,rfl⟩;rcases v with rfl|⟨q,s,rfl,Z,h2,h3,h4,h5⟩
 .trivial
 .refine⟨I,by simp only[Cx.put,upd_same];exact J,d, ?_,bQ.le E _ _ (by rw[h2];exact M),by rw[h3];exact N,by rw[h4];exact O,by rw[h5];exact S,Z⟩;simp only[Cx.put,upd_same];exact World.putObj_heap_same G
end
end
section
open Option renaming some → a6, none → a7
open Go.RowKit
section
variable {T:TT} {cl:Bool} {R:Type} {r:R} {sg:FuncId->Option Sum}
theorem DU {dst:Option Nat} {o:dV} {st:St} {K:Nat->St->Option R} (h:alloc cl dst o st K=a6 r): ∃i d,K i d=a6 r:=by
 unfold alloc at h
 grind
theorem aNW {b:Bool} {k:Option R} (h:nT b k=a6 r):k=a6 r:=(dL h).2
theorem aGW {d:BinOp} {t:TypeId} {x y:bZ} {K:bZ->Option R} (h:agb T d t x y K=a6 r): ∃z,K z=a6 r:=by
 unfold agb at h;simp only[nT,cond_eq_ite]at h
 grind
theorem aBx {hp:iw} {d:BinOp} {t:TypeId} {x y:bZ} {K:bZ->Option R} (h:VQ T hp d t x y K=a6 r): ∃z,K z=a6 r:=by
 unfold VQ at h;simp only[cond_eq_ite]at h
 grind [aGW]
theorem aLD {d:UnOp} {x:bZ} {K:bZ->Option R} (h:avM d x K=a6 r): ∃z,K z=a6 r:=by
 unfold avM at h
 grind
theorem aBy {hp:iw} {t:TypeId} {a:bZ} {K:bZ->Option R} (h:PY T hp t a K=a6 r): ∃z,K z=a6 r:=by
 unfold PY at h
 grind
theorem aGX {d:iw} {st:St} {a v:bZ} {K:St->Option R} (h:agc d st a v K=a6 r): ∃z,K z=a6 r:=by
 unfold agc at h;simp only[cond_eq_ite]at h
 repeat' split at h
 all_goals first|cases h;done|exact⟨_,h⟩
theorem avP {st:St} {t:TypeId} {a v:bZ} {K:St->Option R} (h:Ny T st t a v K=a6 r): ∃z,K z=a6 r:=by
 unfold Ny at h;simp only[cond_eq_ite]at h
 repeat' split at h
 all_goals first|cases h;done|exact⟨_,h⟩
theorem ajs {s d:TypeId} {x:bZ} {hp:iw} {K:bZ->Option R} (h:DT T s d x hp K=a6 r): ∃z,K z=a6 r:=by
 unfold DT at h;simp only[nT,cond_eq_ite]at h
 grind
theorem avO {hp:iw} {t:TypeId} {x:bZ} {lo hi d:Option bZ} {K:bZ->Option R} (h:Nw T hp t x lo hi d K=a6 r): ∃z,K z=a6 r:=by
 unfold Nw at h;simp only[nT,cond_eq_ite]at h
 grind
theorem abP {hp:iw} {t:TypeId} {x:bZ} {f:Nat} {K:bZ->Option R} (h:wS T hp t x f K=a6 r): ∃z,K z=a6 r:=by
 unfold wS at h;simp only[cond_eq_ite]at h
 repeat' split at h
 all_goals first|cases h;done|exact⟨_,h⟩
theorem avN {t:TypeId} {x:bZ} {f:Nat} {K:bZ->Option R} (h:Nu T t x f K=a6 r): ∃z,K z=a6 r:=by
 unfold Nu at h
 repeat' split at h
 all_goals first|cases h;done|exact⟨_,h⟩
theorem abQ {hp:iw} {t:TypeId} {x i:bZ} {K:bZ->Option R} (h:wU T hp t x i K=a6 r): ∃z,K z=a6 r:=by
 unfold wU at h;simp only[nT,cond_eq_ite]at h
 repeat' split at h
 all_goals first|cases h;done|exact⟨_,h⟩
theorem aGY {hp:iw} {t:TypeId} {x:bZ} {K:bZ->Option R} (h:agd T hp t x K=a6 r): ∃z,K z=a6 r:=by
 unfold agd at h;simp only[nT,cond_eq_ite]at h
 grind
theorem ara {dst:Option Nat} {t:TypeId} {s x:bZ} {st:St} {K:bZ->St->Option R} (h:Nr T cl dst t s x st K=a6 r): ∃z d,K z d=a6 r:=by
 unfold Nr at h;simp only[nT,cond_eq_ite]at h
 repeat' split at h
 all_goals first|cases h;done|exact⟨_,_,h⟩|grind [DU]
theorem ajq {dst:Option Nat} {t t':TypeId} {s x:bZ} {st:St} {K:bZ->St->Option R} (h:DR T cl dst t t' s x st K=a6 r): ∃z d,K z d=a6 r:=by
 unfold DR at h;simp only[nT,cond_eq_ite]at h
 repeat' split at h
 all_goals first|cases h;done|exact⟨_,_,h⟩|grind [DU]
theorem ajr {o:Oper} {b:Builtin} {d:List TypeId} {args:List bZ} {st:St} {K:bZ->St->Option R} (h:lJ T cl o b d args st K=a6 r): ∃z e,K z e=a6 r:=by
 unfold lJ at h;simp only[nT,cond_eq_ite]at h
 grind [aGY,ara,ajq]
def AX (sg:FuncId->Option Sum) (call:gX R):Prop:= ∀g s d e st (K:bZ->St->Option R) r,sg g=a6 s->call (.fn g []) d e st K=a6 r-> ∃z f,K z f=a6 r
theorem avQ {s:Sum} {args:List bZ} {dst:Option Nat} {st:St} {K:bZ->St->Option R} (h:s.call cl args dst st K=a6 r): ∃z d,K z d=a6 r:=by
 unfold Sum.call at h;simp only[cond_eq_ite]at h;split at h
 .split at h
  .rename_i x e
   cases hf:s.f x with
   |none=>simp_all [bJ]
   |some y=>
    grind [bJ,DU]
  .cases h
 .cases h
theorem ami {call:gX R} (hx:AX sg call) {o:Oper} {st:St} {K:bZ->St->Option R} (hp:yN sg o.op=true) (h:fF T cl call o st K=a6 r): ∃z d,K z d=a6 r:=by
 obtain⟨j,e,l,m,p,q⟩:=o;cases e with
 |call c=>
  simp only[fF]at h;simp only[yN]at hp;split at h
  .exact ajr h
  .rename_i f i
   rw[i]at hp;cases f with
   |func g=>
    simp only at hp;cases hs:sg g with
    |none=>simp_all
    |some s=>exact hx g s _ _ _ _ _ hs h
   |_=>simp at hp
  .cases h
 |store t x y=>
  grind [fF,avP,aGX]
 |_=>
  simp only[fF,nT,cond_eq_ite]at h
  repeat' split at h
  all_goals first
   |cases h;done
   |exact⟨_,_,h⟩
   |(obtain⟨_,_,h⟩:=DU h;exact⟨_,_,h⟩)
   |(obtain⟨_,_,h⟩:=DU h;obtain⟨_,_,h⟩:=DU h;exact⟨_,_,h⟩)
   |(obtain⟨_,h⟩:=aBy h;exact⟨_,_,h⟩)
   |(obtain⟨_,h⟩:=aBx h;exact⟨_,_,h⟩)
   |(obtain⟨_,h⟩:=aLD h;exact⟨_,_,h⟩)
   |(obtain⟨_,h⟩:=ajs h;exact⟨_,_,h⟩)
   |(obtain⟨_,h⟩:=avO h;exact⟨_,_,h⟩)
   |(obtain⟨_,h⟩:=abP h;exact⟨_,_,h⟩)
   |(obtain⟨_,h⟩:=avN h;exact⟨_,_,h⟩)
   |grind [abQ]
theorem abv {E:Env} {d:oQ R}:AX E.sg (zD E d):=fun g s e f st K r i h=>by
 grind [zD,avQ]
theorem aKn:AX (R:=R) sg (J8 sg cl):=fun g s e f st K r d h=>by
 simp only[J8,d]at h;exact avQ (dL h).2
theorem arS {o:Op} (h:iT o=true):yN sg o=true:=by
 cases o with
 |call c=>
  grind [iT,yN]
 |_=>rfl
theorem LC {call:gX R} (hx:AX sg call) {ops:Array Oper} {d:List bZ}: ∀(l:List Nat) {st:St} {K:St->Option R},BM T cl call ops d l st K=a6 r-> ∃e,K e=a6 r
 |[],st,K,h=>⟨st,h⟩
 |i::l,st,K,h=>by
  simp only[BM]at h;split at h
  .rw[cond_eq_ite]at h;split at h
   .rename_i f
    obtain⟨_,_,h⟩:=ami hx (arS f) h;exact LC hx l (dL h).2
   .exact LC hx l (dL h).2
  .cases h
theorem abR {call:gX R} (hx:AX sg call) {ops:Array Oper} (hp: ∀o∈ops.toList,yN sg o.op=true) {j:Nat} {log:List Nat} {st:St} {K:St->Option R} (h:wX T cl call ops j log st K=a6 r): ∃d,K d=a6 r:=by
 unfold wX at h;split at h
 .rename_i e f
  obtain⟨_,_,h⟩:=ami hx (hp e (by grind)) (dL h).2
  grind [LC]
 .cases h
theorem Y4 {d e:Type} {o:Option d} {k:d->Option e} {y:e} (h:bJ o k=a6 y): ∃x,o=a6 x/\k x=a6 y:=by
 cases o with
 |none=>simp[bJ]at h
 |some x=>exact⟨x,rfl,h⟩
theorem Cb {k:Option R} {r:R}: ∀(l:List (Option Unit)),U8 l k=a6 r->k=a6 r/\ ∀x∈l,x=a6 ()
 |[],h=>⟨h,fun _ d=>by cases d⟩
 |o::l,h=>by
  simp only[U8]at h;obtain⟨⟨⟩,f,e⟩:=Y4 h;obtain⟨g,i⟩:=Cb l e
  grind
theorem VR {ops:Array Oper} (hp: ∀o∈ops.toList,yN sg o.op=true) {m:gX St} {p:gX Unit} (e:AX sg m) (f:AX sg p): ∀(n:Nat) {R:Type} {r:R} {call:gX R},AX sg call-> ∀(l:Array Bool) (log:List Nat) (st:St) (K:St->Option R),
  og T cl sg m p ops n call l log st K=a6 r-> ∃s,K s=a6 r
 |0,R,r,call,d,l,log,st,K,h=>by simp[og]at h
 |n+1,R,r,call,d,l,log,st,K,h=>by
  have q: ∀{i:Nat} {g:Oper},ops[i]? =a6 g->yN sg g.op=true:=fun {i g} j=>hp g (by grind);simp only[og]at h;split at h
  .exact⟨st,h⟩
  .split at h
   .split at h
    .rename_i j
     obtain⟨_,_,h⟩:=ami d (q j) (dL h).2;exact VR hp e f n d _ _ _ _ h
    .cases h
   .split at h
    .split at h
     .rename_i j
      obtain⟨_,_,h⟩:=ami (aKn (sg:=sg)) (q j) (dL h).2;exact VR hp e f n d _ _ _ _ h
     .cases h
    .split at h
     .obtain⟨_,h⟩:=abR d hp h;exact VR hp e f n d _ _ _ _ h
     .rw[cond_eq_ite]at h;split at h
      .grind
      .obtain⟨_,h⟩:=abR d hp h;obtain⟨_,h⟩:=VR hp e f n d _ _ _ _ h;replace h:=(dL h).2
       grind [Cb]
end
end
section
open Option renaming some → a6, none → a7
open Bool renaming and_eq_true → af, false_eq_true → ag, and_true → ay, not_false → aA, true_and → aQ, not_eq_true' → aW, not_eq_true → bz
open List renaming mem_cons_of_mem → aj, map_cons → au, mem_cons_self → az, cons_append → aH, length_map → aO, mem_append_left → bD
open Nat renaming le_refl → ae, eq_of_beq_eq_true → ak
open Go.RowKit
section
variable {P:Program} {T:TT} {W0:World} {b0 n:Nat} {rd:Option Nat} {c:Cx} {st:St} {a:Act} {sg:FuncId->Option Sum} {cl:Bool} {ats:List (Array Value)} {ops:Array Oper}
def uI:(t:Ty)->t.den->List Value
 |.unit,_=>[]
 |.bool,x=>[.bool x]
 |.int k,x=>[.int k x]
 |.str,x=>[.string ⟨x.toArray⟩]
 |.list _,_=>[]
 |.pair a b,x=>uI a x.1++uI b x.2
theorem xw {w:World} {fr:Nat->Prop}: ∀(t:Ty) (x:t.den),t.rigid=true-> ∀cs,fV w fr t x cs↔cs=uI t x
 |.unit,x,_,cs=>by rfl
 |.bool,x,_,cs=>by rfl
 |.int k,x,_,cs=>by rfl
 |.str,x,_,cs=>by rfl
 |.list t,x,h,cs=>by simp[Ty.rigid]at h
 |.pair a b,x,h,cs=>by
  simp only[Ty.rigid,af]at h;simp only[fV,uI,xw a x.1 h.1,xw b x.2 h.2];simp
def Nj (t:Ty) (x:t.den):Value:=if t.isAgg then .agg (uI t x).toArray else(uI t x).headD undef
theorem VD.rigid {t:Ty} {x:t.den} (h:t.rigid=true) (v:Value):VD c t x v↔v=Nj t x:=by
 cases ha:t.isAgg with
 |true=>
  rw[VD.agg ha];simp only[Nj,ha,if_true,xw t x h];constructor
  .rintro ⟨cs,rfl,d⟩;rw[<-d]
  simp_all
 |false=>
  rw[VD.leaf ha,xw t x h];have: ∃u,uI t x=[u]:=by cases t<;>first|exact⟨_,rfl⟩|(simp[Ty.rigid]at h;done)|grind [Ty.isAgg]
  grind [Nj]
def rv1:bZ->Value
 |.val t x=>Nj t x
 |_=>undef
def rv:bZ->Value
 |.tup l=>.tuple (l.map rv1).toArray
 |v=>rv1 v
theorem aoK {v:bZ} (h:v.rigid=true) (u:Value):dh c v u↔u=rv1 v:=by
 cases v<;>simp only[bZ.rigid,ag]at h;simp_all [dh,rv1,VD.rigid]
theorem aoL: ∀(l:List bZ),l.all bZ.rigid=true-> ∀us,bQ c l us↔us=l.map rv1
 |[],_,[]=>by simp[bQ]
 |[],_,u::us=>by simp[bQ]
 |v::l,_,[]=>by simp[bQ]
 |v::l,h,u::us=>by
  simp only[List.all_cons,af]at h;simp only[bQ,aoK h.1,aoL l h.2,au,List.cons.injEq]
theorem MI {v:bZ} (h:v.rigidR=true) (u:Value):dh c v u↔u=rv v:=by
 cases v with
 |tup l=>
  simp only[bZ.rigidR]at h;simp only[dh,rv,aoL l h];constructor
  .rintro ⟨e,rfl,d⟩;rw[<-d]
  simp_all
 |val t x=>exact aoK (v:=.val t x) h u
 |_=>simp[bZ.rigidR,bZ.rigid]at h
theorem MM (id:Nat): ∀(rs:List (Ty×Bool)) y,(rs.all fun r=> !r.2&&r.1.rigid)=true->(qQ id rs y).all bZ.rigid=true
 |[],_,_=>rfl
 |(t,true)::rs,y,h=>by simp at h
 |(t,false)::rs,y,h=>by
  simp only[List.all_cons,aA,aQ,af]at h;simp only[qQ,List.all_cons,bZ.rigid,h.1,aQ];exact MM id rs y.2 h.2
theorem XO: ∀(l:List bZ),l.all bZ.rigid=true->(QI l).rigidR=true
 |[],_=>rfl
 |[v],h=>by
  simp only[List.all_cons,List.all_nil,ay]at h;cases v<;>simp only[bZ.rigid,ag]at h;exact h
 |v::d::l,h=>h
theorem bQ.mk {c:Cx}: ∀(l:List bZ) (xs:List Value),l.length=xs.length->(∀(i:Nat) (h:i<l.length) (e:i<xs.length),dh c l[i] xs[i])->bQ c l xs
 |[],[],_,_=>by simp[bQ]
 |[],_::_,h,_=>by simp at h
 |_::_,[],h,_=>by simp at h
 |v::l,x::xs,h,d=>by
  simp only[bQ];exact⟨d 0 (by simp) (by simp),bQ.mk l xs (by simpa using h) fun i f g=>by
   have:=d (i+1) (by simp;omega) (by simp;omega);simpa using this⟩
def xN (ops:Array Oper) (k:Nat):Option Nat:=(ops[k]?).bind (·.dst)
def gV (ops:Array Oper) (a:Act):List (Nat×Value)->Act
 |[]=>a
 |(k,v)::l=>(gV ops a l).put (xN ops k) v
theorem Dk (a:Act): ∀(q l:List (Nat×Value)),gV ops a (q++l)=gV ops (gV ops a l) q
 |[],l=>rfl
 |(k,v)::q,l=>by simp only[aH,gV];rw[Dk a q l]
theorem Dl (a:Act): ∀l,(gV ops a l).defers=a.defers
 |[]=>rfl
 |(k,v)::l=>by rw[gV,put_defers,Dl a l]
theorem xq (a:Act): ∀l,(gV ops a l).tmps.size=a.tmps.size
 |[]=>rfl
 |(k,v)::l=>by
  rw[gV];cases xN ops k with
  |none=>exact xq a l
  |some d=>simp only[Act.put,Array.size_setIfInBounds];exact xq a l
def atl (ops:Array Oper) (x y:Oper):Prop:= ∀d,y.dst=a6 d->d∉x.looksAt ops/\x.dst≠a6 d
theorem Qc {x y:Oper} (h:I8 ops x y=true):atl ops x y:=fun d hd=>by
 simp_all [I8]
theorem Af (a:Act) {d:Option Nat} {v:Value}: ∀(l:List (Nat×Value)),(∀m∈l.map (·.1),∀e,xN ops m=a6 e->d≠a6 e)->gV ops (a.put d v) l=(gV ops a l).put d v
 |[],_=>rfl
 |(k,u)::l,h=>by
  rw[gV,gV,Af a l fun m f=>h m (aj _ f)];simp_all [Act.put_comm]
theorem GR (a:Act) {o:Oper} (d: ∀cs b,o.op≠ .select cs b): ∀(l:List (Nat×Value)),(∀m∈l.map (·.1),∀e,xN ops m=a6 e->e∉o.looksAt ops)->execOp (gV ops a l).eval o=execOp a.eval o
 |[],_=>rfl
 |(k,u)::l,h=>by
  rw[gV,execOp_put (ops:=ops) o d _ _ _ (h k az)];exact GR a d l fun m f=>h m (aj _ f)
def iZ (ops:Array Oper) (lA:Array Bool) (log:List Nat):List Nat->Prop
 |[]=>True
 |k::l=>iZ ops lA log l/\lA.getD k true=false/\k∈log/\k∉l/\ ∃ok,ops[k]? =a6 ok/\kQ ok.op=true/\ok.guard=a7/\(∀d,ok.dst=a6 d->d∉ok.looksAt ops)/\
   (∀e∈ok.after,Region.binds .any e=true->lA.getD e.on false=true\/e.on∈l)/\
   (∀m∈l,∃f,ops[m]? =a6 f/\atl ops f ok/\(wG ops k m=false->f.apart ops ok=true))
def KY (rd:Option Nat) (n:Nat) (P:Program) (c:Cx) (a:Act) (o:Oper) (v:Value):Prop:= ∀d,J3 c d->o.quietAtIn (FW rd) n P a (J3 (c.at_ d)) d v
theorem KY.congr {a d:Act} {o:Oper} {v:Value} (h:execOp d.eval o=execOp a.eval o) (e:KY rd n P c a o v):KY rd n P c d o v:=fun f g=>by
 have:=e f g;simp_all [Oper.quietAtIn]
theorem KY.of_run {a:Act} {o:Oper} {v:Value} (h: ∀w',J3 c w'->(execOp a.eval o).run P w'=.ok (.value v) w'):KY rd n P c a o v:=fun w' d=>by
 unfold Oper.quietAtIn;rw[h w' d];exact⟨rfl,rfl⟩
theorem KY.ext {a:Act} {o:Oper} {v:Value} {w:World} (d:J3 c w) (h:KY rd n P c a o v):KY rd n P (c.at_ w) a o v:=fun e f=>h e (Below.trans d (f.mono d.size))
theorem KY.wpOp {a:Act} {i:Nat} {o:Oper} {v:Value} (hd:oG ops=true) (hi:ops[i]? =a6 o) (m:o.guard=a7) (h:KY rd n P c a o v) {Q:Exit->Act->World->Prop} {K:Act->World->Prop} (l: ∀w',J3 c w'->K (a.put o.dst v) w'):wpOpIn (FW rd) n P ops Q i K a c.w:=by
 unfold Go.wpOpIn;simp only[hi];rw[am (by simp[Region.wanted,m])];refine⟨tJ o c.w _, ?_⟩;rw[Ak (qK hd i o hi).1];have d:=h c.w (Below.refl _ _);unfold Oper.quietAtIn at d;generalize (execOp a.eval o).run P c.w=x at d ⊢
 match x,d with
 |.ok (.value u) w',d=>
  obtain⟨g,j⟩:=d;subst g j;exact l _ (Below.refl _ _)
 |.ok .skip w',d=>
  obtain⟨g,j⟩:=d;subst g j;exact l _ (Below.refl _ _)
 |.ok (.enter f z) w',d=>
  obtain⟨g,j,p⟩:=d;subst g;refine⟨j,CallsIn.mono p fun e A q=> ?_⟩;obtain⟨s,y⟩:=q;subst s;exact l _ y
def lU (rd:Option Nat) (n:Nat) (P:Program) (ops:Array Oper) (c:Cx) (a:Act):List (Nat×Value)->Prop
 |[]=>True
 |(k,v)::l=>lU rd n P ops c a l/\ ∃ok,ops[k]? =a6 ok/\KY rd n P c (gV ops a l) ok v
theorem lU.ext {w:World} (d:J3 c w) {a:Act}: ∀{l:List (Nat×Value)},lU rd n P ops c a l->lU rd n P ops (c.at_ w) a l
 |[],_=>trivial
 |(k,v)::l,h=>⟨lU.ext d h.1,let⟨ok,e,f⟩:=h.2;⟨ok,e,f.ext d⟩⟩
def wJ (sg:FuncId->Option Sum) (cl:Bool) (o:Oper) (fr:List bZ) (z:bZ):Prop:=
 kQ o.op=true/\(∃e j,o.op=.call e/\e.callee=.value j)/\z.rigidR=true/\(∀d,o.dst=a6 d->z=fr.getD d .undef)/\
  ∃f g,jZ o fr=f::g/\ ∀(l:Option Nat) (i:St) (K:bZ->St->Option Unit),J8 sg cl f g l i K=K z i
theorem Vd (hT:TOk P T) (g:o9 (R:=Unit) P (J8 sg cl)) {o:Oper} {z:bZ} {e:List bZ} (i:wJ sg cl o e z) (j:jZ o e=jZ o st.fr) {a:Act} (l:ji W0 b0 rd c st a ats):dh c z (rv z)/\KY rd n P c a o (rv z):=by
 obtain⟨m,⟨x,y,A,B⟩,f,_,D,E,p,G⟩:=i;rw[j]at p;refine⟨(MI f _).2 rfl,fun q s=> ?_⟩
 classical
 have h:fF T cl (J8 sg cl) o st (fun d _=>if d=z then a6 ()else a7)=a6 ():=by
  simp_all [jZ,fF]
 obtain⟨d,v,g1,g2,g3⟩:=ahH (n:=n) hT g m h (l.ext s);have u:d=z:=by
  simp_all
 rw[u]at g2;rw[<-(MI f v).1 g2];exact g3 q (Below.refl _ _)
def PH (sg:FuncId->Option Sum) (cl:Bool) (ops:Array Oper) (fr:List bZ) (l:List Nat):Prop:= ∀k∈l,∀ok,ops[k]? =a6 ok->iT ok.op=false-> ∃z,wJ sg cl ok fr z
theorem Qh {l:Array Bool} {m:Nat} (d:l.getD m false=true) (h2:l.getD m true=false):False:=by
 grind
theorem aiz {lA:Array Bool} {j m:Nat} (f:j∈Region.ready .any ops lA) (l:lA.getD m true=false):wG ops j m=false:=by
 obtain⟨_,g,i,o⟩:=mem_ready.1 f;unfold wG;rw[i];cases d:g.after.any fun e=>Region.binds .any e&&Nat.beq e.on m with
 |false=>exact d
 |true=>
  obtain⟨e,p,d⟩:=Array.any_eq_true'.1 d;simp only[af]at d
  grind [ak]
theorem iZ.un {lA:Array Bool} {log:List Nat}: ∀{l:List Nat},iZ ops lA log l-> ∀k∈l,lA.getD k true=false
 |k::l,h,m,d=>by
  rcases List.mem_cons.1 d with e|d
  .rw[e];exact h.2.1
  .exact iZ.un h.1 m d
theorem iZ.log {lA:Array Bool} {log:List Nat}: ∀{l:List Nat},iZ ops lA log l-> ∀k∈l,k∈log
 |k::l,h,m,d=>by
  rcases List.mem_cons.1 d with e|d
  .rw[e];exact h.2.2.1
  .exact iZ.log h.1 m d
theorem iZ.mono {lA:Array Bool} {log d:List Nat} (hl: ∀k∈log,k∈d): ∀{l:List Nat},iZ ops lA log l->iZ ops lA d l
 |[],_=>trivial
 |k::l,h=>⟨iZ.mono hl h.1,h.2.1,hl _ h.2.2.1,h.2.2.2⟩
theorem iZ.set {lA:Array Bool} {log:List Nat} {j:Nat}: ∀{l:List Nat},iZ ops lA log l->j∉l->iZ ops (lA.setIfInBounds j true) log l
 |[],_,_=>trivial
 |k::l,h,d=>by
  obtain⟨f,g,i,m,ok,o,p,q,s,u,v⟩:=h;refine⟨iZ.set f fun h=>d (aj _ h), ?_,i,m,ok,o,p,q,s,fun e x y=> ?_,v⟩
  .rw[getD_set_ne true (fun e=>d (by rw[e];exact az))];exact g
  .exact(u e x y).imp getD_set_true fun h=>h
theorem Am {lA:Array Bool} {j:Nat} (d:j<lA.size):(lA.setIfInBounds j true).getD j false=true:=by simp[d]
theorem iZ.take {lA:Array Bool} {log:List Nat} {k:Nat} (hk:k<lA.size): ∀{l:List Nat},iZ ops lA log l->k∈l->iZ ops (lA.setIfInBounds k true) log (l.erase k)
 |m::l,h,d=>by
  obtain⟨f,g,i,j,ok,o,p,q,s,z,u⟩:=h;by_cases e:m=k
  .simp_all [iZ.set]
  .rw[List.erase_cons_tail (by simpa using e)];have v:k∈l:=(List.mem_cons.1 d).resolve_left fun h=>e h.symm;refine⟨iZ.take hk f v, ?_,i,fun h=>j (List.mem_of_mem_erase h),ok,o,p,q,s,fun A B D=> ?_,fun x y=>u x (List.mem_of_mem_erase y)⟩
   .rw[getD_set_ne true (fun h=>e h.symm)];exact g
   grind [getD_set_true,Am]
theorem wR {k:Nat} {o:Oper} (h:ops[k]? =a6 o):xN ops k=o.dst:=by simp[xN,h]
theorem lU.put {a:Act} {c:Cx} (hd:oG ops=true) {d:Option Nat} {v:Value}: ∀{l:List (Nat×Value)},lU rd n P ops c a l->
  (∀m∈l.map (·.1),∃f,ops[m]? =a6 f/\(∀e,f.dst=a6 e->d≠a6 e)/\(∀e,d=a6 e->e∉f.looksAt ops))->lU rd n P ops c (a.put d v) l
 |[],_,_=>trivial
 |(k,u)::l,h,i=>by
  obtain⟨o,ok,g,p⟩:=h;refine⟨lU.put hd o fun m j=>i m (aj _ j),ok,g,p.congr ?_⟩;obtain⟨f,g1,g2,g3⟩:=i k az;rw[g]at g1;cases g1;rw[Af a l fun m j e q=> ?_,execOp_put (ops:=ops) ok (qK hd k ok g).2 _ _ _ g3]
  grind [wR]
theorem aar {a:Act} {c:Cx} (hd:oG ops=true) {lA:Array Bool} {log:List Nat} {k:Nat} {ok:Oper} (g:ops[k]? =a6 ok) (hk:k∈Region.ready .any ops lA):
  ∀{l:List (Nat×Value)},iZ ops lA log (l.map (·.1))->lU rd n P ops c a l->k∈l.map (·.1)->
   ∃v d,KY rd n P c a ok v/\d.map (·.1)=(l.map (·.1)).erase k/\lU rd n P ops c (a.put ok.dst v) d/\gV ops (a.put ok.dst v) d=gV ops a l
 |(m,u)::l,s,y,z=>by
  obtain⟨A,J,K,L,B,f,M,N,O,S,U⟩:=s;obtain⟨i,V,j,o⟩:=y;rw[f]at j;cases j;by_cases e:m=k
  .subst e;rw[g]at f;cases f;have W: ∀x∈l.map (·.1),∃p,ops[x]? =a6 p/\p.apart ops ok=true:=fun x D=>by
    grind [aiz,iZ.un]
   refine⟨u,l,o.congr ?_,by simp,lU.put hd i fun x D=> ?_, ?_⟩
   .grind [GR,qK,Oper.apart_spec,wR]
   .grind [Oper.apart_spec]
   grind [gV,wR,Af,Oper.apart_spec]
  .have E:k∈l.map (·.1):=(List.mem_cons.1 z).resolve_left fun h=>e h.symm;obtain⟨v,d,G,X,I,q⟩:=aar hd g hk A i E;refine⟨v,(m,u)::d,G, ?_,⟨I,B,f,by rw[q];exact o⟩,by rw[gV,gV,q]⟩;simp_all
theorem DN {d:Type} {f:d->d->Bool} (hf: ∀x y,f x y=true->x=y): ∀(a b:List d),zJ f a b=true->a=b
 |[],[],_=>rfl
 |[],_::_,h=>by simp[zJ]at h
 |_::_,[],h=>by simp[zJ]at h
 |x::l,y::m,h=>by
  simp only[zJ,af]at h;rw[hf x y h.1,DN hf l m h.2]
theorem PX: ∀(t:Ty) (x y:t.den),eqD t x y=true->x=y
 |.unit,(),(),_=>rfl
 |.bool,x,y,h=>by simpa [eqD] using h
 |.int _,x,y,h=>by simpa [eqD,bY] using h
 |.str,x,y,h=>by simpa [eqD,gp] using h
 |.list t,x,y,h=>DN (PX t) x y h
 |.pair a b,x,y,h=>by
  simp only[eqD,af]at h;exact Prod.ext (PX a _ _ h.1) (PX b _ _ h.2)
theorem avG {t u:Ty} {x:t.den} {y:u.den} (h:(match lM t y with|some y=>eqD t x y|none=>false)=true): ∃e:u=t,x=cast (congrArg Ty.den e) y:=by
 grind [nU,PX]
theorem aq6 {a b:Option (Int×Int)} (h:ajp a b=true):a=b:=by
 cases a<;>cases b<;>simp_all [ajp,bY,Prod.ext_iff]
theorem lS {a b:Nat} (h:Nat.beq a b=true):a=b:=ak h
mutual
theorem avK: ∀(a b:bZ),YO a b=true->a=b
 |.undef,b,h=>by grind [YO]
 |.val t x,b,h=>by
  cases b<;>simp only[YO,ag]at h;obtain⟨e,h⟩:=avG h;simp_all
 |.nils,b,h=>by grind [YO]
 |.nilp,b,h=>by grind [YO]
 |.nilfn,b,h=>by grind [YO]
 |.emp,b,h=>by grind [YO]
 |.tup l,b,h=>by
  cases b<;>simp only[YO,ag]at h;rw[tV l _ h]
 |.agg l,b,h=>by
  cases b<;>simp only[YO,ag]at h;rw[tV l _ h]
 |.cellp t x,b,h=>by
  cases b<;>simp only[YO,ag]at h;obtain⟨e,h⟩:=avG h;simp_all
 |.lst t x n,b,h=>by
  cases b<;>simp only[YO,ag,af]at h;obtain⟨j,d⟩:=h;split at d
  .rename_i z g
   obtain⟨e,p⟩:=nU g;have q:=PX (.list t) x z d
   grind
  .cases d
 |.ptr i o,b,h=>by
  cases b<;>simp only[YO,ag,af]at h;simp_all
 |.slc i v w,b,h=>by
  cases b<;>simp only[YO,ag,af]at h
  grind [lS,aq6]
 |.ep i v m o,b,h=>by
  cases b<;>simp only[YO,ag,af]at h;rw[lS h.1,lS h.2.1,lS h.2.2.1,lS h.2.2.2]
 |.fn f l,b,h=>by
  cases b<;>simp only[YO,ag,af]at h;rw[lS h.1,tV l _ h.2]
 |.mfn f l,b,h=>by
  cases b<;>simp only[YO,ag,af]at h;rw[lS h.1,tV l _ h.2]
 |.mpv i,b,h=>by
  cases b<;>simp only[YO,ag]at h;rw[lS h]
 |.yld i,b,h=>by
  cases b<;>simp only[YO,ag]at h;rw[lS h]
 |.slf i,b,h=>by
  cases b<;>simp only[YO,ag]at h;rw[lS h]
 |.sd i v,b,h=>by
  cases b<;>simp only[YO,ag,af]at h;simp_all
theorem tV: ∀(a b:List bZ),Ls a b=true->a=b
 |[],[],_=>rfl
 |[],_::_,h=>by simp[Ls]at h
 |_::_,[],h=>by simp[Ls]at h
 |a::l,b::m,h=>by
  simp only[Ls,af]at h;rw[avK a b h.1,tV l m h.2]
end
theorem rC: ∀(B:List Nat) (fr:List bZ),(qW ops B fr).length=fr.length
 |[],_=>rfl
 |i::B,fr=>by
  simp only[qW];split
  .rw[List.length_set];exact rC B fr
  .exact rC B fr
theorem afR {k d:Nat} {B:List Nat} {fr:List bZ} (h:xN ops k=a6 d):qW ops (k::B) fr=(qW ops B fr).set d .undef:=by
 have e:(ops[k]?).bind (·.dst)=a6 d:=h;simp only[qW,e]
theorem afQ {k:Nat} {B:List Nat} {fr:List bZ} (h:xN ops k=a7):qW ops (k::B) fr=qW ops B fr:=by
 have d:(ops[k]?).bind (·.dst)=a7:=h;simp only[qW,d]
theorem Zv: ∀(B:List Nat) (fr:List bZ) (i:Nat) (h:i<fr.length) (e:i<(qW ops B fr).length),(qW ops B fr)[i]=.undef\/((qW ops B fr)[i]=fr[i]/\ ∀k∈B,xN ops k≠a6 i)
 |[],fr,i,h,e=>.inr ⟨rfl,fun k hk=>by cases hk⟩
 |k::B,fr,i,h,e=>by
  have f:=rC (ops:=ops) B fr;have g:=Zv B fr i h (by rw[f];exact h);cases hd:xN ops k with
  |some d=>
   simp only[afR hd]
   grind
  |none=>
   simp_all [afQ]
theorem aJa (X:Act) (d:Option Nat) (v:Value) (i:Nat) (e:d≠a6 i) (h:i<(X.put d v).tmps.size) (f:i<X.tmps.size):(X.put d v).tmps[i]=X.tmps[i]:=by
 cases d with
 |none=>rfl
 |some d=>
  simp_all [Act.put]
theorem aat (a:Act) (i:Nat): ∀(l:List (Nat×Value)),(∀k∈l.map (·.1),xN ops k≠a6 i)-> ∀(h:i<(gV ops a l).tmps.size) (d:i<a.tmps.size),(gV ops a l).tmps[i]=a.tmps[i]
 |[],_,h,d=>rfl
 |(k,v)::l,hk,h,d=>by
  have e:i<(gV ops a l).tmps.size:=by rw[xq];exact d
  rw[<-aat a i l (fun m f=>hk m (aj _ f)) e d];exact aJa _ _ _ _ (hk k az) h e
theorem ap4 {c:Cx} {fr:List bZ} {l:List (Nat×Value)} {B:List Nat} (h:bQ c fr (gV ops a l).tmps.toList) (j: ∀k∈l.map (·.1),k∈B):bQ c (qW ops B fr) a.tmps.toList:=by
 have g:=bQ.length _ _ h;rw[Array.length_toList (xs:=(gV ops a l).tmps),xq]at g;refine bQ.mk _ _ (by simp_all [rC]) fun i d f=> ?_;rw[rC]at d;have f:i<a.tmps.size:=by simpa using f
 rcases Zv (ops:=ops) B fr i d (by assumption)with e|⟨e,hk⟩
 .rw[e];simp[dh]
 .rw[e];have:=bQ.get _ _ h i d (by simp_all [xq])
  grind [aat]
theorem SS {o:Oper} (h:kQ o.op=true): ∀cs b,o.op≠ .select cs b:=fun cs b e=>by simp_all [kQ]
theorem arT {d:Op} (h:iT d=true):kQ d=true:=by
 cases d<;>first|exact h|skip
 rename_i e
 obtain⟨f,g,i⟩:=e;cases f with
 |builtin b=>cases b<;>first|exact h|(simp[iT]at h)
 |value v=>rfl
 |invoke x m=>simp[iT]at h
def ati (T:TT) (cl:Bool) {R:Type} (call:gX R) (ops:Array Oper) (d:List bZ) (st:St) (k:Nat):Prop:=∃ok,ops[k]? =a6 ok/\((iT ok.op=true/\ ∃(r:R) (K:St->Option R),(fF T cl call ok st fun z s=>cond (sameAt ok.dst z st) (K s) a7)=a6 r)\/ (iT ok.op=false/\jZ ok d=jZ ok st.fr/\Dt ok.dst d=Dt ok.dst st.fr))
theorem FO {R:Type} {r:R} (hT:TOk P T) {call:gX R} {g:List bZ} {K:St->Option R} (f:ji W0 b0 rd c st a ats): ∀(B:List Nat),
  BM T cl call ops g B st K=a6 r->K st=a6 r/\ ∀k∈B,ati T cl call ops g st k
 |[],h=>⟨h,fun k hk=>by cases hk⟩
 |k::B,h=>by
  simp only[BM]at h;split at h
  .rename_i ok j
   cases hq:iT ok.op with
   |true=>
    rw[hq]at h;simp only[aa]at h;have l:=h;obtain⟨z,u,g1,g2,g3⟩:=Eg hT f.ok hq f.hp f.fr h;replace g1:=dL g1;obtain⟨g4,g5⟩:=FO hT f B g1.2;refine⟨g4,fun m d=> ?_⟩;rcases List.mem_cons.1 d with e|d
    .exact⟨ok,by rw[e];exact j,.inl ⟨hq,r,fun _=>BM T cl call ops g B st K,l⟩⟩
    .exact g5 m d
   |false=>
    rw[hq]at h;simp only[ac]at h;replace h:=dL h;obtain⟨i,h⟩:=h;simp only[af]at i;obtain⟨g4,g5⟩:=FO hT f B h;refine⟨g4,fun m d=> ?_⟩;rcases List.mem_cons.1 d with e|d
    .exact⟨ok,by rw[e];exact j,.inr ⟨hq,tV _ _ i.1,tV _ _ i.2⟩⟩
    .exact g5 m d
  .cases h
theorem wJ.same {o:Oper} {fr e:List bZ} {z:bZ} (h:wJ sg cl o fr z) (p:jZ o fr=jZ o e) (h2:Dt o.dst fr=Dt o.dst e):wJ sg cl o e z:=by
 obtain⟨f,g,i,q,j,l,s,m⟩:=h;refine⟨f,g,i,fun d hd=> ?_,j,l,by simp_all,m⟩;simp_all [Dt]
theorem ahR {d:Nat} {z:bZ} (h:z=st.fr.getD d .undef):st.put (a6 d) z=st:=by
 obtain⟨fr,e,f,g⟩:=st;simp only[St.put];have:fr.set d z=fr:=by
  subst h;apply List.ext_getElem
  all_goals grind
 rw[this]
theorem aDT (X:Act) (d:Option Nat) (v u:Value):(X.put d v).put d u=X.put d u:=by
 cases d with
 |none=>rfl
 |some d=>simp[Act.put]
theorem Zp (hT:TOk P T) (hd:oG ops=true) (I:o9 (R:=Unit) P (J8 sg cl)) {R:Type} {call:gX R} {W:List bZ} {lA:Array Bool} {log:List Nat}: ∀(l q:List (Nat×Value)),iZ ops lA log (l.map (·.1))->ji W0 b0 rd c st (gV ops (gV ops a l) q) ats->
  (∀k∈l.map (·.1),ati T cl call ops W st k)->PH sg cl ops st.fr (l.map (·.1))->(∀m∈q.map (·.1),∃i,ops[m]? =a6 i/\ ∀k∈l.map (·.1),∃ok,ops[k]? =a6 ok/\atl ops ok i)->
  ∃f,f.map (·.1)=l.map (·.1)/\ji W0 b0 rd c st (gV ops (gV ops a f) q) ats/\lU rd n P ops c a f
 |[],q,_,y,_,_,_=>⟨[],rfl,y,trivial⟩
 |(k,v)::l,q,X,y,J,hF,L=>by
  obtain⟨Y,s2,s3,s4,ok,o,M,s7,Z,s9,al⟩:=X;have ab: ∀m∈(q++[(k,v)]).map (·.1),∃i,ops[m]? =a6 i/\ ∀x∈l.map (·.1),∃N,ops[x]? =a6 N/\atl ops N i:=fun m g=>by
   grind
  obtain⟨f,e1,j,ad⟩:=Zp hT hd I l (q++[(k,v)]) Y (by rw[Dk];exact y) (fun m g=>J m (aj _ g)) (fun m g=>hF m (aj _ g)) ab;rw[Dk]at j;have hX:gV ops (gV ops a f) [(k,v)]=(gV ops a f).put (xN ops k) v:=rfl;rw[hX]at j;have A:=wR o;have ah:execOp (gV ops ((gV ops a f).put (xN ops k) v) q).eval ok=execOp (gV ops a f).eval ok:=by
   rw[GR _ (SS M) q fun m g e he=> ?_,execOp_put (ops:=ops) ok (SS M) _ _ _ (by rw[A];exact Z)];obtain⟨i,h1,B⟩:=L m g;obtain⟨O,p,D⟩:=B k az;rw[o]at p;cases p;exact(D e (by grind [wR])).1
  have S: ∀u,gV ops ((gV ops a f).put (xN ops k) u) q=(gV ops (gV ops a f) q).put (xN ops k) u:=fun u=>Af _ q fun m g e he h=>by
   obtain⟨i,h1,B⟩:=L m g;obtain⟨O,p,D⟩:=B k az;rw[o]at p;cases p;exact(D e (by grind [wR])).2 (by simp_all)
  have U: ∀(z:bZ) (u:Value),dh c z u->st.put ok.dst z=st->KY rd n P c (gV ops ((gV ops a f).put (xN ops k) v) q) ok u->
    ∃E,E.map (·.1)=((k,v)::l).map (·.1)/\ji W0 b0 rd c st (gV ops (gV ops a E) q) ats/\lU rd n P ops c a E:=fun z u g2 ai g3=>by
   refine⟨(k,u)::f,by simp[e1], ?_,ad,ok,o,g3.congr ah.symm⟩;have:=j.put (dst:=ok.dst) g2;rw[ai,S v,A,aDT,<-A,<-S u]at this;exact this
  obtain⟨O,V,a2⟩:=J k az;rw[o]at V;cases V;rcases a2 with ⟨G,r,K,a3⟩|⟨G,_,_⟩
  .obtain⟨z,u,g1,g2,g3⟩:=Eg hT j.ok G j.hp j.fr a3;rw[cond_eq_ite]at g1;split at g1
   .rename_i s
    refine U z u g2 ?_ (.of_run g3);cases hdst:ok.dst with
    |none=>rfl
    |some d=>
     rw[hdst]at s;exact ahR (avK _ _ s)
   .cases g1
  .obtain⟨z,s⟩:=hF k az ok o G;obtain⟨g2,g3⟩:=Vd (n:=n) hT I s rfl j;refine U z _ g2 ?_ g3;cases hdst:ok.dst with
   |none=>rfl
   |some d=>exact ahR (s.2.2.2.1 d hdst)
theorem Jb (hT:TOk P T) (hd:oG ops=true) (M:o9 (R:=Unit) P (J8 sg cl)) {R:Type} {r:R} {call:gX R} (N:nX P W0 n call) {lA:Array Bool} {log:List Nat} {l:List (Nat×Value)} {j:Nat} {K:St->Option R}
  (hF:PH sg cl ops st.fr (l.map (·.1))) (hj:j∈Region.ready .any ops lA) (y:iZ ops lA log (l.map (·.1))) (ad:j∉l.map (·.1)) (d:ji W0 b0 rd c st (gV ops a l) ats)
  (h:wX T cl call ops j log st K=a6 r) {next:Act->World->Prop} {Q:Exit->Act->World->Prop}
  (O: ∀c' p q f,K p=a6 r->f.map (·.1)=l.map (·.1)->ji W0 b0 rd c' p (gV ops q f) ats->lU rd n P ops c' q f->PH sg cl ops p.fr (l.map (·.1))->c.Mono c'->next q c'.w):wpOpIn (FW rd) n P ops Q j next a c.w:=by
 unfold wX at h;split at h
 .rename_i g S
  replace h:=dL h;obtain⟨s,h⟩:=h;simp only[af]at s;have U:g.guard=a7:=by simpa using s.1
  unfold wpOpIn;simp only[S];rw[am (by simp[Region.wanted,U])];have A: ∀k∈l.map (·.1),k∈log.filter fun i=> !wG ops j i:=fun k hk=>List.mem_filter.2 ⟨iZ.log y k hk,by grind [aiz,iZ.un]⟩;have ah: ∀k∈l.map (·.1),∃ok,ops[k]? =a6 ok/\ok.apart ops g=true:=fun k hk=>by
   have V:=s.2;unfold aye at V
   grind
  have W:ji W0 b0 rd c {st with fr:=qW ops (log.filter fun i=> !wG ops j i) st.fr,stk:=st.fr::st.stk} a ((gV ops a l).tmps::ats):=
   ⟨d.hp,d.nxt,d.ok,ap4 d.fr A,⟨d.fr,d.stk⟩,by have:=d.df;rwa [Dl]at this,d.rd⟩
  refine Xo hT N h W fun c' z u X k1 k2 k3 k4=> ?_;split at k1
  .rename_i fr v Y
   have o:=k2.stk;rw[Y]at o;simp only[Gj]at o;have Z:ji W0 b0 rd c' {X with fr:=fr,stk:=v} (gV ops a l) ats:=
    ⟨k2.hp,k2.nxt,k2.ok,o.1,o.2,by rw[Dl];exact k2.df,k2.rd⟩
   have x:=Z.put (dst:=g.dst) k3;have ab:(gV ops a l).put g.dst u=gV ops (a.put g.dst u) l:=(Af a l fun m B e he hh=>by
    grind [Oper.apart_spec,wR]).symm
   rw[ab]at x;obtain⟨g1,g2⟩:=FO hT x _ k1;have D: ∀k∈l.map (·.1),ati T cl call ops st.fr _ k:=fun k hk=>g2 k (List.mem_reverse.2 (A k hk));have E:PH sg cl ops _ (l.map (·.1)):=fun k hk ok G I=>by
    obtain⟨z,hz⟩:=hF k hk ok G I;obtain⟨ai,J,b2⟩:=D k hk;rw[G]at J;cases J;rcases b2 with ⟨L,_⟩|⟨_,b4,b5⟩
    .rw[I]at L;cases L
    .exact⟨z,hz.same b4 b5⟩
   obtain⟨f,e1,e2,e3⟩:=Zp (n:=n) hT hd M l [] y x D E (fun m B=>by cases B);exact O c' _ _ f g1 e1 e2 e3 E k4
  .cases k1
 .cases h
def WfH (h:iw):Prop:= ∀id f e g asg d k n p,dW h id=a6 (.lp f e g asg d (a6 k) n p)->ut f k=a6 (asg,d)
theorem ji.tidy {c:Cx} {st:St} {a:Act} (cl:Bool) (d:ji W0 b0 rd c st a ats): ∃c',ji W0 b0 rd c' (tidy cl st) a ats/\c.Mono c'/\c'.w=c.w:=by
 cases cl with
 |true=>exact⟨c,d,Cx.Mono.refl c,rfl⟩
 |false=>
  have g: ∀i,dW (ny c.hp) i=dW c.hp i:=fun i=>zS i _;have q: ∀(o:dV) (l:Loc),o.like l o l:=fun o l=>by
   cases o<;>simp[dV.like]
  have e:c.Le {c with hp:=ny c.hp}:=by
   refine⟨fun b f=>⟨⟨f.1,fun⟨j,o,s,m⟩=>f.2.1 ⟨j,o,by simp_all,m⟩,f.2.2⟩,rfl⟩,fun id hk=> ?_,fun id u _ h=>⟨u,by rw[<-g];exact h,q _ _⟩,fun _ h=>h,fun b L h=>⟨L,h⟩,ae _,rfl⟩;rcases hk with ⟨o,h⟩|h
   .exact .inl ⟨o,by simp_all⟩
   .exact .inr h
  have v:({c with hp:=ny c.hp}:Cx).Ok W0:=by
   refine⟨d.ok.bel,fun id o h=> ?_,fun i j o p b s m=>d.ok.inj i j o p b (by simp_all) (by simp_all),d.ok.mks,fun b f=>(e.out b (d.ok.bar b f)).1,d.ok.phi⟩;exact(d.ok.obj id o (by rw[<-g];exact h)).le e rfl fun b _=>rfl
  exact⟨{c with hp:=ny c.hp},⟨by show ny c.hp=ny st.hp;rw[d.hp],d.nxt,v,bQ.le e _ _ d.fr,Gj.le e _ _ d.stk,d.df,d.rd⟩,e.mono,rfl⟩
theorem ji.wf {c:Cx} {st:St} {a:Act} (d:ji W0 b0 rd c st a ats):WfH st.hp:=fun id f e g asg i k n p h=>by
 rw[<-d.hp]at h;exact(d.ok.obj id _ h).1 k rfl
def WfO:dV->Prop
 |.lp f _ _ asg bd (a6 k) _ _=>ut f k=a6 (asg,bd)
 |_=>True
theorem Ro: ∀(h:iw),vV h=true->WfH h-> ∀e∈h,WfO e.2
 |[],_,_,e,d=>by simp at d
 |(k,o)::h,g,m,e,d=>by
  simp only[vV,af,aW]at g;rcases List.mem_cons.1 d with rfl|d
  .cases o with
   |lp f i j asg l ky n p=>
    cases ky with
    |none=>trivial
    |some q=>exact m k f i j asg l q n p (by simp[fD])
   |_=>trivial
  .refine Ro h g.2 (fun id f i j asg l q n p u=>m id f i j asg l q n p ?_) e d;rw[fD];by_cases hk:k=id
   .subst hk;have:=zQ _ _ _ u;have s:=g.1;rw[List.any_eq_false]at s;exact absurd (by simp:Nat.beq k k=true) (s _ this)
   simp_all
theorem aBu {a b:Ex} (h:aGT a b=true):a=b:=by
 cases a<;>cases b<;>simp only[aGT,ag]at h<;>first|rfl|rw[lS h]
theorem avI {a b:Option Ex} (h:avH a b=true):a=b:=by
 cases a<;>cases b<;>simp only[avH,ag]at h
 .rfl
 .rw[aBu h]
theorem aAJ {o:iw} {i:Nat} {a b x:dV} (s:WfH o) (hb:WfO b) (d:eqO a b=true) (h:YD o i a=a6 x):x=b:=by
 cases a with
 |box t l=>
  cases b<;>simp only[eqO,ag,af]at d;cases h;rw[lS d.1,tV _ _ d.2]
 |arr t v y=>
  cases b<;>simp only[eqO,ag,af]at d;cases h
  grind [nU,PX,lS]
 |dead=>
  cases b<;>simp only[eqO,ag]at d;cases h;rfl
 |mp k v l=>
  cases b<;>simp only[eqO,ag,af,decide_eq_true_eq]at d;obtain⟨rfl,rfl,rfl⟩:=d;cases h;rfl
 |lp f fr ps asg bd ky n p=>
  cases b<;>simp only[eqO,ag,af]at d
  rename_i g G I J K L m q
  obtain⟨u,M,N,e,O,S⟩:=d;split at e
  .rename_i k U
   have z:=lS u;have A:=lS e;subst z A;simp only[YD]at h;split at h
   .rename_i B
    replace h:=dL h;obtain⟨j,h⟩:=h;simp only[af]at j
    rename_i g2 _ _ V W k2 _ _
    have D:=lS j.1;have E:=lS j.2;subst D E;have X:=s _ _ _ _ _ _ _ _ _ B
    grind [WfO,tV,DN,lS,avI]
   .cases h
  .cases e
theorem YB {f:iw} (g:WfH f): ∀(a b x:iw),(∀e∈b,WfO e.2)->eqH a b=true->YA f a=a6 x->x=b
 |[],b,x,_,d,h=>by
  cases b with
  |nil=>cases h;rfl
  |cons _ _=>simp[eqH]at d
 |(i,o)::a,b,x,l,d,h=>by
  cases b with
  |nil=>simp[eqH]at d
  |cons e b=>
   obtain⟨j,q⟩:=e;simp only[eqH,af]at d;simp only[YA]at h;split at h
   .rename_i y m
    split at h
    .rename_i z p
     cases h;rw[aAJ g (l _ az) d.2.1 m,YB g a b z (fun e d=>l e (aj _ d)) d.2.2 p,lS d.1]
    .cases h
   .cases h
theorem ar7 {d:iw} {a b m:St} (h:settle d a=a6 m) (e:WfH d) (h2:avJ a b=true) (f:vV b.hp=true) (hb:WfH b.hp):m=b:=by
 unfold settle at h;split at h
 .rename_i hp g
  cases h;unfold avJ at h2;simp only[af]at h2;obtain⟨j,l,i,o⟩:=h2;have p:=YB e _ _ _ (Ro _ f hb) i g;obtain⟨q,s,u,v⟩:=a;obtain⟨x,y,z,A⟩:=b
  grind [tV,DN,lS]
 .cases h
theorem alM {e:iw} {i:Nat} {a x:dV} (g:WfH e) (o:WfO a) (h:YD e i a=a6 x):x=a:=by
 cases a with
 |lp f fr ps asg bd ky n p=>
  cases ky with
  |none=>simp[YD]at h
  |some k=>
   simp only[YD]at h;split at h
   .rename_i j
    replace h:=dL h;obtain⟨d,h⟩:=h;simp only[af]at d;have l:=lS d.1;have m:=lS d.2;subst l m;have q:=g _ _ _ _ _ _ _ _ _ j;simp_all [WfO]
   .cases h
 |_=>simp_all [YD]
theorem YC {d:iw} (f:WfH d): ∀(a x:iw),(∀e∈a,WfO e.2)->YA d a=a6 x->x=a
 |[],x,_,h=>by cases h;rfl
 |(i,o)::a,x,g,h=>by
  simp only[YA]at h;split at h
  .rename_i y j
   split at h
   .rename_i z l
    cases h;rw[alM f (g _ az) j,YC f a z (fun e m=>g e (aj _ m)) l]
   .cases h
  .cases h
theorem aif {d:iw} {a m:St} (h:settle d a=a6 m) (e:WfH d) (f:vV a.hp=true) (g:WfH a.hp):m=a:=by
 unfold settle at h;split at h
 .rename_i hp i
  cases h;rw[YC e _ _ (Ro _ f g) i]
 .cases h
theorem ahs {e:iw} {L:List (Option St)} {m:St} (h:Xd e L=a6 m) (f:WfH e): ∀x∈L,∃b,x=a6 b/\(WfH b.hp->m=b):=by
 unfold Xd at h;split at h
 .rename_i a l
  replace h:=dL h;obtain⟨g,h⟩:=h;split at h
  .rename_i hp i
   cases h;intro x j;have d:=List.all_eq_true.1 g x j;cases x with
   |none=>simp at d
   |some b=>
    simp only[af]at d;refine⟨b,rfl,fun o=> ?_⟩;obtain⟨d,p⟩:=d;unfold avJ at d;simp only[af]at d;obtain⟨s,u,q,v⟩:=d;have y:=YB f _ _ _ (Ro _ p o) q i;obtain⟨z,A,B,D⟩:=a;obtain⟨E,G,I,J⟩:=b
    grind [tV,DN,lS]
  .cases h
 .cases h
def afY (ops:Array Oper) (lA:Array Bool):Nat:=((List.range ops.size).filter fun i=> !lA.getD i true).length
theorem filter_lt {f:Type} {p q:f->Bool}: ∀(l:List f),(∀x∈l,q x=true->p x=true)->(∃x∈l,p x=true/\q x=false)->(l.filter q).length<(l.filter p).length
 |[],_,h=>by simp_all
 |y::l,h,d=>by
  have m:(l.filter q).length<=(l.filter p).length:=by
   clear d
   induction l with
   |nil=>simp
   |cons z l g=>
    grind
  obtain⟨x,d,i,j⟩:=d;simp only[List.filter_cons];rcases List.mem_cons.1 d with e|d
  .grind
  .have g:=filter_lt l (fun x d=>h x (aj _ d)) ⟨x,d,i,j⟩
   grind
theorem Nh {lA:Array Bool} {j:Nat} (l:lA.size=ops.size) (d:j∈Region.ready .any ops lA):afY ops (lA.setIfInBounds j true)<afY ops lA:=by
 obtain⟨f,m,g,_⟩:=mem_ready.1 d;have i:j<ops.size:=(Array.getElem?_eq_some_iff.1 g).1;refine filter_lt _ (fun x o h=> ?_) ⟨j,List.mem_range.2 i,by rw[f];rfl, ?_⟩
 .by_cases e:j=x
  all_goals simp_all
 simp
theorem ap6 {lA:Array Bool} (h:afY ops lA=0):Region.ready .any ops lA=[]:=by
 simp_all [afY,Region.ready]
theorem iZ.oldest {lA:Array Bool} {log:List Nat}: ∀{l:List Nat},iZ ops lA log l->l≠[]-> ∃k∈l,k∈Region.ready .any ops lA
 |[],_,h=>absurd rfl h
 |[k],h,_=>by
  obtain⟨_,f,_,_,ok,g,_,_,_,i,_⟩:=h;simp_all [mem_ready]
 |k::m::l,h,_=>by
  obtain⟨x,d,e⟩:=iZ.oldest h.1 (by simp);exact⟨x,aj _ d,e⟩
structure Lag (n:Nat) (sg:FuncId->Option Sum) (cl:Bool) (P:Program) (W0:World) (b0:Nat) (rd:Option Nat) (ats:List (Array Value)) (ops:Array Oper) (c:Cx) (st:St) (lE:Array Bool) (log:List Nat) (a:Act) (lA:Array Bool) (l:List (Nat×Value)):Prop where
 rel:ji W0 b0 rd c st (gV ops a l) ats
 pst:iZ ops lA log (l.map (·.1))
 run:lU rd n P ops c a l
 sA:lA.size=ops.size
 sE:lE.size=ops.size
 sub: ∀j,lA.getD j false=true->lE.getD j false=true
 cov: ∀j,lE.getD j false=true->lA.getD j false=true\/j∈l.map (·.1)
 hE: ∀k∈l.map (·.1),lE.getD k false=true
 fit:PH sg cl ops st.fr (l.map (·.1))
theorem acb {l:Array Bool} {j:Nat} (h:j<l.size):l.getD j true=l.getD j false:=by simp[h]
theorem Lag.ready {d:Array Bool} {log:List Nat} {lA:Array Bool} {l:List (Nat×Value)} (h:Lag n sg cl P W0 b0 rd ats ops c st d log a lA l) {j:Nat} (g:j∈Region.ready .any ops lA) (u:j∉l.map (·.1)):j∈Region.ready .any ops d:=by
 obtain⟨v,i,f,m⟩:=mem_ready.1 g;have o:j<ops.size:=(Array.getElem?_eq_some_iff.1 f).1;refine mem_ready.2 ⟨?_,i,f,fun e p q=>h.sub _ (m e p q)⟩;cases hg:d.getD j true with
 |false=>rfl
 |true=>
  rw[acb (by rw[h.sE];exact o)]at hg;rcases h.cov j hg with s|s
  all_goals grind
theorem TS (hd:oG ops=true) {f:Array Bool} {log:List Nat} {Q:Act->World->Prop}
  (J:Region.ready .any ops f=[]-> ∀w,J3 c w-> ∀a,ji W0 b0 rd (c.at_ w) st a ats->Q a w)
  (K: ∀(w:World),J3 c w-> ∀(d:Nat) (a:Act) (lA:Array Bool) (l:List (Nat×Value)) (j:Nat),Lag n sg cl P W0 b0 rd ats ops (c.at_ w) st f log a lA l->afY ops lA<=d+1->j∈Region.ready .any ops lA->j∉l.map (·.1)->j∈Region.ready .any ops f->
   wpOpIn (FW rd) n P ops (fun e a w=>e=.normal/\Q a w) j (wpAnyIn (FW rd) n P .any ops (fun e a w=>e=.normal/\Q a w) d (lA.setIfInBounds j true)) a w):
  ∀(m d:Nat) (w:World),J3 c w-> ∀(a:Act) (lA:Array Bool) (l:List (Nat×Value)),l.length=m->Lag n sg cl P W0 b0 rd ats ops (c.at_ w) st f log a lA l->afY ops lA<=d->
   wpAnyIn (FW rd) n P .any ops (fun e a w=>e=.normal/\Q a w) d lA a w:=by
 have D: ∀(w:World),J3 c w-> ∀(a:Act) (lA:Array Bool) (l:List (Nat×Value)),Lag n sg cl P W0 b0 rd ats ops (c.at_ w) st f log a lA l->Region.ready .any ops lA=[]->Q a w:=fun w g a lA l h i=>by
  have L:l=[]:=by
   cases l with
   |nil=>rfl
   |cons x l=>
    obtain⟨k,_,hk⟩:=iZ.oldest h.pst (by simp);simp_all
  subst L;refine J ?_ w g a h.rel;cases hrE:Region.ready .any ops f with
  |nil=>rfl
  |cons j X=>
   obtain⟨p,q,E,M⟩:=mem_ready.1 (show j∈Region.ready .any ops f by rw[hrE];simp);have u:j<ops.size:=(Array.getElem?_eq_some_iff.1 E).1;have:j∈Region.ready .any ops lA:=mem_ready.2 ⟨by
    cases hg:lA.getD j true with
    |false=>rfl
    |true=>
     rw[acb (by rw[h.sA];exact u)]at hg;exact(Qh (h.sub j hg) p).elim,q,E,fun e N O=>(h.cov _ (M e N O)).resolve_right (by simp)⟩
   simp_all
 intro m
 induction m using Nat.strongRecOn with
 |ind m y=>
  intro d w g a lA l s h S;cases d with
  |zero=>
   have i:=ap6 (ops:=ops) (lA:=lA) (by omega);exact⟨i,rfl,D w g a lA l h i⟩
  |succ d=>
   refine⟨fun i=>⟨rfl,D w g a lA l h i⟩,fun j o=> ?_⟩;by_cases hjl:j∈l.map (·.1)
   .obtain⟨Y,q,z,Z⟩:=mem_ready.1 o;obtain⟨v,A,g1,g2,g3,g4⟩:=aar hd z o h.pst h.run hjl;have u:j<ops.size:=(Array.getElem?_eq_some_iff.1 z).1;have U:q.guard=a7:=by
     have: ∀(l:List Nat),iZ ops lA log l->j∈l->q.guard=a7:=fun l=>by
      induction l with
      |nil=>intro _ h;cases h
      |cons k l y=>
       intro G s;rcases List.mem_cons.1 s with e|s
       .subst e;obtain⟨_,_,_,_,ok,h5,_,h7,_⟩:=G;simp_all
       .exact y G.1 s
     exact this _ h.pst hjl
    have V:A.length<m:=by
     grind [aO]
    refine g1.wpOp (c:=c.at_ w) hd z U fun I B=> ?_;have W:J3 c I:=Below.trans g (B.mono g.size);refine y A.length V d I W _ _ A rfl ⟨by rw[g4];exact h.rel.ext B,by rw[g2];exact iZ.take (by rw[h.sA];exact u) h.pst hjl,lU.ext B g3,by simpa using h.sA,h.sE,fun k hk=> ?_,fun k hk=> ?_,fun k hk=>h.hE k (by grind),fun k hk=>h.fit k (by grind)⟩ (by have:=Nh h.sA o;omega)
    .by_cases e:j=k
     .subst e;exact h.hE j hjl
     .rw[getD_set_ne false e]at hk;exact h.sub k hk
    .rcases h.cov k hk with p|p
     .exact .inl (getD_set_true p)
     grind [Am]
   .exact K w g d a lA l j h S o hjl (h.ready o hjl)
theorem aq8 {fr:List bZ} {d:Nat} {z:bZ} {x:Operand} (h:x≠ .tmp d):iH (fr.set d z) x=iH fr x:=by
 cases x with
 |tmp t=>
  grind [iH]
 |_=>rfl
theorem EI {o:Oper} {dst:Option Nat} {z:bZ} (h: ∀d,dst=a6 d->d∉o.looksAt ops):jZ o (st.put dst z).fr=jZ o st.fr:=by
 cases dst with
 |none=>rfl
 |some d=>
  have f: ∀x∈o.op.operands,x≠ .tmp d:=fun x f e=>h d rfl (by
   subst e;exact bD _ (List.mem_filterMap.2 ⟨.tmp d,by simpa using f,rfl⟩))
  grind [jZ,St.put,aq8,Op.operands,Call.operands,List.map_congr_left]
theorem als {o:Oper} {dst:Option Nat} {z:bZ} (h: ∀d,dst=a6 d->o.dst≠a6 d):Dt o.dst (st.put dst z).fr=Dt o.dst st.fr:=by
 cases dst with
 |none=>rfl
 |some d=>
  cases ho:o.dst with
  |none=>rfl
  |some e=>
   have f:d≠e:=fun x=>h d rfl (by rw[ho,x]);simp_all [Dt,St.put]
theorem aaj: ∀(rs:List (Ty×Bool)) y,(rs.all fun r=> !r.2&&r.1.rigid)=true->BH rs y=a7/\news rs=0/\(rs.all fun r=>r.1.rigid||(r.2&&r.1.elem.rigid))=true
 |[],_,_=>⟨rfl,rfl,rfl⟩
 |(t,true)::rs,y,h=>by simp at h
 |(t,false)::rs,y,h=>by
  simp only[List.all_cons,aA,aQ,af]at h;obtain⟨d,e,f⟩:=aaj rs y.2 h.2;simp_all [BH,news]
theorem Zq {hp hp':iw}: ∀(d:List Ty) (args:List bZ),args.all bZ.calm=true->DD hp d args=DD hp' d args
 |[],[],_=>rfl
 |[],_::_,_=>rfl
 |_::_,[],_=>rfl
 |t::d,v::args,h=>by
  simp only[List.all_cons,af]at h;have e:v.as hp t=v.as hp' t:=by cases v<;>simp only[bZ.calm,ag]at h<;>first|rfl|simp_all
  have f:=Zq (hp:=hp) (hp':=hp') d args h.2;simp only[DD,e,f]
theorem alp {R:Type} {r:R} {i:Nat} {e:Oper} {X:bZ->St->Option R} (hi:acj sg ops st.fr i=true) (u:ops[i]? =a6 e) (A: ∀d,e.dst=a6 d->d∉e.looksAt ops)
  (h:fF T cl (J8 sg cl) e st X=a6 r): ∃z,X z st=a6 r/\kQ e.op=true/\wJ sg cl e (st.put e.dst z).fr z:=by
 unfold acj at hi;rw[u]at hi;simp only at hi;split at hi
 .rename_i g m j
  split at hi
  .rename_i s B
   simp only[af]at hi;obtain⟨⟨o,p⟩,N⟩:=hi;obtain⟨O,D,S,U,V,W⟩:=e;cases D with
   |call c=>
    obtain⟨E,Y,Z⟩:=c;cases E with
    |value v=>
     have G:=j;simp only[jZ,List.cons.injEq]at j;simp only[fF]at h;rw[j.1,j.2]at h;have I: ∀{R:Type} (dst:Option Nat) (l:St) (K:bZ->St->Option R),J8 sg cl (.fn g []) m dst l K=match DD [] s.ps m with
       |some x=>bJ (s.f x) fun y=>K (QI (qQ 0 s.rs y)) l
       |none=>a7:=fun {R} dst l K=>by
      simp only[J8,B,o,p,Bool.and_self,aa,Sum.call];have q:=o;unfold OW at q;rw[Zq (hp:=l.hp) (hp':=[]) _ _ p];cases DD [] s.ps m with
      |none=>simp
      |some x=>
       simp only;cases hf:s.f x with
       |none=>simp[bJ]
       |some y=>
        obtain⟨J,L,M⟩:=aaj s.rs y q;simp[bJ,J,L,M]
     rw[I]at h;split at h
     .rename_i x hx
      cases hf:s.f x with
      |none=>rw[hf]at h;cases h
      |some y=>
       rw[hf]at h;refine⟨_,h,rfl,rfl,⟨_,v,rfl,rfl⟩,XO _ (MM 0 s.rs y o),fun d hd=> ?_,.fn g [],m, ?_,fun dst l K=> ?_⟩
       .simp_all [TC,St.put]
       .rw[EI (ops:=ops) A];exact G
       simp_all [bJ]
     .cases h
    |_=>simp[jZ]at j
   |_=>simp[jZ]at j
  .cases hi
 .cases hi
theorem yX (hT:TOk P T) (hd:oG ops=true) (G: ∀R:Type,o9 (R:=R) P (J8 sg cl)) {ao:gX St} (V:nX P W0 n ao) {av:gX Unit} (W:nX P W0 n av) (X:AX sg ao) (Y:AX sg av): ∀(J:Nat) {R:Type} {r:R} {call:gX R} (Z:nX P W0 n call) (hx:AX sg call) {K:St->Option R} {Q:Act->World->Prop}
  (L:Array Bool) (log:List Nat) (c:Cx) (st:St),og T cl sg ao av ops J call L log st K=a6 r->
  (∀c' p q,K p=a6 r->ji W0 b0 rd c' p q ats->c.Mono c'->Q q c'.w)-> ∀(v:Nat) (a:Act) (lA:Array Bool) (l:List (Nat×Value)),Lag n sg cl P W0 b0 rd ats ops c st L log a lA l->afY ops lA<=v->
   wpAnyIn (FW rd) n P .any ops (fun e a w=>e=.normal/\Q a w) v lA a c.w
 |0,R,r,call,Z,hx,K,Q,L,log,c,st,h,hQ,v,a,lA,l,f,M=>by simp[og]at h
 |J+1,R,r,call,Z,hx,K,Q,L,log,c,st,h,hQ,v,a,lA,l,f,M=>by
  have aw: ∀(w:World) (q:Act) (lA:Array Bool) (l x:List (Nat×Value)) (j:Nat) (c':Cx) (p:St) (a:Act),Lag n sg cl P W0 b0 rd ats ops (c.at_ w) st L log a lA l->j∈Region.ready .any ops lA->j∉l.map (·.1)->x.map (·.1)=l.map (·.1)->
    ji W0 b0 rd c' p (gV ops q x) ats->lU rd n P ops c' q x->PH sg cl ops p.fr (l.map (·.1))->Lag n sg cl P W0 b0 rd ats ops c' p (L.setIfInBounds j true) log q (lA.setIfInBounds j true) x:=fun w q lA l x j c' p a f y A B e2 e3 e4=>by
   obtain⟨_,oj,aV,_⟩:=mem_ready.1 y;have aG:j<ops.size:=(Array.getElem?_eq_some_iff.1 aV).1;refine⟨e2,by rw[B];exact iZ.set f.pst A,e3,by simpa using f.sA,by simpa using f.sE,fun k hk=> ?_,fun k hk=> ?_,fun k hk=>getD_set_true (f.hE k (by simp_all)),by rw[B];exact e4⟩
   .by_cases e:j=k
    .subst e;exact Am (by rw[f.sE];exact aG)
    .rw[getD_set_ne false e]at hk ⊢;exact f.sub k hk
   .by_cases e:j=k
    .grind [Am]
    .rw[getD_set_ne false e]at hk ⊢;rw[B];exact f.cov k hk
  have aI: ∀(i:Nat) (g:Oper) (z:bZ) (u:Value),i∈Region.ready .any ops L->ops[i]? =a6 g->kQ g.op=true->g.guard=a7->Qv ops log i=true->
    og T cl sg ao av ops J call (L.setIfInBounds i true) (i::log) (st.put g.dst z) K=a6 r->dh c z u->KY rd n P c (gV ops a l) g u->
    (iT g.op=false-> ∃z,wJ sg cl g (st.put g.dst z).fr z/\True)->(iT g.op=false->wJ sg cl g (st.put g.dst z).fr z)->
    wpAnyIn (FW rd) n P .any ops (fun e a w=>e=.normal/\Q a w) v lA a c.w:=fun i g z u ab D hq aX ai g1 g2 g3 _ g4=>by
   obtain⟨aJ,bF,aK,aY⟩:=mem_ready.1 ab;rw[D]at aK;cases aK;have aG:i<ops.size:=(Array.getElem?_eq_some_iff.1 D).1;have aZ:i∉l.map (·.1):=fun hm=>Qh (f.hE i hm) aJ;have bd:lA.getD i true=false:=by
    cases hga:lA.getD i true with
    |false=>rfl
    |true=>
     rw[acb (by rw[f.sA];exact aG)]at hga;exact(Qh (f.sub i hga) aJ).elim
   have E:=ai;unfold Qv at E;rw[D]at E;simp only[af]at E;obtain⟨ax,E⟩:=E;have aP: ∀m∈l.map (·.1),∃om,ops[m]? =a6 om/\atl ops om g/\(wG ops i m=false->om.apart ops g=true):=fun m hm=>by
    have h3:=List.all_eq_true.1 E m (iZ.log f.pst m hm);split at h3
    .rename_i om bG
     simp only[af,Bool.or_eq_true]at h3
     grind [Qc]
    .cases h3
   refine yX hT hd G V W X Y J Z hx (Q:=Q) (L.setIfInBounds i true) (i::log) c (st.put g.dst z) g1 hQ v a lA ((i,u)::l) ⟨?_, ?_,⟨f.run,g,D,g3⟩,f.sA,by simpa using f.sE,fun k hk=> ?_,fun k hk=> ?_,fun k hk=> ?_,fun k hk ok aS bf=> ?_⟩ M
   .have:=f.rel.put (dst:=g.dst) g2;simp_all [gV,wR]
   .exact⟨iZ.mono (fun k hk=>aj _ hk) f.pst,bd,az,aZ,g,D,hq,aX,fun d ad=>(Qc ax d ad).1,fun e he hb=>f.cov _ (aY e he hb),aP⟩
   .by_cases e:i=k
    .grind
    .rw[getD_set_ne false e];exact f.sub k hk
   .by_cases e:i=k
    .simp_all
    .rw[getD_set_ne false e]at hk;exact(f.cov k hk).imp (fun h=>h) fun h=>aj _ h
   .rcases List.mem_cons.1 hk with e|hk
    .grind [Am]
    .exact getD_set_true (f.hE k hk)
   .rcases List.mem_cons.1 hk with e|hk
    .grind
    .obtain⟨z',bg⟩:=f.fit k hk ok aS bf;obtain⟨om,I,h2,_⟩:=aP k hk;rw[aS]at I;cases I;exact⟨z',bg.same (EI (ops:=ops) fun d ad=>(h2 d ad).1).symm (als fun d ad=>(h2 d ad).2).symm⟩
  simp only[og]at h;split at h
  .rename_i al
   exact TS (n:=n) (sg:=sg) (cl:=cl) hd (fun _ w N a hr=>hQ (c.at_ w) st a h hr (Cx.Le.ext N).mono) (fun w N v a lA l j _ _ _ _ y=>by simp_all) _ v c.w (Below.refl _ _) a lA l rfl f M
  .rename_i k rs al
   split at h
   .rename_i i hf
    have an:=List.find?_some hf;simp only[af]at an;replace an:=an.1;have ab:=List.mem_of_find?_eq_some hf;rw[<-al]at ab;split at h
    .rename_i g D
     replace h:=dL h;obtain⟨O,h⟩:=h;simp only[af]at O;obtain⟨O,ai⟩:=O;have hq:iT g.op=true:=by
      grind [aam]
     obtain⟨z,u,g1,g2,g3⟩:=Eg hT f.rel.ok hq f.rel.hp f.rel.fr h;exact aI i g z u ab D (arT hq) (by simpa using O) ai g1 g2 (.of_run g3) (fun h0=>by simp_all) (fun h0=>by simp_all)
    .cases h
   .split at h
    .rename_i i hf
     have an:=List.find?_some hf;have ab:=List.mem_of_find?_eq_some hf;rw[<-al]at ab;split at h
     .rename_i g D
      replace h:=dL h;obtain⟨O,h⟩:=h;simp only[af]at O;obtain⟨O,ai⟩:=O;have ax: ∀d,g.dst=a6 d->d∉g.looksAt ops:=by
       have E:=ai;unfold Qv at E;rw[D]at E;simp only[af]at E;exact fun d ad=>(Qc E.1 d ad).1
      obtain⟨z,g1,g2,g3⟩:=alp an D ax h;obtain⟨g4,g5⟩:=Vd (n:=n) hT (G Unit) g3 (EI (ops:=ops) ax) f.rel;exact aI i g z _ ab D g2 (by simpa using O) ai g1 g4 g5 (fun _=>⟨z,g3,trivial⟩) (fun _=>g3)
     .cases h
    .split at h
     .refine TS (n:=n) (sg:=sg) (cl:=cl) hd (fun hr=>by simp_all) (fun w N v a lA l j f M y A S=> ?_) _ v c.w (Below.refl _ _) a lA l rfl f M;rw[al]at S;obtain rfl:j=k:=by simpa using S
      refine Jb (c:=c.at_ w) hT hd (G Unit) Z f.fit y f.pst A f.rel h fun c' p q x k1 B k2 k3 k5 k4=> ?_;exact yX hT hd G V W X Y J Z hx (Q:=Q) _ log c' p k1 (fun aB aF ah s q2 q3=>hQ aB aF ah s q2 ((Cx.Le.ext N).mono.trans (k4.trans q3))) v q _ x (aw w q lA l x j c' p a f y A B k2 k3 k5) (by have:=Nh f.sA y;omega)
     .rw[cond_eq_ite]at h;split at h
      rotate_left
      .rename_i aU
       simp only[Bool.or_eq_true,aW,not_or,bz,Bool.not_eq_false]at aU;have hp: ∀o∈ops.toList,yN sg o.op=true:=fun o ho=>List.all_eq_true.1 aU.2 o ho;refine TS (n:=n) (sg:=sg) (cl:=cl) hd (fun hr=>by simp_all) (fun w N v a lA l j f M y A S=> ?_) _ v c.w (Below.refl _ _) a lA l rfl f M;rw[al]at S;rcases List.mem_cons.1 S with rfl|bi
       .refine Jb (c:=c.at_ w) hT hd (G Unit) Z f.fit y f.pst A f.rel h fun c' p q x k1 B k2 k3 k5 k4=> ?_;exact yX hT hd G V W X Y J Z hx (Q:=Q) _ log c' p k1 (fun aB aF ah s q2 q3=>by
         replace s:=dL s;obtain⟨q0,s⟩:=s;obtain⟨c3,U,m3,w3⟩:=q2.tidy cl;split at s
         .rename_i m hm
          replace s:=(Cb _ s).1;have:=aif hm f.rel.wf q0 U.wf;subst this;rw[<-w3];exact hQ c3 _ ah s U ((Cx.Le.ext N).mono.trans (k4.trans (q3.trans m3)))
         .cases s) v q _ x (aw w q lA l x j c' p a f y A B k2 k3 k5) (by have:=Nh f.sA y;omega)
       .obtain⟨_,I⟩:=abR hx hp h;obtain⟨bH,I⟩:=VR hp X Y J hx _ _ _ _ I;replace I:=(dL I).2;split at I
        .rename_i m hm
         obtain⟨hK,bn⟩:=Cb _ I;have br:=bn _ (List.mem_map.2 ⟨j,bi,rfl⟩);refine Jb (c:=c.at_ w) hT hd (G Unit) W f.fit y f.pst A f.rel br fun c' p q x k1 B k2 k3 k5 k4=> ?_;exact yX hT hd G V W X Y J W Y (Q:=Q) _ log c' p k1 (fun aB aF ah s q2 q3=>by
          replace s:=(dL s).1;simp only[af]at s;obtain⟨c3,U,m3,w3⟩:=q2.tidy cl;have:=ar7 hm f.rel.wf s.1 s.2 U.wf;subst this;rw[<-w3];exact hQ c3 _ ah hK U ((Cx.Le.ext N).mono.trans (k4.trans (q3.trans m3)))) v q _ x (aw w q lA l x j c' p a f y A B k2 k3 k5) (by have:=Nh f.sA y;omega)
        .cases I
      split at h
      .rename_i cb bt
       refine TS (n:=n) (sg:=sg) (cl:=cl) hd (fun hr=>by simp_all) (fun w N v a lA l j f M y A S=> ?_) _ v c.w (Below.refl _ _) a lA l rfl f M;rw[al]at S;obtain⟨b,bu,bC⟩:=ahs bt f.rel.wf _ (List.mem_map.2 ⟨j,S,rfl⟩);refine Jb (c:=c.at_ w) hT hd (G Unit) V f.fit y f.pst A f.rel bu fun c' p q x k1 B k2 k3 k5 k4=> ?_;exact yX hT hd G V W X Y J V X (Q:=Q) _ log c' p k1 (fun aB aF ah s q2 q3=>by
        cases s;obtain⟨c3,U,m3,w3⟩:=q2.tidy cl;have:=bC U.wf;subst this;rw[<-w3];exact hQ c3 _ ah h U ((Cx.Le.ext N).mono.trans (k4.trans (q3.trans m3)))) v q _ x (aw w q lA l x j c' p a f y A B k2 k3 k5) (by have:=Nh f.sA y;omega)
      .cases h
theorem ajT (hT:TOk P T) (p:P.follows .mixedOrders=true) (hd:oG ops=true) (q: ∀R:Type,o9 (R:=R) P (J8 sg cl)) {g:gX St} (s:nX P W0 n g) {i:gX Unit} (u:nX P W0 n i) (v:AX sg g) (x:AX sg i) {R:Type} {r:R} {call:gX R} (y:nX P W0 n call) (hx:AX sg call) {id m:Nat} {K:St->Option R} {Q:Exit->Act->World->Prop}
  (h:og T cl sg g i ops m call (Array.replicate ops.size false) [] st K=a6 r) (z:ji W0 b0 rd c st a ats) (A: ∀c' d f,K d=a6 r->ji W0 b0 rd c' d f ats->c.Mono c'->Q .normal f c'.w):
  (Code.region id ops true).wpIn (FW rd) n P Q a c.w:=by
 have o:J3 c {c.w with drawn:=c.w.drawn+1}:=⟨rfl,rfl,rfl,ae _,fun _ _=>rfl⟩;have B:=z.ext o;have D:=yX (Q:=fun a w=>Q .normal a w) hT hd q s u v x m y hx _ [] (c.at_ {c.w with drawn:=c.w.drawn+1}) st h (fun c' d f k1 k2 k3=>A c' d f k1 k2 ((Cx.Le.ext o).mono.trans k3)) ops.size a
  (Array.replicate ops.size false) [] ⟨B,trivial,trivial,by simp,by simp,fun j l=>l,fun j l=>.inl l,(fun k hk=>by cases hk),(fun k hk=>by cases hk)⟩ (by
   grind [afY])
 exact Code.wpIn_mono (fun e a w E=>by simp_all) (wpIn_region_any p D)
end
end
section
open Option renaming some → a6, none → a7
open Bool renaming and_eq_true → af
open Nat renaming le_trans → aK
open Go.RowKit
section
variable {P:Program} {T:TT} {W0:World} {b0:Nat} {rd:Option Nat} {R:Type} {r:R} {ats:List (Array Value)}
theorem ath {F:Fence} {n:Nat} {Q:Exit->Act->World->Prop} {a:Act} {w:World} {e:Ex} {d:Code} (f:e.code=a6 d) (h:Q e.xt a w):d.wpIn F n P Q a w:=by
 cases e<;>simp only[Ex.code,Option.some.injEq,reduceCtorEq]at f<;>subst f
 .exact wpIn_exit h
 .exact wpIn_goto h
 .exact wpIn_ret h
theorem WA {n:Nat} {F:St->(Ex->St->Option R)->Option R} {K:Ex->St->Option R} {Q:Exit->Act->World->Prop} {code:Code} {kp:Option fJ}
  (hF: ∀(E:Ex->St->Option R) (G:Exit->Act->World->Prop) (c:Cx) (st:St) (a:Act),F st E=a6 r->ji W0 b0 rd c st a ats->b0<=c.w.heap.size->(∀e c' g z,E e g=a6 r->ji W0 b0 rd c' g z ats->c.Mono c'->G e.xt z c'.w)->code.wpIn (FW rd) n P G a c.w)
  {c:Cx} {st:St} {a:Act} (m:Nat) (h:iter kp F m st K=a6 r) (I:ji W0 b0 rd c st a ats) (hb:b0<=c.w.heap.size) (x: ∀e c' g z,K e g=a6 r->ji W0 b0 rd c' g z ats->c.Mono c'->Q e.xt z c'.w):
  (Code.loop code).wpIn (FW rd) n P Q a c.w:=by
 refine wpIn_loop_ghost (fun m a w=> ∃c' g,iter kp F m g K=a6 r/\ji W0 b0 rd c' g a ats/\c.Mono c'/\c'.w=w) m ⟨c,st,h,I,Cx.Mono.refl c,rfl⟩ ?_;rintro m a w ⟨J,L,D,M,f,rfl⟩;cases m with
 |zero=>simp[iter]at D
 |succ m=>
  simp only[iter]at D;refine hF _ _ J L a D M (aK hb f.size) fun e A B y d i j=> ?_;cases e with
  |normal=>
   simp only at d;simp only[Ex.xt,Exit.then];cases kp with
   |none=>exact⟨m,Nat.lt_succ_self m,A,B,d,i,f.trans j,rfl⟩
   |some k=>
    simp only at d;split at d
    .rename_i o p
     obtain⟨q,s,u,v⟩:=rW i p;exact⟨m,Nat.lt_succ_self m,q,o,d,s,(f.trans j).trans u,v⟩
    .cases d
  |ret=>
   simp only at d;simp only[Ex.xt,Exit.then];cases kp with
   |none=>exact x .ret A B y d i (f.trans j)
   |some k=>
    simp only at d;split at d
    .rename_i o p
     obtain⟨q,s,u,v⟩:=aa7 i p;rw[<-v];exact x .ret q o y d s ((f.trans j).trans u)
    .cases d
  |exit id=>
   simp only at d;simp only[Ex.xt,Exit.then];cases kp with
   |none=>exact x (.exit id) A B y d i (f.trans j)
   |some k=>
    simp only at d;split at d
    .rename_i o p
     obtain⟨q,s,u,v⟩:=rW i p;rw[<-v];exact x (.exit id) q o y d s ((f.trans j).trans u)
    .cases d
  |goto l=>
   simp only at d;simp only[Ex.xt,Exit.then];cases kp with
   |none=>exact x (.goto l) A B y d i (f.trans j)
   |some k=>
    simp only at d;split at d
    .rename_i o p
     obtain⟨q,s,u,v⟩:=rW i p;rw[<-v];exact x (.goto l) q o y d s ((f.trans j).trans u)
    .cases d
theorem ZG {n:Nat} {F:St->(Ex->St->Option R)->Option R} {K:Ex->St->Option R} {Q:Exit->Act->World->Prop} {code:Code} {kp:Option fJ}
  (hF: ∀(z:Ex->St->Option R) (A:Exit->Act->World->Prop) (c:Cx) (st:St) (a:Act),F st z=a6 r->ji W0 b0 rd c st a ats->b0<=c.w.heap.size->(∀e c' x y,z e x=a6 r->ji W0 b0 rd c' x y ats->c.Mono c'->A e.xt y c'.w)->code.wpIn (FW rd) n P A a c.w)
  {c:Cx} {st:St} {a:Act} (m:Nat) (h:iter kp (zH F) m st (xI 999999 K)=a6 r) (G:ji W0 b0 rd c st a ats) (hb:b0<=c.w.heap.size) (q: ∀e c' x y,K e x=a6 r->ji W0 b0 rd c' x y ats->c.Mono c'->Q e.xt y c'.w):
  code.wpIn (FW rd) n P Q a c.w:=by
 cases m with
 |zero=>simp[iter]at h
 |succ m=>
  simp only[iter,zH]at h;refine hF _ _ c st a h G hb fun e B D s d u v=> ?_;cases e with
  |normal=>
   simp only at d;cases kp with
   |none=>
    simp only[xI,beq_self_eq_true,aa]at d
    grind
   |some k=>
    simp only at d;split at d
    .rename_i f g
     obtain⟨i,j,o,p⟩:=rW u g;simp only[xI,beq_self_eq_true,aa]at d;rw[<-p];exact q .normal i f s d j (v.trans o)
    .cases d
  |ret=>
   simp only at d;cases kp with
   |none=>exact q .ret B D s d u v
   |some k=>
    simp only at d;split at d
    .rename_i f g
     obtain⟨i,j,o,p⟩:=aa7 u g;rw[<-p];exact q .ret i f s d j (v.trans o)
    .cases d
  |exit id=>
   simp only at d;rw[cond_eq_ite]at d;split at d
   .cases d
   .rename_i I
    have E:(id==999999)=false:=by
     simp_all
    cases kp with
    |none=>
     simp only[xI,E,ac]at d
     grind
    |some k=>
     simp only at d;split at d
     .rename_i f g
      obtain⟨i,j,o,p⟩:=rW u g;simp only[xI,E,ac]at d;rw[<-p];exact q (.exit id) i f s d j (v.trans o)
     .cases d
  |goto l=>
   simp only at d;cases kp with
   |none=>exact q (.goto l) B D s d u v
   |some k=>
    simp only at d;split at d
    .rename_i f g
     obtain⟨i,j,o,p⟩:=rW u g;rw[<-p];exact q (.goto l) i f s d j (v.trans o)
    .cases d
theorem DI {n:Nat} {f:FuncId} {args:Array Value} {w:World} {Rr:Ending->World->Prop} (h:Calls P f args w Rr):CallsIn (FW rd) n P f args w Rr:=(callsIn_wide (n:=n)).2 h
theorem ahT {n:Nat} {f:FuncId} {cl:Bool} {ex:oQ R} (ah:xU P W0 ex) {fv:Operand} {p:Array Tmp} {asg q:Code} {K:Ex->St->Option R} {Q:Exit->Act->World->Prop} {c:Cx} {st:St} {a:Act} {g:FuncId} {N:List bZ}
  (O:dh c (.fn g N) (a.eval fv))
  {X:Option Nat} (ai: ∀k,X=a6 k->ut f k=a6 (asg,q))
  (h:alloc cl (a6 (700000+p.toList.headD 0)) (.lp f st.fr p.toList asg q X 0 a7) st (fun id st=>
    ex (.call g (.yld id::N)) {st with stk:=[.yld id]::st.stk} fun _ st=>match st.stk with
     |[.yld id]::stk=>match dW st.hp id with
      |some (.lp _ _ _ _ _ _ 0 a7)=>K .normal {st with stk:=stk,hp:=jB st.hp id .dead}
      |some (.lp _ _ _ _ _ _ 1 (a6 e))=>K e {st with stk:=stk,hp:=jB st.hp id .dead}
      |_=>a7
     |_=>a7)=a6 r)
  (j:ji W0 b0 rd c st a ats) (hb:b0<=c.w.heap.size) (hQ: ∀e c' ad a',K e ad=a6 r->ji W0 b0 rd c' ad a' ats->c.Mono c'->Q e.xt a' c'.w):
  (Code.rangeFunc fv p asg q).wpIn (FW rd) n P Q a c.w:=by
 obtain⟨id,n',h3,h4,h5,h⟩:=jD h;simp only[dh]at O;obtain⟨S,O,aj⟩:=O;refine wpIn_rangeFunc fun fn _=> ?_;obtain⟨s,d,aI,G,ak,al,an⟩: ∃(s:List Deferred) (d:Cx),d.hp=c.hp/\ji W0 b0 rd d st {a with defers:=s++a.defers} ats/\c.Mono d/\c.Le0 d/\
   ∃L:Loop,L.tmps=a.tmps/\L.params=p/\L.assign=asg/\L.body=q/\L.state=.ready/\L.pending=a7/\(Instr.enterLoop fn a.tmps p asg q rd).run P c.w=.ok (d.w.heap.size,s) (d.w.alloc (.loop L)):=by
  cases rd with
  |none=>
   obtain⟨U,ao⟩:=ax1 j.ok;refine⟨[mkD c.w.heap.size],{c with w:=c.w.alloc (.deferred (a6 [])),mks:=c.w.heap.size::c.mks},rfl,⟨j.hp,j.nxt,ao,bQ.le U _ _ j.fr,Gj.le U _ _ j.stk, ?_,fun l I=>by cases I⟩,U.mono,U.le0,{state:=.ready,pending:=a7,fn,tmps:=a.tmps,params:=p,assign:=asg,body:=q,defers:=c.w.heap.size},rfl,rfl,rfl,rfl,rfl,rfl, ?_⟩
   .obtain⟨Y,Z,e2,e3⟩:=j.df;refine⟨c.w.heap.size::Y,by simp[Z],List.nodup_cons.2 ⟨fun hm=> ?_,e2⟩,fun x hx=> ?_⟩
    .have:=j.ok.mark_lt (e3 _ hm).1;omega
    grind
   rfl
  |some l0=>
   obtain⟨L0,au⟩:=j.rd l0 rfl;exact⟨[],c,rfl,j,Cx.Mono.refl c,(Cx.Le.refl c).le0,{state:=.ready,pending:=a7,fn,tmps:=a.tmps,params:=p,assign:=asg,body:=q,defers:=L0.defers},rfl,rfl,rfl,rfl,rfl,rfl,run_enterLoop_inner au fn a.tmps p asg q⟩
 obtain⟨L,q1,q2,q3,q4,q5,q6,q7⟩:=an;subst q2 q3 q4;obtain⟨V,hd,aJ,hy,_⟩:=aIw G.ok (st:=st) G.hp G.nxt h3 h4 h5 (f:=f) (fr:=st.fr) (L:=L) (by rw[q1];exact G.fr) q5 q6 ai;have v:=G.did hd;have ae:c.Mono V:=ak.trans hd.le.mono;have av:ji W0 b0 rd V {st with stk:=[.yld id]::st.stk,hp:=(id,.lp f st.fr L.params.toList L.assign L.body X 0 a7)::st.hp,nxt:=n'} {a with defers:=s++a.defers} (#[.func (.yield d.w.heap.size) #[] #[]]::ats):=
  ⟨v.hp,v.nxt,v.ok,v.fr,⟨by simpa [bQ] using hy,v.stk⟩,v.df,v.rd⟩
 have aO:bQ V N S.toList:=bQ.le hd.le _ _ (bQ.le0 al _ _ aj);have aP:=ah g (.yld id::N) _ _ r h b0 rd V {a with defers:=s++a.defers} (#[.func (.yield d.w.heap.size) #[] #[]]::ats) (#[.func (.yield d.w.heap.size) #[] #[]]++S) av (by simp_all [bQ])
  (rangePost (FW rd) n P d.w.heap.size Q {a with defers:=s++a.defers}) (by
   intro c3 z u aw B i _ ag;have J:=i.stk;split at B
   .rename_i D aQ ax
    rw[ax]at J;obtain⟨W,J⟩:=J;simp only[bQ,and_true]at W;have E: ∀{o},dW aw.hp D=a6 o->dW c3.hp D=a6 o:=fun {o} ho=>by rw[i.hp];exact ho
    simp only[dh]at W;split at B
    .rename_i f3 ay az aA aB aF y
     obtain⟨_,hB,L3,M,aG,Z,e2,e3,e4,e5⟩:=i.ok.obj D _ (E y);have A:=W.2.2 _ _ _ _ _ _ _ _ (E y);have A:d.w.heap.size=(c3.mu D).blk:=by simpa using A
     obtain⟨c4,p1,p2,m,p4,p5,p6⟩:=MJ i.ok (E y) M {L3 with state:=.exhausted,pending:=a7} (o':=.dead) (.inl rfl);refine⟨_,_,(by rw[A];exact run_endLoop M (by rw[e4];decide)), ?_⟩;rw[e5];simp only;rw[<-p5];refine hQ .normal c4 _ _ B ⟨by rw[p1,i.hp],by rw[p2,i.nxt],p4,bQ.le m _ _ i.fr,Gj.le m _ _ J, ?_, ?_⟩ ((ae.trans ag).trans m.mono)
     .obtain⟨Y,w1,w2,w3⟩:=i.df
      grind
     .intro l I;obtain⟨Ll,ab⟩:=i.rd l I;exact m.lp l Ll ab
    .rename_i f3 ay az aA aB aF e0 y
     obtain⟨_,hB,L3,M,aG,Z,e2,e3,e4,e5,e6⟩:=i.ok.obj D _ (E y);have A:=W.2.2 _ _ _ _ _ _ _ _ (E y);have A:d.w.heap.size=(c3.mu D).blk:=by simpa using A
     refine⟨_,_,(by rw[A];exact run_endLoop M (by rw[e4];decide)), ?_⟩;rw[e5];cases he0:e0.code with
     |none=>exact absurd he0 e6
     |some cd=>
      obtain⟨c4,p1,p2,m,p4,p5,p6⟩:=MJ i.ok (E y) M {L3 with state:=.exhausted,pending:=a6 cd} (o':=.dead) (.inl rfl);simp only;refine ath he0 ?_;rw[<-p5];refine hQ e0 c4 _ _ B ⟨by rw[p1,i.hp],by rw[p2,i.nxt],p4,bQ.le m _ _ i.fr,Gj.le m _ _ J, ?_, ?_⟩ ((ae.trans ag).trans m.mono)
      .obtain⟨Y,w1,w2,w3⟩:=i.df
       grind
      .intro l I;obtain⟨Ll,ab⟩:=i.rd l I;exact m.lp l Ll ab
    .cases B
   .cases B)
 refine⟨d.w.heap.size,s,d.w.alloc (.loop L),{target:=.fn (.func g) S,args:= #[.func (.yield d.w.heap.size) #[] #[]]},d.w.alloc (.loop L),g,#[.func (.yield d.w.heap.size) #[] #[]]++S,d.w.alloc (.loop L),q7, ?_,fun _ _=>trivial, ?_,wI rd, ?_⟩
 .have aH:a.eval (.const (.func (.yield d.w.heap.size) #[] #[]))=.func (.yield d.w.heap.size) #[] #[]:=rfl;simp only[resolve,O];simp[go_sem,aH]
 .simp_all [invoke]
 simp_all [DI]
def abd {R:Type} (E:Env) (e:oQ R) (g:abe) (f:FuncId) (c:Code) (L:dD):Prop:=
 ∀(r:R) (st:St) (v:L.V) (K:Ex->St->Option R),(∀i j d,PE i j st=a6 d->WfH d.hp)->L.get st=a6 v->
  (bJ (L.spec v) fun o=>dR o (fun a=>K (L.exA v) (L.stA st v a)) fun b=>K (L.exB v) (L.stB st v b))=a6 r->
  ∃m d,(match E.kp f (dK c)with|none=>d=st|some k=>PE k.slots k.owns st=a6 d)/\iter (E.kp f (dK c)) (run E e g f c) m d K=a6 r
def aiE {R:Type} (E:Env) (e:oQ R) (g:abe) (f:FuncId) (c:Code) (L:dD):Prop:=
 ∀(r:R) (st:St) (v:L.V) (K:Ex->St->Option R),(∀i j d,PE i j st=a6 d->WfH d.hp)->L.get st=a6 v->
  (bJ (L.spec v) fun o=>dR o (fun a=>K (L.exA v) (L.stA st v a)) fun b=>K (L.exB v) (L.stB st v b))=a6 r->
  ∃m d,(match E.kp f (800000+dK c)with|none=>d=st|some k=>PE k.slots k.owns st=a6 d)/\iter (E.kp f (800000+dK c)) (zH (run E e g f c)) m d K=a6 r
def jQ {R:Type} (E:Env) (d:oQ R) (e:abe) (f:FuncId):Code->Prop
 |.seq a b=>(jQ E d e f a/\ ∀L,E.lp f (800000+dK b)=a6 L->L.dep.ble E.dp=true->aiE E d e f b L)/\jQ E d e f b
 |.cond _ a b=>jQ E d e f a/\jQ E d e f b
 |.block _ c=>jQ E d e f c
 |.scope c=>jQ E d e f c
 |.loop c=>jQ E d e f c/\ ∀L,E.lp f (dK c)=a6 L->L.dep.ble E.dp=true->abd E d e f c L
 |.rangeFunc _ _ asg g=>jQ E d e f asg/\jQ E d e f g/\(E.rf f (dK g)=true->ut f (dK g)=a6 (asg,g))
 |_=>True
theorem jc {E:Env} {d:oQ R} {e:abe} {f:FuncId} (h: ∀id,E.lp f id=a7) (h2: ∀id,E.rf f id=false): ∀c:Code,jQ E d e f c
 |.seq a b=>⟨⟨jc h h2 a,fun L g=>by simp_all⟩,jc h h2 b⟩
 |.cond _ a b=>⟨jc h h2 a,jc h h2 b⟩
 |.block _ c=>jc (E:=E) h h2 c
 |.scope c=>jc (E:=E) h h2 c
 |.loop c=>⟨jc h h2 c,fun L g=>by simp_all⟩
 |.rangeFunc _ _ a b=>⟨jc h h2 a,jc h h2 b,fun i=>by simp_all⟩
 |.skip|.label _|.region _ _ _|.exit _|.goto _|.ret|.refuse _=>trivial
def ZK (E:Env) (n:Nat):abe:=⟨fun j st=>lX E n (R:=bZ) j st fun v _=>a6 v,lX E n,lX E n⟩
def dX (E:Env) (f:FuncId) (c:Code) (L:dD):Prop:=
 ∀(R:Type) (m:Nat),abd (R:=R) (E.at (m+L.dep)) (lX E (m+L.dep)) (ZK E (m+L.dep)) f c L
def tH (E:Env) (f:FuncId) (c:Code) (L:dD):Prop:=
 ∀(R:Type) (m:Nat),aiE (R:=R) (E.at (m+L.dep)) (lX E (m+L.dep)) (ZK E (m+L.dep)) f c L
def dO (E:Env) (f:FuncId) (c:Code):Prop:= ∀(R:Type) (m:Nat),jQ (R:=R) (E.at m) (lX E m) (ZK E m) f c
theorem jW {E:Env} {f:FuncId} (h: ∀id,E.lp f id=a7) (h2: ∀id,E.rf f id=false) (c:Code):dO E f c:=fun R m=>jc (E:=E.at m) h h2 c
theorem QN (hT:TOk P T) (hm:P.follows .mixedOrders=true) {n:Nat} {E:Env} (ay:E.T=T) {f:FuncId} {Z:oQ R} {U:abe} (ai:nX P W0 n (zD E Z)) (hq:o9 (R:=R) P (VE E U.q)) (az:xU P W0 Z) (hS:nX P W0 n (zD E U.s)) (hU:nX P W0 n (zD E U.u)) (aA: ∀R:Type,o9 (R:=R) P (J8 E.sg E.cl)):
  ∀(code:Code),jQ E Z U f code-> ∀(K:Ex->St->Option R) (Q:Exit->Act->World->Prop) (c:Cx) (st:St) (a:Act),run E Z U f code st K=a6 r->ji W0 b0 rd c st a ats->b0<=c.w.heap.size->
   (∀e c' p z,K e p=a6 r->ji W0 b0 rd c' p z ats->c.Mono c'->Q e.xt z c'.w)->code.wpIn (FW rd) n P Q a c.w:=by
 subst ay;intro code
 induction code with
 |skip=>intro _ K Q c st a h d B o;exact wpIn_skip (o .normal c st a h d (Cx.Mono.refl c))
 |label l=>intro _ K Q c st a h d B o;exact wpIn_label (o .normal c st a h d (Cx.Mono.refl c))
 |region id ops aB=>
  intro _ K Q c st a h d B o;simp only[run]at h;have aj: ∃M,JA (E.kp f (600000+id)) st={st with fr:=M}/\bQ c M a.tmps.toList:=by
   cases E.kp f (600000+id)with
   |none=>exact⟨st.fr,rfl,d.fr⟩
   |some k=>exact⟨_,rfl,D6 _ _ _ d.fr⟩
  obtain⟨M,e1,e2⟩:=aj;rw[e1]at h;replace d:ji W0 b0 rd c {st with fr:=M} a ats:=⟨d.hp,d.nxt,d.ok,e2,d.stk,d.df,d.rd⟩;generalize ({st with fr:=M}:St)=st at h d;cases aB with
  |true=>
   simp only[aa]at h;rw[cond_eq_ite]at h;split at h
   .rename_i ae
    simp only[af]at ae;exact Ry hT hm hq ae.1 h d fun c' p z j=>o .normal c' p z j
   .split at h
    .rename_i l aF
     exact Zd hT hm ai aF h d fun c' p z j=>o .normal c' p z j
    .rw[cond_eq_ite]at h;split at h
     .rename_i ae
      simp only[af]at ae;exact Ry hT hm hq ae.1 h d fun c' p z j=>o .normal c' p z j
     replace h:=dL h;exact ajT hT hm h.1 aA hS hU abv abv ai abv h.2 d fun c' p z j=>o .normal c' p z j
  |false=>
   simp only[ac]at h;exact wpIn_region_list (Qx hT ai ops ops.toList c st a h d fun c' p z j=>o .normal c' p z j)
 |seq x y ihx V=>
  intro I K Q c st a h d B o;replace ihx:=ihx I.1.1;replace V:=V I.2;simp only[run]at h;refine wpIn_seq (ihx _ _ c st a h d B fun e c' p z j A D=> ?_);cases e with
  |normal=>
   have ah:=aK B D.size;have aw: ∀e W ab ad,K e ab=a6 r->ji W0 b0 rd W ab ad ats->c'.Mono W->Q e.xt ad W.w:=fun e W ab ad ak al an=>o e W ab ad ak al (D.trans an);have ao: ∀(N:Option fJ) (m:Nat) (G:St),(match N with|none=>G=p|some k=>PE k.slots k.owns p=a6 G)->iter N (zH (run E Z U f y)) m G (xI 999999 K)=a6 r->y.wpIn (FW rd) n P Q z c'.w:=by
    intro N m G O h2;cases N with
    |none=>grind [ZG]
    |some k=>
     obtain⟨c1,X,ag,au⟩:=rW A O;rw[<-au];exact ZG V m h2 X (aK ah ag.size) fun e W ab ad ak al an=>aw e W ab ad ak al (ag.trans an)
   simp only[aL6,cutAt]at j;split at j
   .rename_i L hL
    replace j:=dL j;obtain⟨av,j⟩:=j;split at j
    .rename_i v S
     obtain⟨m,G,O,h2⟩:=I.1.2 L hL av r p v (xI 999999 K) (fun aG aH G ht=>let⟨c1,X,_,_⟩:=rW A ht;X.wf) S j;exact ao _ m G O h2
    .cases j
   .split at j
    .exact V _ _ c' p z j A ah aw
    .rename_i k hk
     split at j
     .rename_i G O
      exact ao (a6 k) bT G O j
     .cases j
  |exit id=>exact o (.exit id) c' p z j A D
  |goto l=>exact o (.goto l) c' p z j A D
  |ret=>exact o .ret c' p z j A D
 |cond cnd x y ihx V=>
  intro I K Q c st a h d B o;replace ihx:=ihx I.1;replace V:=V I.2;simp only[run]at h;have S:=dY d.fr cnd;split at h
  .rename_i b ah
   rw[ah]at S;simp only[dh]at S;have S:=S.bool_inv
   grind [wpIn_cond_true,wpIn_cond_false]
  .cases h
 |block id x J=>
  intro I K Q c st a h d B o;replace J:=J I;simp only[run]at h;refine wpIn_block (J _ _ c st a h d B fun e c' p z j A D=> ?_);cases e with
  |normal=>exact o .normal c' p z j A D
  |exit i=>
   simp only[xI]at j;simp only[Ex.xt,Exit.inBlock];rw[cond_eq_ite]at j;split at j
   .rename_i Y
    have Y:i=id:=by simpa using Y
    rw[am Y];exact o .normal c' p z j A D
   .rename_i Y
    have Y:i≠id:=by simpa using Y
    rw[aq Y];exact o (.exit i) c' p z j A D
  |goto l=>exact o (.goto l) c' p z j A D
  |ret=>exact o .ret c' p z j A D
 |loop x J=>
  intro I K Q c st a h d B o;replace J:=J I.1;have ao: ∀(N:Option fJ) (m:Nat) (G:St),(match N with|none=>G=st|some k=>PE k.slots k.owns st=a6 G)->iter N (run E Z U f x) m G K=a6 r->(Code.loop x).wpIn (FW rd) n P Q a c.w:=by
   intro N m G O h2;cases N with
   |none=>grind [WA]
   |some k=>
    obtain⟨c1,X,ag,au⟩:=rW d O;rw[<-au];exact WA J m h2 X (aK B ag.size) fun e c' p z j A D=>o e c' p z j A (ag.trans D)
  simp only[run]at h;split at h
  .rename_i L hL
   replace h:=dL h;obtain⟨av,h⟩:=h;split at h
   .rename_i v S
    obtain⟨m,G,O,h2⟩:=I.2 L hL av r st v K (fun aG aH G ht=>let⟨c1,X,_,_⟩:=rW d ht;X.wf) S h
    grind
   .cases h
  grind
 |exit id=>intro _ K Q c st a h d B o;exact wpIn_exit (o (.exit id) c st a h d (Cx.Mono.refl c))
 |goto l=>intro _ K Q c st a h d B o;exact wpIn_goto (o (.goto l) c st a h d (Cx.Mono.refl c))
 |ret=>intro _ K Q c st a h d B o;exact wpIn_ret (o .ret c st a h d (Cx.Mono.refl c))
 |scope x J=>
  intro I K Q c st a h d B o;replace J:=J I;simp only[run]at h;refine alQ (J _ _ c st a h d B fun e c' p z j A D=> ?_);cases e with
  |normal=>exact⟨(fun l e=>by cases e),o .normal c' p z j A D⟩
  |exit i=>exact⟨(fun l e=>by cases e),o (.exit i) c' p z j A D⟩
  |goto l=>simp[axc]at j
  |ret=>exact⟨(fun l e=>by cases e),o .ret c' p z j A D⟩
 |rangeFunc fv ps asg bd _ _=>
  intro I K Q c st a h d B o;simp only[run]at h;split at h
  .rename_i g aO aI
   have aJ: ∀k,(bif E.rf f (dK bd)then a6 (dK bd)else a7)=a6 k->ut f k=a6 (asg,bd):=fun k hk=>by
    cases hrf:E.rf f (dK bd)with
    |false=>simp_all
    |true=>rw[hrf]at hk;cases hk;exact I.2.2 hrf
   have aj: ∃M,JA (E.kp f (500000+dK bd)) st={st with fr:=M}/\bQ c M a.tmps.toList:=by
    cases E.kp f (500000+dK bd)with
    |none=>exact⟨st.fr,rfl,d.fr⟩
    |some k=>exact⟨_,rfl,D6 _ _ _ d.fr⟩
   obtain⟨M,e1,e2⟩:=aj;rw[e1]at h;have ax:=dY d.fr fv;rw[aI]at ax;exact ahT (st:={st with fr:=M}) az ax aJ h ⟨d.hp,d.nxt,d.ok,e2,d.stk,d.df,d.rd⟩ B o
  .cases h
 |refuse s=>simp_all [run]
end
end
section
open Option renaming some → a6, none → a7
open Nat renaming le_refl → ae
open Go.RowKit
section
variable {P:Program} {T:TT} {W0:World} {b0:Nat} {rd:Option Nat} {R:Type} {r:R} {c:Cx} {ats:List (Array Value)}
theorem aeY (i:c.Ok W0) {x:bZ} {e:Ty} {j:List e.den} {u:Value} (h:x.as c.hp (.list e)=a6 j) (hx:dh c x u) {a:Option Addr} {m cp:Nat} (o:u=.slice a m cp):m<=cp:=by
 subst o;cases x with
 |val f z=>
  simp only[bZ.as]at h;have e:=jb h;subst e
  grind [dh,qg]
 |nils=>
  simp_all [dh]
 |lst f z b=>
  grind [dh,qg]
 |emp=>
  simp_all [dh]
 |slc id ver q=>
  simp only[bZ.as,EL]at h;split at h
  .rename_i f v y g
   replace h:=dL h;obtain⟨d,h⟩:=h;have d:v=ver:=by simpa using d
   subst d;simp only[dh]at hx;have A:=(hx.2.2 _ _ _ g).2 rfl;obtain⟨_,B,D,s,E,G⟩:=i.obj id _ g;obtain⟨I,J,d,K,L⟩:=uu s;cases q with
   |none=>
    simp_all [jy]
   |some p=>
    grind [jy]
  .cases h
 |agg l=>simp[bZ.as,Ty.isAgg]at h
 |_=>simp[bZ.as]at h
def atq (c cb:Cx):Prop:= ∀b,b<c.w.heap.size->cb.free b/\cb.w.heap[b]? =c.w.heap[b]?
theorem Jc (f:c.Ok W0) {cb:Cx} (d:atq c cb) {x:bZ} {e:Ty} {g:List e.den} {u:Value} (h:x.as c.hp (.list e)=a6 g) (hx:dh c x u):VD cb (.list e) g u:=by
 obtain⟨a,cp,l,i,m,o⟩:=aeZ f h hx;have p:=aeY f h hx i;refine(VD.leaf rfl).2 ⟨a,cp,l,by rw[i],p,gK.mono (fV.mono (fun b q=>d b q.1) e) _ _ m,o.imp id fun⟨b,s,v,j,y⟩=>⟨b,s,v,(d b j).1,y.of_block (d b j).2⟩⟩
theorem apX (j:c.Ok W0) {cb:Cx} (f:atq c cb) {v i:bZ} {u:Value} (h:Zr c.hp v=a6 i) (d:dh c v u):dh cb i u:=by
 cases v with
 |val t x=>
  simp only[Zr,Option.some.injEq]at h;subst h;simp only[dh]at d ⊢;exact⟨fun e=>let⟨cs,l,m⟩:=d.1 e;⟨cs,l,fV.mono (fun b g=>f b g.1) t x _ m⟩,fun e=>fV.mono (fun b g=>f b g.1) t x _ (d.2 e)⟩
 |nils=>
  grind [Zr,dh]
 |slc id ver o=>
  simp only[Zr]at h;split at h
  .rename_i t w p q
   rw[cond_eq_ite]at h;split at h
   .rename_i s
    cases h;simp only[dh];refine Jc j f (x:=.slc id ver o) ?_ d;simp_all [bZ.as,EL,ik]
   .cases h
  .cases h
 |_=>simp[Zr]at h
theorem Vj (f:c.Ok W0) {cb:Cx} (g:atq c cb): ∀(l e:List bZ) (us:List Value),Vh c.hp l=a6 e->bQ c l us->bQ cb e us
 |[],e,[],h,_=>by simp_all [Vh,bQ]
 |v::l,e,u::us,h,d=>by
  simp only[Vh]at h;split at h
  .rename_i o i
   split at h
   .rename_i j m
    cases h;simp only[bQ]at d ⊢;exact⟨apX f g i d.1,Vj f g l j us m d.2⟩
   .cases h
  .cases h
 |[],_,_::_,_,d=>by simp[bQ]at d
 |_::_,_,[],_,d=>by simp[bQ]at d
def Cx.base (c:Cx) (w:World) (d:Nat->Prop):Cx:=⟨c.mu,[],c.nxt,w,[],d⟩
theorem aBf {w:World} {d:Nat->Prop} (e:Phi w) (hb: ∀b,d b->b<w.heap.size):(c.base w d).Ok w:=
 ⟨Below.refl _ _,fun id o h=>by simp[Cx.base,dW]at h,fun i j o p b h=>by simp[Cx.base,dW]at h,fun r f=>by simp[Cx.base]at f,fun b h=>⟨hb b h,(by rintro ⟨i,o,h,_⟩;simp[Cx.base,dW]at h),by simp[Cx.base]⟩,e⟩
theorem ap2 {w:World} {d:Nat->Prop} {b:Nat}:(c.base w d).free b↔b<w.heap.size/\ ¬d b:=by
 constructor
 .intro h;exact⟨h.1,h.2.2.2⟩
 .rintro ⟨e,f⟩;exact⟨e,(by rintro ⟨i,o,h,_⟩;simp[Cx.base,dW]at h),by simp[Cx.base],f⟩
theorem atB {w:World} {d:Nat->Prop} (e:Phi w) (hb: ∀b,d b->b<w.heap.size) {nx:Nat} (f:nx=c.nxt):ji w 0 a7 (c.base w d) ⟨[],[],[],nx⟩ ⟨#[],[]⟩ []:=
 ⟨rfl,f.symm,aBf e hb,by simp[bQ],trivial,⟨[],rfl,List.nodup_nil,fun r g=>by simp at g⟩,fun l i=>by cases i⟩
theorem ORel.le0 {B:Nat} {c c':Cx} {id:Nat} {o:dV} (h:c.ORel B id o) (hl:c.Le0 c') (d:c'.mu id=c.mu id) (hb: ∀b,o.blk (c.mu id)=a6 b->c'.w.heap[b]? =c.w.heap[b]?):c'.ORel B id o:=by
 cases o with
 |box e cs=>
  obtain⟨g,q,i,j,l⟩:=h;refine⟨by rw[d];exact g,q,by rw[d,hb _ rfl];exact i,bQ.le0 hl _ _ j,l⟩
 |arr t ver x=>
  obtain⟨m,e,s,g,i,j⟩:=h;refine⟨m,e,s, ?_,gK.mono (fV.mono hl.free t) _ _ i,j⟩;rw[d];exact Ef g fun b u=>hb b u
 |lp f fr ps asg bd ky n p=>
  obtain⟨m,g,L,i,j,l⟩:=h;exact⟨m,by rw[d];exact g,L,by rw[d,hb _ rfl];exact i,bQ.le0 hl _ _ j,l⟩
 |dead=>trivial
 |mp kk vk y=>
  obtain⟨g,v,cl,i,j⟩:=h;exact⟨by rw[d];exact g,v,cl,by rw[d,hb _ rfl];exact i,j⟩
theorem Cx.Le0.trans {a b c:Cx} (h:a.Le0 b) (k:b.Le0 c):a.Le0 c:=
 ⟨fun x e=>⟨(k.out x (h.out x e).1).1,(k.out x (h.out x e).1).2.trans (h.out x e).2⟩,fun i d=>k.ref i (h.ref i d),fun i o d f=>by
  obtain⟨g,j,l⟩:=k.obj i o (h.ref i d) f;obtain⟨m,p,q⟩:=h.obj i g d j
  grind [dV.like_trans],k.bar.trans h.bar⟩
theorem Yz {n:Nat} {fn:Func} {tmps:Array Value} {Rr:Ending->World->Prop}: ∀(l:List Nat) (c:Cx),c.Ok W0->l.Nodup->(∀r∈l,r∈c.mks)->
  ∃c',c'.hp=c.hp/\c'.nxt=c.nxt/\c.Le0 c'/\c'.Ok W0/\(∀r∈c.mks,r∉l->r∈c'.mks)/\(∀(b:Nat) (L:Loop),c.w.heap[b]? =a6 (Obj.loop L)-> ∃A:Loop,c'.w.heap[b]? =a6 (Obj.loop A))/\c.w.heap.size<=c'.w.heap.size/\c'.bar=c.bar/\
   (LeavesIn (FW a7) n P fn tmps Rr [] .returning c'.w->LeavesInM (FW a7) n P fn tmps Rr (l.map mkD) .returning c.w)
 |[],c,f,_,_=>⟨c,rfl,rfl,(Cx.Le.refl c).le0,f,fun r m _=>m,fun b L x=>⟨L,x⟩,ae _,rfl,fun h=>h⟩
 |d::l,c,f,B,y=>by
  obtain⟨V,D⟩:=List.nodup_cons.1 B;have hd:=y d (by simp);have u:=f.mks d hd;have W:=f.mark_lt hd
  let i:Cx:={c with w:=c.w.putObj d (.deferred a7),mks:=c.mks.filter fun r=>r !=d}
  have p: ∀b,b≠d->i.w.heap[b]? =c.w.heap[b]? :=fun b g=>World.putObj_heap_other g;have v:c.Le0 i:=⟨fun b g=>⟨⟨by simpa [i] using g.1,g.2.1,(fun E=>g.2.2 (List.mem_filter.1 E).1)⟩,p b fun e=>g.2.2 (e▸hd)⟩,fun _ h=>h,fun id o _ q=>⟨o,q,o.like_refl _⟩,rfl⟩;have G:i.Ok W0:=by
   refine⟨⟨f.bel.os,f.bel.tape,f.bel.output,by simpa [i] using f.bel.size,fun j I=>(p j (by have:=u.1;omega)).trans (f.bel.block j I)⟩,fun id o q=>ORel.le0 (f.obj id o q) v rfl fun b g=>p b fun e=> ?_,f.inj,fun r m=> ?_,fun b g=>(v.out b (f.bar b g)).1,f.phi⟩
   .subst e;exact(f.obj id o q).no_mark g u.2
   .obtain⟨z,s⟩:=List.mem_filter.1 m;have s:r≠d:=by simpa using s
    exact⟨(f.mks r z).1,(p r s).trans (f.mks r z).2⟩
  obtain⟨J,K,M,N,O,X,Y,Z,S,U⟩:=Yz (n:=n) (fn:=fn) (tmps:=tmps) (Rr:=Rr) l i G D fun r m=>List.mem_filter.2 ⟨y r (by simp[m]),by
   grind⟩
  refine⟨J,K,M,v.trans N,O,fun r m s=> ?_,fun b L x=> ?_, ?_,S,fun h=> ?_⟩
  .grind
  .grind
  .have:c.w.heap.size=i.w.heap.size:=by simp[i]
   omega
  .exact⟨by simp,.inl ⟨d,_,rfl,run_takeDeferred u.2,U h⟩⟩
theorem axn {t:TypeId} {v u:Value} {w w':World} (h:(Instr.loadAt t v).run P w=.ok u w'):(do loadVar t (<-asAddr v):Sem Value).run P w=.ok u w':=by
 unfold Instr.loadAt at h;cases v<;>try (simp[Instr.sureAddr,stuck,Sem.run_bind,Result.andThen]at h;done)
 rename_i p
 cases p<;>first|exact h|simp_all [Instr.sureAddr]
def QJ (tmps:Array Value):ResultVar->Sem Value
 |.tmp t=>pure (tmps.getD t undef)
 |.cell a t=>do loadVar t (<-asAddr (tmps.getD a undef))
theorem Dn (hT:TOk P T) (e:c.Ok W0) {st:St} {tmps:Array Value} (f:c.hp=st.hp) (d:bQ c st.fr tmps.toList): ∀(l:List ResultVar) (K:List bZ->Option R),ve T st l K=a6 r->
  ∃vs us,K vs=a6 r/\bQ c vs us/\(l.mapM (QJ tmps)).run P c.w=.ok us c.w
 |[],K,h=>⟨[],[],h,by simp[bQ],rfl⟩
 |.tmp t::l,K,h=>by
  simp only[ve]at h;obtain⟨vs,us,g,i,j⟩:=Dn hT e f d l _ h;refine⟨_,tmps.getD t undef::us,g,by simp only[bQ];exact⟨d.getD t,i⟩, ?_⟩;simp_all [QJ]
 |.cell a t::l,K,h=>by
  simp only[ve]at h;rw[<-f]at h;obtain⟨z,u,g,i,j⟩:=ayv hT e h (d.getD a);obtain⟨vs,us,m,o,p⟩:=Dn hT e f d l _ g;refine⟨_,u::us,m,by simp_all [bQ], ?_⟩;have q:=axn (j c.w (Below.refl _ _))
  grind [Sem.run_bind,QJ,Result.andThen_ok,Sem.run_pure]
def TE:List Value->Value
 |[v]=>v
 |vs=>.tuple vs.toArray
theorem Ej {vs:List bZ} {us:List Value} (h:bQ c vs us):dh c (QI vs) (TE us):=by
 match vs,us,h with
 |[],[],h=>simp only[QI,TE,dh];simp_all
 |[v],[u],h=>simpa [QI,TE,bQ] using h
 |v::d::vs,u::e::us,h=>simp only[QI,TE,dh];simp_all
 |[],_::_,h=>simp[bQ]at h
 |_::_,[],h=>simp[bQ]at h
 |[_],_::_::_,h=>simp[bQ]at h
 |_::_::_,[_],h=>simp[bQ]at h
theorem ahZ {fn:Func} {tmps:Array Value} {us:List Value} {w:World} (h:(fn.results.toList.mapM (QJ tmps)).run P w=.ok us w):(results fn tmps).run P w=.ok (TE us) w:=by
 have e:results fn tmps=(do let d<-fn.results.mapM (QJ tmps);pure (if h:d.size=1 then d[0]else .tuple d)):=rfl;have f:(fn.results.mapM (QJ tmps)).run P w=.ok us.toArray w:=by
  simp_all [Array.mapM_eq_mapM_toList]
 rw[e,Sem.run_bind,f]
 match us with
 |[]=>rfl
 |[v]=>rfl
 |v::g::d=>rfl
end
end
section
open Option renaming some → a6, none → a7
open Bool renaming and_eq_true → af
open Nat renaming eq_of_beq_eq_true → ak, lt_of_lt_of_le → bu
open Go.RowKit
def MX (P:Program):Prop:= ∀(f:FuncId) (fn:Func) (c:Code),P.funcs[f]? =a6 fn->fn.body=a6 c->(fn.name== "runtime.NumGoroutine")=false
def Gz {R:Type} (P:Program) (W0:World) (q:oQ R):Prop:=
 ∀(id:Nat) (i:List bZ) (st:St) (K:bZ->St->Option R) (r:R),q (.yield id i) st K=a6 r->
  ∀(b0:Nat) (rd:Option Nat) (c:Cx) (a:Act) (ats:List (Array Value)) (j:Array Value),ji W0 b0 rd c st a ats->bQ c i j.toList->
   (∃f s v asg d x k p,dW st.hp id=a6 (.lp f s v asg d x k p))/\
   ∀l:Ending->World->Prop,(∀e z u m,K z m=a6 r->ji W0 b0 rd e m a ats->dh e z u->c.Mono e->l (.returned u) e.w)->
    ∀n,∃g o asg d,(Instr.yield (c.mu id).blk j).run P c.w=.ok (.round (c.mu id).blk g o asg d) c.w/\RoundIn (FW rd) n P (c.mu id).blk g o asg d c.w l
def IB {R:Type} (g:FuncId) (s:Sum) (cl:Bool):gX R:=fun d e f st K=>match d with
 |.fn g' i=>if g'=g then s.call cl (e++i) f st K else a7
 |_=>a7
def EE (P:Program) (g:FuncId):Prop:= ∀(w:World) (b:Nat),w.shape? b=a6 (Zw,2)->w.frozen? ⟨b,0,a7⟩=false->
 (callFunc g #[.pointer (a6 ⟨b,0,a7⟩)]).run P w=.ok (.enter g #[.pointer (a6 ⟨b,0,a7⟩)]) w/\
 (w.cell? ⟨b,0,a7⟩=a6 (.pointer (a6 ⟨b,0,a7⟩))->Calls P g #[.pointer (a6 ⟨b,0,a7⟩)] w fun e d=>e=.returned (.tuple #[])/\d=w)/\
 (w.cell? ⟨b,0,a7⟩=a6 (.pointer a7)->Calls P g #[.pointer (a6 ⟨b,0,a7⟩)] w fun e d=>e=.returned (.tuple #[])/\d=w.setCell ⟨b,0,a7⟩ (.pointer (a6 ⟨b,0,a7⟩)))
def Rj {R:Type} (g:FuncId) (s:fZ) (cl:Bool):gX R:=fun d e i st K=>match d with
 |.fn g' f=>if g'=g then s.call cl (e++f) st K else a7
 |_=>a7
structure zA (P:Program) (E:Env):Prop where
 T:TOk P E.T
 x: ∀(R:Type) (W0:World) (n:Nat) (g:FuncId) (s:fZ),E.sb g=a6 s->nX (R:=R) P W0 n (Rj g s E.cl)
 b: ∀g,E.bf g=true->EE P g
 v: ∀(R:Type) (W0:World) (n:Nat) (g:FuncId) (s:Sum),E.sg g=a6 s->nX (R:=R) P W0 n (IB g s E.cl)
 q: ∀(R:Type) (g:FuncId) (s:Sum),E.sg g=a6 s->(s.rs.all fun r=> !r.2&&r.1.rigid)=true->o9 (R:=R) P (IB g s E.cl)
section
variable {P:Program} {T:TT} {W0:World} {b0:Nat} {rd:Option Nat} {R:Type} {r:R} {c:Cx} {ats:List (Array Value)}
theorem EJ (e:MX P) {f:FuncId} {fn:Func} {d:Code} (hf:P.funcs[f]? =a6 fn) (hb:fn.body=a6 d) (args:Array Value) (w:World):(callFunc f args).run P w=.ok (.enter f args) w:=by
 have g:=e f fn d hf hb;simp_all [callFunc]
theorem uO {g:FuncId} {vs args:Array Value} {w:World}:(do let d<-Deferred.ofValue (.func (.func g) #[] vs) args;invoke d.target d.args:Sem Next).run P w=(callFunc g (args++vs)).run P w:=by
 grind [Deferred.ofValue,invoke]
theorem Wy {g:FuncId} {vs args:Array Value} {w:World}:(do let d<-Deferred.ofValue (.func (.func g) vs #[]) args;invoke d.target d.args:Sem Next).run P w=(callFunc g (vs++args)).run P w:=by
 rfl
theorem acf {l:Nat} {args:Array Value} {w:World}:(do let d<-Deferred.ofValue (.func (.yield l) #[] #[]) args;invoke d.target d.args:Sem Next).run P w=(Instr.yield l args).run P w:=by
 grind [Deferred.ofValue,invoke]
theorem bQ.append_arr {l m:List bZ} {xs d:Array Value} (h:bQ c l xs.toList) (k:bQ c m d.toList):bQ c (l++m) (xs++d).toList:=by
 simp_all [bQ.append]
theorem Z5: ∀(h:iw) (i:Nat) (o:dV),dW h i=a6 o->jB h i o=h
 |[],_,_,_=>rfl
 |(k,p)::h,i,o,d=>by
  rw[fD]at d;simp only[jB];by_cases e:k=i
  .simp_all
  .rw[aq e]at d;have f:(k==i)=false:=by simpa using e
   simp[f,Z5 h i o d]
theorem afW {g:FuncId} (hT:TOk P T) (Y:EE P g) {args:List bZ} {st:St} {K:bZ->St->Option R} (h:Vw T args st K=a6 r) {a:Act} (d:ji W0 b0 rd c st a ats) {us:Array Value} (v:bQ c args us.toList)
  (Rr:Ending->World->Prop) (E: ∀c' z u G,K z G=a6 r->ji W0 b0 rd c' G a ats->dh c' z u->c.Mono c'->Rr (.returned u) c'.w):
  (callFunc g us).run P c.w=.ok (.enter g us) c.w/\Calls P g us c.w Rr:=by
 unfold Vw at h;split at h<;>try (cases h;done)
 rename_i id
 split at h<;>try (cases h;done)
 rename_i t i l m o f
 replace h:=dL h;obtain⟨I,h⟩:=h;simp only[af]at I;obtain⟨A,hk,j⟩:=I;have A:i=id:=ak A;subst A;have Z:=hT.bldr hk j;rw[<-d.hp]at f;obtain⟨hB,B,J,s,ae⟩:=d.ok.obj i _ f;obtain⟨us⟩:=us
 match us,v with
 |[u],v=>
  simp only[bQ,dh,and_true]at v;have hu:=v.2.2 _ _ f;subst hu;obtain⟨B⟩:=B
  match B,s with
  |[p,q],s=>
   simp only[bQ,and_true]at s;have x:=s.1;simp only[dh]at x;have x:=x.2.2 _ _ f;rw[Z]at J;have y:c.w.heap[(c.mu i).blk]? =a6 (.cells #[p,q] Zw (0,0)):=J;have M:c.w.cell? ⟨(c.mu i).blk,0,a7⟩=a6 p:=by simp[World.cell?,y]
   obtain⟨h1,h2,h3⟩:=Y c.w (c.mu i).blk (by simp[World.shape?,y]) (by simp[World.frozen?,y]);refine⟨h1, ?_⟩;have N: ∀c',dh c' (.tup []) (.tuple #[]):=fun c'=>by simp only[dh];exact⟨#[],rfl,by simp[bQ]⟩
   rcases x with e|e
   .subst e;refine(h3 M).mono ?_;rintro e w' ⟨rfl,rfl⟩;have ag:(c.mu i).blk<c.w.heap.size:=(Array.getElem?_eq_some_iff.1 y).1;have ah:(c.w.setCell ⟨(c.mu i).blk,0,a7⟩ (.pointer (a6 ⟨(c.mu i).blk,0,a7⟩))).heap[(c.mu i).blk]? =a6 (.cells #[.pointer (a6 ⟨(c.mu i).blk,0,a7⟩),q] Zw (0,0)):=by
     grind [World.setCell]
    have O: ∀b,(c.mu i).blk≠b->(c.w.setCell ⟨(c.mu i).blk,0,a7⟩ (.pointer (a6 ⟨(c.mu i).blk,0,a7⟩))).heap[b]? =c.w.heap[b]? :=fun b j=>by
     grind [World.setCell]
    have S:(c.w.setCell ⟨(c.mu i).blk,0,a7⟩ (.pointer (a6 ⟨(c.mu i).blk,0,a7⟩))).heap.size=c.w.heap.size:=by simp[World.setCell]
    have U: ∀(b:Nat) (L:Loop),(dV.box t [.slf i,.slc l m o]).blk (c.mu i)=a6 b->c.w.heap[b]? =a6 (Obj.loop L)-> ∃L':Loop,(c.w.setCell ⟨(c.mu i).blk,0,a7⟩ (.pointer (a6 ⟨(c.mu i).blk,0,a7⟩))).heap[b]? =a6 (Obj.loop L'):=fun b L j hL=>absurd hL ((d.ok.obj i _ f).no_loop (by simp) j);have V: ∀b,b<c.w.heap.size->(dV.box t [.slf i,.slc l m o]).blk (c.mu i)≠a6 b->(c.w.setCell ⟨(c.mu i).blk,0,a7⟩ (.pointer (a6 ⟨(c.mu i).blk,0,a7⟩))).heap[b]? =c.w.heap[b]? :=fun b _ ab=>O b fun e=>ab (by simp[dV.blk,e]);have W: ∀b,(dV.box t [.slf i,.slc l m o]).blk (c.mu i)=a6 b->(dV.box t [.slf i,.slc l m o]).blk (c.mu i)=a6 b\/c.w.heap.size<=b:=fun b j=>.inl j;have ad:Below W0.heap.size W0 (c.w.setCell ⟨(c.mu i).blk,0,a7⟩ (.pointer (a6 ⟨(c.mu i).blk,0,a7⟩))):=
     ⟨d.ok.bel.os,d.ok.bel.tape,d.ok.bel.output,by omega,fun b j=>(O b (by omega)).trans (d.ok.bel.block b j)⟩
    have X:=dV.like_refl (.box t [.slf i,.slc l m o]) (c.mu i);have D:=Cx.Le.put d.ok f X (Nat.le_of_eq S.symm) V W U;have hd:Gv W0 c st (c.put i (.box t [.slf i,.slc l m o]) (c.mu i) (c.w.setCell ⟨(c.mu i).blk,0,a7⟩ (.pointer (a6 ⟨(c.mu i).blk,0,a7⟩)))) st:=by
     refine⟨by simp only[Cx.put];rw[Z5 _ _ _ f,d.hp],d.nxt,rfl,rfl,Cx.Ok.put d.ok f X ad (Nat.le_of_eq S.symm) V W U ?_,D⟩;refine⟨by simp only[Cx.put,upd_same];exact hB,#[.pointer (a6 ⟨(c.mu i).blk,0,a7⟩),q], ?_, ?_, ?_⟩
     .simp_all [Cx.put,upd_same]
     .simp only[bQ,and_true];refine⟨?_,dh.le D _ _ s.2⟩;simp only[dh];exact⟨rfl,.inl ⟨_,Cx.put_get f⟩,fun _ _ _=>.inr (by simp[Cx.put,upd_same])⟩
     simp_all
    exact E _ (.tup []) (.tuple #[]) st h (d.did hd) (N _) D.mono
   .subst e;refine(h2 M).mono ?_;rintro e w' ⟨rfl,rfl⟩;exact E c (.tup []) (.tuple #[]) st h d (N _) (Cx.Mono.refl c)
theorem l9 {E:Env} (L:zA P E) {O:oQ R} (W:xU P W0 O) (hy:Gz P W0 O) (n:Nat):nX P W0 n (zD E O):=by
 intro b0 rd fv I S st K r h c a ats X l j i m o next Q q
 cases fv with
 |fn g U=>
  simp only[zD]at h;split at h
  .rename_i s M
   exact L.v R W0 n g s M b0 rd (.fn g U) I S st K r (by simp_all [IB]) c a ats X l j i m o next Q q
  split at h
  .rename_i s M
   exact L.x R W0 n g s M b0 rd (.fn g U) I S st K r (by simp_all [Rj]) c a ats X l j i m o next Q q
  .rw[cond_eq_ite]at h;split at h
   .rename_i ab
    simp only[dh]at i;obtain⟨J,rfl,V⟩:=i;obtain⟨N,y⟩:=afW L.T (L.b g ab) h j (us:=l++J) (bQ.append_arr m V)
     (fun e d=>match e with
      |.returned v=>next (a.put o.dst v) d
      |.panicked A=>Q (.panic A) a d
      |.outgrown=>LetsOut Q) (fun B z u D k1 k2 k3 k4=>q B z u D k1 k2 k3 k4)
    rw[uO,N];exact⟨wI rd,(DI y).mono fun e d G=>by cases e<;>exact G⟩
   simp only[dh]at i;obtain⟨J,rfl,V⟩:=i;obtain⟨N,y⟩:=W g (I++U) st K r h b0 rd c a ats (l++J) j (bQ.append_arr m V)
    (fun e d=>match e with
     |.returned v=>next (a.put o.dst v) d
     |.panicked A=>Q (.panic A) a d
     |.outgrown=>LetsOut Q) (fun B z u D k1 k2 k3 k4=>q B z u D k1 k2 k3 k4)
   rw[uO,N];exact⟨wI rd,(DI y).mono fun e d G=>by cases e<;>exact G⟩
 |mfn g Y=>
  simp only[zD]at h;simp only[dh]at i;obtain⟨J,rfl,Z⟩:=i;split at h
  .rename_i s M
   have h0:=L.x R W0 n g s M b0 rd (.fn g []) (Y++I) S st K r (by simp_all [Rj]) c a ats (.func (.func g) #[] #[]) (J++l) j (by simp only[dh];exact⟨#[],rfl,by simp[bQ]⟩) (bQ.append_arr Z m) o next Q q
   grind [Wy]
  obtain⟨N,y⟩:=W g (Y++I) st K r h b0 rd c a ats (J++l) j (bQ.append_arr Z m)
   (fun e d=>match e with
    |.returned v=>next (a.put o.dst v) d
    |.panicked A=>Q (.panic A) a d
    |.outgrown=>LetsOut Q) (fun B z u D k1 k2 k3 k4=>q B z u D k1 k2 k3 k4)
  rw[Wy,N];exact⟨wI rd,(DI y).mono fun e d G=>by cases e<;>exact G⟩
 |yld id=>
  simp only[zD]at h;obtain⟨⟨f,fr,ps,asg,bd,ky,k,p,hg⟩,y⟩:=hy id I st K r h b0 rd c a ats l j m;simp only[dh]at i;have:=i.2.2 f fr ps asg bd ky k p (by rw[j.hp];exact hg);subst this;obtain⟨g,ad,asg,bd,h3,h4⟩:=y
    (fun e d=>match e with
     |.returned v=>next (a.put o.dst v) d
     |.panicked A=>Q (.panic A) a d
     |.outgrown=>LetsOut Q) (fun B z u D k1 k2 k3 k4=>q B z u D k1 k2 k3 k4) (n-1)
  rw[acf,h3];exact⟨wI rd,h4.mono fun e d G=>by cases e<;>exact G⟩
 |_=>simp[zD]at h
theorem GH {E:Env} (A:zA P E) {o:oQ bZ} (B: ∀W0,xU P W0 o):o9 (R:=R) P (VE E fun j st=>o j st fun v _=>a6 v):=by
 intro W0 b0 rd D G I st K r h c a ats J l d m p;cases D with
 |fn g L=>
  cases L with
  |nil=>
   simp only[VE]at h;split at h
   .rename_i s M
    rw[cond_eq_ite]at h;split at h
    .rename_i N
     exact A.q R g s M N W0 b0 rd (.fn g []) G I st K r (by simp_all [IB]) c a ats J l d m p
    .cases h
   .split at h
    .rename_i O S
     split at h
     .rename_i v U
      rw[cond_eq_ite]at h;split at h
      .rename_i x
       simp only[dh]at m;obtain⟨V,rfl,W⟩:=m;have X:V= #[]:=by
        have:=bQ.length _ _ W
        grind
       subst X;refine⟨v,rv v,h,(MI x _).2 rfl,fun i f=>.inl ⟨g,l, ?_⟩⟩;have Y:ji i 0 a7 (c.base i fun _=>False) ⟨[],[],[],st.nxt⟩ ⟨#[],[]⟩ []:=atB (Phi.below f d.ok.phiw) (fun b h=>h.elim) d.nxt.symm;have Z:atq c (c.base i fun _=>False):=fun b y=>⟨ap2.2 ⟨bu y f.size,fun h=>h⟩,f.block b y⟩;obtain⟨h1,h2⟩:=B i g O _ _ v U 0 a7 _ _ [] l Y (Vj d.ok Z _ _ _ (by rw[d.hp];exact S) p)
        (fun e ab=>e=.returned (rv v)/\J3 c ab) (fun c' z u ad k1 k2 k3 k4=>by
         simp only[Option.some.injEq]at k1;subst k1;refine⟨by rw[(MI x u).1 k3], ?_⟩;exact f.trans (k2.ok.bel.mono f.size))
       refine⟨?_,h2⟩;rw[uO,Array.append_empty];exact h1
      .cases h
     .cases h
    .cases h
  |cons _ _=>simp[VE]at h
 |_=>simp[VE]at h
theorem KF: ∀k,bQ c (List.replicate k (.tup [])) (List.replicate k undef)
 |0=>by simp[bQ]
 |k+1=>by
  simp only[List.replicate_succ,bQ,dh];exact⟨⟨#[],rfl,by simp[bQ]⟩,KF k⟩
theorem aeP {l:Nat} {Rr:Ending->World->Prop} {e:Ex} {a:Act} {w:World} (h: ∃v w',(Instr.endRound l e.code).run P w=.ok v w'/\Rr (.returned v) w'):roundPost P l Rr e.xt a w:=by
 cases e<;>exact h
theorem KQ: ∀(d:List Nat) (fr args:List bZ) (f:List Value) (tmps:Array Value),bQ c fr tmps.toList->bQ c args f->bQ c (zk fr d args) ((d.zip f).foldl (fun tmps (t,a)=>tmps.setIfInBounds t a) tmps).toList
 |[],fr,args,f,tmps,h,_=>by simp_all [zk]
 |p::d,fr,[],[],tmps,h,_=>by assumption
 |p::d,fr,v::args,u::f,tmps,h,e=>by
  simp only[bQ]at e;simp only[zk,List.zip_cons_cons,List.foldl_cons];refine KQ d _ args f _ ?_ e.2;simp_all [bQ.set]
 |p::d,fr,[],_::_,tmps,h,e=>by simp[bQ]at e
 |p::d,fr,_::_,[],tmps,h,e=>by simp[bQ]at e
end
end
section
open Option renaming some → a6, none → a7
open Bool renaming and_eq_true → af
open Nat renaming le_refl → ae, le_trans → aK
open Go.RowKit
section
variable {P:Program} {T:TT} {W0:World} {b0:Nat} {rd:Option Nat} {R:Type} {r:R} {c:Cx} {ats:List (Array Value)}
def vK (P:Program) (E:Env):Prop:= ∀(f:FuncId) (fn:Func) (c:Code),P.funcs[f]? =a6 fn->fn.body=a6 c->dO E f c
def aiH (E:Env):Prop:= ∀f k asg d,ut f k=a6 (asg,d)->dO E f asg/\dO E f d
theorem uq {E:Env} {g:oQ R} {i:abe} {f:FuncId} {k:Nat} {x y:Code}: ∀c:Code,jQ E g i f c->MG c k=a6 (x,y)->jQ E g i f x/\jQ E g i f y
 |.rangeFunc _ _ asg j,d,h=>by
  simp only[MG]at h;split at h
  .cases h;exact⟨d.1,d.2.1⟩
  .split at h
   .rename_i z e;cases h;exact uq asg d.1 e
   .exact uq j d.2.1 h
 |.seq a b,d,h=>by
  simp only[MG]at h;split at h
  .rename_i z e;cases h;exact uq a d.1.1 e
  .exact uq b d.2 h
 |.cond _ a b,d,h=>by
  simp only[MG]at h;split at h
  .rename_i z e;cases h;exact uq a d.1 e
  .exact uq b d.2 h
 |.block _ c,d,h=>uq c d h
 |.loop c,d,h=>uq c d.1 h
 |.scope c,d,h=>uq c d h
 |.skip,_,h|.label _,_,h|.region _ _ _,_,h|.exit _,_,h|.goto _,_,h|.ret,_,h|.refuse _,_,h=>by simp[MG]at h
theorem aDY {P:Program} {E:Env} (h:vK P E): ∀f k asg e,aJj P f k=a6 (asg,e)->dO E f asg/\dO E f e:=fun f k asg e d=>by
 unfold aJj at d;split at d
 .rename_i fn g
  split at d
  .rename_i c i
   exact⟨fun R m=>(uq c (h f fn c g i R m) d).1,fun R m=>(uq c (h f fn c g i R m) d).2⟩
  .cases d
 .cases d
theorem afz {P:Program} {E:Env} (h:zA P E): ∀R:Type,o9 (R:=R) P (J8 E.sg E.cl):=fun R W0 b0 rd v f i st K r d c a ats j l m o p=>by
 unfold J8 at d;split at d
 .rename_i g
  split at d
  .rename_i s u
   replace d:=dL d;obtain⟨e,d⟩:=d;simp only[af]at e;exact h.q R g s u e.1 W0 b0 rd (.fn g []) f i st K r (by simp_all [IB]) c a ats j l m o p
  .cases d
 .cases d
theorem zA.at {P:Program} {E:Env} (h:zA P E) (n:Nat):zA P (E.at n):=⟨h.T,h.x,h.b,h.v,h.q⟩
theorem ayr {st:St} {K:St->Option R} (h:pop st K=a6 r): ∃fr stk,st.stk=fr::stk/\K {st with fr:=fr,stk:=stk}=a6 r:=by
 grind [pop]
theorem GG {v:bZ} {u:Value} {f d:Cx} {st st1:St} {a:Act} {A:Nat} (o:ji W0 b0 rd f st a ats) (B:d.Ok W0) (D:d.hp=st1.hp) (E:d.nxt=st1.nxt) (G:st1.fr=[]) (I:Gj d st1.stk (a.tmps::ats))
  (g:f.Mono d) (J:dh d v u) {K:bZ->St->Option R} (h:(match gc A v st1 with|some p=>pop p (K v)|none=>a7)=a6 r):
  ∃c' q,K v q=a6 r/\ji W0 b0 rd c' q a ats/\dh c' v u/\f.Mono c'/\c'.w=d.w:=by
 have i:ji W0 0 a7 d st1 ⟨#[],[]⟩ (a.tmps::ats):=⟨D,E,B,by rw[G];simp[bQ],I,⟨[],rfl,List.nodup_nil,fun r i=>by simp at i⟩,fun l j=>by cases j⟩;split at h
 .rename_i p M
  obtain⟨N,e,O,s,S,Z,_⟩:=i.gc J M;obtain⟨fr,stk,U,h⟩:=ayr h;have m:=e.stk;rw[U]at m;refine⟨N,_,h,⟨e.hp,e.nxt,e.ok,m.1,m.2, ?_,fun l j=> ?_⟩,O,g.trans s,S⟩
  .obtain⟨V,W,X,y⟩:=o.df;exact⟨V,W,X,fun x z=>⟨s.mks x (g.mks x (y x z).1),(y x z).2⟩⟩
  .obtain⟨L,Y⟩:=o.rd l j;obtain⟨L1,ab⟩:=g.lp l L Y;simp_all
 .cases h
theorem arb (hT:TOk P T) (hm:P.follows .mixedOrders=true) (ab:MX P) {E:Env} (ad:E.P=P) (U:E.T=T) (s:zA P E) (ag:vK P E) (av:aiH E) {m:Nat} (g: ∀(R:Type) (W0:World),xU P W0 (lX E m (R:=R))/\Gz P W0 (lX E m (R:=R))):
  xU P W0 (lX E (m+1) (R:=R)):=by
 intro f B st K r h b0 rd c a ats D d ah M hR;simp only[lX]at h;rw[ad]at h;split at h
 .cases h
 .rename_i fn N
  split at h
  .cases h
  .rename_i V o
   rw[cond_eq_ite]at h;split at h
   .rename_i ai
    have ai:B.length<=fn.ntmps:=by simp_all
    have aw:B.length=D.size:=by simpa using bQ.length _ _ ah
    refine⟨EJ ab N o D c.w, ?_⟩;refine(callsIn_wide (n:=0)).1 (callsIn_of_wp_marks (F:=Fence.wide) (n:=0) N o trivial ?_);have aj:ji W0 c.w.heap.size a7 c {fr:=B++List.replicate (fn.ntmps-B.length) (.tup []),stk:=st.fr::st.stk,hp:=st.hp,nxt:=st.nxt} {tmps:=D++Array.replicate (fn.ntmps-D.size) undef,defers:=[]} (a.tmps::ats):=by
     refine⟨d.hp,d.nxt,d.ok, ?_,⟨d.fr,d.stk⟩,⟨[],rfl,List.nodup_nil,fun r d=>by simp at d⟩,fun l hl=>by cases hl⟩
     grind [bQ.append_arr,Array.toList_replicate,KF]
    refine QN (rd:=a7) hT hm (n:=0) (E:=E.at m) U (l9 (E:=E.at m) (s.at m) (g R W0).1 (g R W0).2 0) (GH (E:=E.at m) (s.at m) fun W=>(g bZ W).1) (g R W0).1 (l9 (E:=E.at m) (s.at m) (g St W0).1 (g St W0).2 0) (l9 (E:=E.at m) (s.at m) (g Unit W0).1 (g Unit W0).2 0) (afz (E:=E.at m) (s.at m)) V (ag f fn V N o R m) _ _ c _ _ h aj (ae _) fun e O y S G p q=> ?_;have X:(ve E.T y fn.results.toList fun z=>
       let v:=match z with
        |[v]=>v
        |z=>.tup z
       match gc (bif E.cl then st.nxt else 1000000*y.stk.length) v {y with fr:=[]}with
       |some ak=>pop ak (K v)
       |none=>a7)=a6 r->LeavesInM Fence.wide 0 P fn S.tmps M S.defers .returning O.w:=by
     intro Y;obtain⟨ds,d1,d2,Z⟩:=p.df;obtain⟨c2,e1,e2,I,e4,e5,e6,e7,al,e8⟩:=Yz (n:=0) (P:=P) (fn:=fn) (tmps:=S.tmps) (Rr:=M) ds O p.ok d2 fun x J=>(Z x J).1;rw[d1];refine e8 ?_;rw[U]at Y;obtain⟨z,us,h3,h4,h5⟩:=Dn hT e4 (e1.trans p.hp) (bQ.le0 I _ _ p.fr) _ _ Y;have an:c.Mono c2:=by
      refine⟨fun x J=>e5 x (q.mks x J) fun hd=> ?_,fun b L hL=> ?_,aK q.size e7,al.trans q.bar,fun b o=>⟨(I.out b (q.out b o).1).1,(I.out b (q.out b o).1).2.trans (q.out b o).2⟩⟩
      .have h6:=(Z x hd).2;have h7:=d.ok.mark_lt J;omega
      .obtain⟨L1,ao⟩:=q.lp b L hL;exact e6 b L1 ao
     obtain⟨c3,ax,k1,k2,k3,k4,k5⟩:=GG (v:=QI z) (u:=TE us) d e4 (st1:={y with fr:=[]}) (e1.trans p.hp) (e2.trans p.nxt) rfl (by
      have: ∀(A:List (List bZ)) (j:List (Array Value)),Gj O A j->Gj c2 A j:=fun A=>by
       induction A with
       |nil=>intro j h;cases j with
        |nil=>trivial
        |cons _ _=>exact h.elim
       |cons f A au=>intro j h;cases j with
        |nil=>exact h.elim
        |cons t j=>exact⟨bQ.le0 I _ _ h.1,au j h.2⟩
      exact this _ _ p.stk) an (Ej h4) (K:=K) h3
     refine⟨TE us,ahZ h5, ?_⟩
     grind
    cases e with
    |normal=>exact X G
    |ret=>exact X G
    |exit i=>cases G
    |goto l=>cases G
   .cases h
theorem Ex.code_none {e:Ex} (h:e≠ .normal):e.code.isNone=false:=by cases e<;>first|exact absurd rfl h|rfl
theorem ajt (hT:TOk P T) (hm:P.follows .mixedOrders=true) (bz:MX P) {E:Env} (bC:E.P=P) (aU:E.T=T) (X:zA P E) (bD:vK P E) (av:aiH E) {m:Nat} (g: ∀(R:Type) (W0:World),xU P W0 (lX E m (R:=R))/\Gz P W0 (lX E m (R:=R))):
  Gz P W0 (lX E (m+1) (R:=R)):=by
 intro id ai st K r h b0 rd c a ats aj o aw;simp only[lX]at h;split at h
 .rename_i f ak ps asg Y d hg
  refine⟨⟨f,ak,ps,asg,Y,d,0,a7,hg⟩,fun Rr hR n=> ?_⟩;rw[cond_eq_ite]at h;split at h
  .rename_i ax
   have ax:ai.length=ps.length:=by simpa using ax
   have bF:ai.length=aj.size:=by simpa using bQ.length _ _ aw
   have ay:dW c.hp id=a6 (.lp f ak ps asg Y d 0 a7):=by rw[o.hp];exact hg
   obtain⟨az,hB,L,hL,hv,q1,q2,q3,q4,q5⟩:=o.ok.obj id _ ay;have p:zA P ((E.at m).keyed d):=by
    cases d with
    |none=>exact⟨X.T,X.x,X.b,X.v,X.q⟩
    |some k=>exact X.at m
   have aA:((E.at m).keyed d).T=T:=by cases d<;>exact aU
   have⟨aV,aW⟩:jQ ((E.at m).keyed d) (lX E m (R:=R)) (ZK E m) f asg/\jQ ((E.at m).keyed d) (lX E m (R:=R)) (ZK E m) f Y:=by
    cases d with
    |none=>exact⟨jc (fun _=>rfl) (fun _=>rfl) _,jc (fun _=>rfl) (fun _=>rfl) _⟩
    |some k=>exact⟨(av f k asg Y (az k rfl)).1 R m,(av f k asg Y (az k rfl)).2 R m⟩
   have aX:aj.size=L.params.size:=by
    grind
   refine⟨_,_,_,_,run_yield hL aX, ?_⟩;refine roundIn_of_wpIn trivial ?_;rw[q2,q3];have aY:dh c (.yld id) (.func (.yield (c.mu id).blk) #[] #[]):=by
    simp only[dh];exact⟨rfl,.inl ⟨_,ay⟩,fun _ _ _ _ _ _ _ _ _=>by simp⟩
   have aZ:ji W0 c.w.heap.size (a6 (c.mu id).blk) c {fr:=zk ak ps ai,stk:=[.yld id]::st.fr::st.stk,hp:=st.hp,nxt:=st.nxt} {tmps:=(L.params.zip aj).foldl (fun aB (t,a)=>aB.setIfInBounds t a) L.tmps,defers:=[]} (#[.func (.yield (c.mu id).blk) #[] #[]]::a.tmps::ats):=by
    refine⟨o.hp,o.nxt,o.ok, ?_,⟨by simpa [bQ] using aY,o.fr,o.stk⟩,⟨[],rfl,List.nodup_nil,fun r o=>by simp at o⟩,fun l hl=>by simp_all⟩;have:=KQ ps ak ai aj.toList L.tmps hv aw
    grind [Array.toList_zip]
   refine QN (rd:=a6 (c.mu id).blk) hT hm (E:=(E.at m).keyed d) aA (l9 (E:=(E.at m).keyed d) p (g R W0).1 (g R W0).2 n) (GH (E:=(E.at m).keyed d) p fun W=>(g bZ W).1) (g R W0).1 (l9 (E:=(E.at m).keyed d) p (g St W0).1 (g St W0).2 n) (l9 (E:=(E.at m).keyed d) p (g Unit W0).1 (g Unit W0).2 n) (afz p) asg aV _ _ c _ _ h aZ (ae _) fun e c1 Z a1 z s bf=> ?_;cases e with
   |normal=>
    split at z
    .rename_i ao bG _ bg
     split at z
     .rename_i f1 aF aG aH aI aJ bi
      have y:=s.stk;rw[bg]at y;obtain⟨aO,_⟩:=y;simp only[bQ,and_true]at aO;have au:=bi;rw[<-s.hp]at au;obtain⟨bH,cb,L1,bn,cc,p1,p2,p3,p4,p5⟩:=s.ok.obj ao _ au;simp only[dh]at aO;have cd:(c.mu id).blk=(c1.mu ao).blk:=by simp_all
      obtain⟨c2,e1,e2,e3,e4,e5,e6⟩:=MJ s.ok au bn {L1 with state:=.busy} (o':=.lp f1 aF aG aH aI aJ 2 a7) (.inr ⟨2,a7,rfl,rfl,rfl,rfl,rfl,rfl⟩);simp only[Ex.xt,Exit.then];refine⟨c2.w, ?_, ?_⟩
      .simp_all [run_beginRound]
      have ag:c.Mono c2:=bf.trans e3.mono;have br:ji W0 c.w.heap.size (a6 (c.mu id).blk) c2 {Z with hp:=jB Z.hp ao (.lp f1 aF aG aH aI aJ 2 a7)} a1 (#[.func (.yield (c.mu id).blk) #[] #[]]::a.tmps::ats):=
       ⟨e1.trans (by rw[s.hp]),e2.trans s.nxt,e4,bQ.le e3 _ _ s.fr,Gj.le e3 _ _ s.stk,let⟨ds,d1,d2,d3⟩:=s.df;⟨ds,d1,d2,fun x hx=>⟨e3.mks x (d3 x hx).1,(d3 x hx).2⟩⟩,fun l hl=>let⟨L,hL⟩:=s.rd l hl;e3.lp l L hL⟩
      refine QN (rd:=a6 (c.mu id).blk) hT hm (E:=(E.at m).keyed d) aA (l9 (E:=(E.at m).keyed d) p (g R W0).1 (g R W0).2 n) (GH (E:=(E.at m).keyed d) p fun W=>(g bZ W).1) (g R W0).1 (l9 (E:=(E.at m).keyed d) p (g St W0).1 (g St W0).2 n) (l9 (E:=(E.at m).keyed d) p (g Unit W0).1 (g Unit W0).2 n) (afz p) Y aW _ _ c2 _ _ z br ag.size fun e c3 A a3 B j al=> ?_;refine aeP ?_;split at B
      .rename_i ab an bt
       split at B
       .rename_i D G I J M N bu
        have y:=j.stk;rw[bt]at y;obtain⟨aP,y⟩:=y;simp only[bQ,and_true]at aP;have ad:=bu;rw[<-j.hp]at ad;obtain⟨ch,cn,L3,ah,cv,w1,w2,w3,w4⟩:=j.ok.obj ab _ ad;simp only[dh]at aP;have aQ:(c.mu id).blk=(c3.mu ab).blk:=by simp_all
        have aS:=run_endRound (P:=P) (w:=c3.w) e.code ah;rw[<-aQ]at aS;refine⟨_,_,aS, ?_⟩;rw[aQ];cases e with
        |normal=>
         obtain⟨O,g1,g2,g3,g4,g5,g6⟩:=MJ j.ok ad ah {L3 with state:=.ready,pending:=a7} (o':=.lp D G I J M N 0 a7) (.inr ⟨0,a7,rfl,⟨rfl,rfl⟩,rfl,rfl,rfl,rfl⟩);have S:c.Mono O:=(ag.trans al).trans g3.mono;obtain⟨U,V,k1,k2,k3,k4,k5⟩:=GG (v:=.undef) (u:=undef) o g4 (st1:={A with fr:=[],stk:=an,hp:=jB A.hp ab (.lp D G I J M N 0 a7)}) (g1.trans (by rw[j.hp])) (g2.trans j.nxt) rfl (Gj.le g3 _ _ y) S (by simp[dh]) (K:=fun _=>K (.val .bool true)) B;have:=hR U (.val .bool true) (.bool true) V k1 k2 (by simp only[dh];exact VD.bool_mk) k4;rw[k5,g5]at this;exact this
        |exit i=>
         obtain⟨O,g1,g2,g3,g4,g5,g6⟩:=MJ j.ok ad ah {L3 with state:=.done,pending:=a6 (.exit i)} (o':=.lp D G I J M N 1 (a6 (.exit i))) (.inr ⟨1,a6 (.exit i),rfl,⟨rfl,rfl,by simp[Ex.code]⟩,rfl,rfl,rfl,rfl⟩);have S:c.Mono O:=(ag.trans al).trans g3.mono;obtain⟨U,V,k1,k2,k3,k4,k5⟩:=GG (v:=.undef) (u:=undef) o g4 (st1:={A with fr:=[],stk:=an,hp:=jB A.hp ab (.lp D G I J M N 1 (a6 (.exit i)))}) (g1.trans (by rw[j.hp])) (g2.trans j.nxt) rfl (Gj.le g3 _ _ y) S (by simp[dh]) (K:=fun _=>K (.val .bool false)) B;have:=hR U (.val .bool false) (.bool false) V k1 k2 (by simp only[dh];exact VD.bool_mk) k4;rw[k5,g5]at this;exact this
        |goto l=>
         obtain⟨O,g1,g2,g3,g4,g5,g6⟩:=MJ j.ok ad ah {L3 with state:=.done,pending:=a6 (.goto l)} (o':=.lp D G I J M N 1 (a6 (.goto l))) (.inr ⟨1,a6 (.goto l),rfl,⟨rfl,rfl,by simp[Ex.code]⟩,rfl,rfl,rfl,rfl⟩);have S:c.Mono O:=(ag.trans al).trans g3.mono;obtain⟨U,V,k1,k2,k3,k4,k5⟩:=GG (v:=.undef) (u:=undef) o g4 (st1:={A with fr:=[],stk:=an,hp:=jB A.hp ab (.lp D G I J M N 1 (a6 (.goto l)))}) (g1.trans (by rw[j.hp])) (g2.trans j.nxt) rfl (Gj.le g3 _ _ y) S (by simp[dh]) (K:=fun _=>K (.val .bool false)) B;have:=hR U (.val .bool false) (.bool false) V k1 k2 (by simp only[dh];exact VD.bool_mk) k4;rw[k5,g5]at this;exact this
        |ret=>
         obtain⟨O,g1,g2,g3,g4,g5,g6⟩:=MJ j.ok ad ah {L3 with state:=.done,pending:=a6 (.ret)} (o':=.lp D G I J M N 1 (a6 .ret)) (.inr ⟨1,a6 .ret,rfl,⟨rfl,rfl,by simp[Ex.code]⟩,rfl,rfl,rfl,rfl⟩);have S:c.Mono O:=(ag.trans al).trans g3.mono;obtain⟨U,V,k1,k2,k3,k4,k5⟩:=GG (v:=.undef) (u:=undef) o g4 (st1:={A with fr:=[],stk:=an,hp:=jB A.hp ab (.lp D G I J M N 1 (a6 .ret))}) (g1.trans (by rw[j.hp])) (g2.trans j.nxt) rfl (Gj.le g3 _ _ y) S (by simp[dh]) (K:=fun _=>K (.val .bool false)) B;have:=hR U (.val .bool false) (.bool false) V k1 k2 (by simp only[dh];exact VD.bool_mk) k4;rw[k5,g5]at this;exact this
       .cases B
      .cases B
     .cases z
    .cases z
   |exit i=>simp at z
   |goto l=>simp at z
   |ret=>simp at z
  .cases h
 .cases h
theorem LD (hT:TOk P T) (d:P.follows .mixedOrders=true) (e:MX P) {E:Env} (g:E.P=P) (i:E.T=T) (j:zA P E) (l:vK P E) (o:aiH E): ∀(m:Nat) (R:Type) (W0:World),xU P W0 (lX E m (R:=R))/\Gz P W0 (lX E m (R:=R))
 |0,R,W0=>⟨fun f p st K r h=>by simp[lX]at h,fun id p st K r h=>by simp[lX]at h⟩
 |m+1,R,W0=>⟨arb hT d e g i j l o (LD hT d e g i j l o m),ajt hT d e g i j l o (LD hT d e g i j l o m)⟩
end
end
section
open Option renaming some → a6, none → a7
open Bool renaming and_eq_true → af
open List renaming mem_cons_of_mem → aj
open Nat renaming le_refl → ae
open Go.RowKit
def ry (c:Cx):(d:List Ty)->(d.foldr Ty.pair Ty.unit).den->List Value->Prop
 |[],_,us=>us=[]
 |t::d,x,us=> ∃u e,us=u::e/\VD c t x.1 u/\ry c d x.2 e
def lu (w:World) (d:Nat->Prop):Cx:=⟨fun _=>⟨0,undef⟩,[],0,w,[],d⟩
def Jr (rs:List (Ty×Bool)) (y:((rs.map (·.1)).foldr Ty.pair Ty.unit).den):iw:=
 match BH rs y with
 |some ⟨e,d⟩=>[(0,.arr e 0 d)]
 |none=>[]
def xW (w:World) (f:Nat->Prop) (rs:List (Ty×Bool)) (y:((rs.map (·.1)).foldr Ty.pair Ty.unit).den):Ending->World->Prop:=fun e g=>
 ∃(d:Cx) (us:List Value),e=.returned (TE us)/\d.w=g/\d.Ok w/\d.bar=f/\d.mks=[]/\d.hp=Jr rs y/\bQ d (qQ 0 rs y) us
def dU (P:Program) (g:FuncId) (s:Sum):Prop:=
 ∀(w:World) (e:Nat->Prop) (d:Array Value) x y,Phi w->(∀b,e b->b<w.heap.size)->ry (lu w e) s.ps x d.toList->s.f x=a6 y->
  ((callFunc g d).run P w=.ok (.enter g d) w/\Calls P g d w (xW w e s.rs y))\/ ∃u,(callFunc g d).run P w=.ok (.value u) w/\xW w e s.rs y (.returned u) w
section
variable {P:Program} {T:TT} {W0:World} {b0:Nat} {rd:Option Nat} {R:Type} {r:R} {c:Cx} {ats:List (Array Value)}
theorem Lc {w:World} {d:Nat->Prop} {b:Nat}:(lu w d).free b↔b<w.heap.size/\ ¬d b:=by
 constructor
 .intro h;exact⟨h.1,h.2.2.2⟩
 .rintro ⟨e,f⟩;exact⟨e,(by rintro ⟨i,o,h,_⟩;simp[lu,dW]at h),by simp[lu],f⟩
theorem alU (q:c.Ok W0) {cb:Cx} (i:atq c cb) {t:Ty} {v:bZ} {x:t.den} {u:Value} (h:v.as c.hp t=a6 x) (d:dh c v u):VD cb t x u:=by
 have m: ∀{t:Ty} {x:t.den} {u:Value},VD c t x u->VD cb t x u:=fun {t x u} d=>
  ⟨fun e=>let⟨cs,f,j⟩:=d.1 e;⟨cs,f,fV.mono (fun b g=>i b g.1) t x _ j⟩,fun e=>fV.mono (fun b g=>i b g.1) t x _ (d.2 e)⟩
 cases v with
 |val t' z=>
  grind [bZ.as,jb,ik,dh]
 |nils=>
  cases t with
  |list e=>grind [Jc]
  |_=>simp[bZ.as]at h
 |lst t' z b=>
  simp only[bZ.as]at h;have e:=jb h;subst e;simp_all [ik,dh]
 |emp=>
  cases t with
  |list e=>grind [Jc]
  |_=>simp[bZ.as]at h
 |slc id ver s=>
  cases t with
  |list e=>grind [Jc]
  |_=>simp[bZ.as]at h
 |agg l=>
  simp only[bZ.as]at h;rw[cond_eq_ite]at h;split at h
  .rename_i o
   simp only[dh]at d;obtain⟨p,rfl,f,j⟩:=d;exact m ((VD.agg o).2 ⟨p,rfl,qJ h f⟩)
  .cases h
 |_=>simp[bZ.as]at h
theorem Na {cb:Cx} (f: ∀b,c.free b->cb.free b/\cb.w.heap[b]? =c.w.heap[b]?) {t:Ty} {v:bZ} {x:t.den} {u:Value} (j:oH v=false) {hp:iw} (h:v.as hp t=a6 x) (d:dh c v u):VD cb t x u:=by
 cases v with
 |val t' z=>
  simp only[bZ.as]at h;have e:=jb h;subst e;rw[ik]at h;cases h;simp only[dh]at d;exact⟨fun e=>let⟨cs,g,i⟩:=d.1 e;⟨cs,g,fV.mono f t' _ _ i⟩,fun e=>fV.mono f t' _ _ (d.2 e)⟩
 |nils=>
  cases t with
  |list e=>
   simp only[bZ.as,Option.some.injEq]at h;subst h;simp only[dh]at d;subst d;exact(VD.leaf rfl).2 ⟨a7,0,[],rfl,ae _,rfl,.inl rfl⟩
  |_=>simp[bZ.as]at h
 |lst t' z b=>
  simp only[bZ.as]at h;have e:=jb h;subst e;rw[ik]at h;cases h;simp only[dh]at d;exact⟨fun e=>let⟨cs,g,i⟩:=d.1.1 e;⟨cs,g,fV.mono f _ _ _ i⟩,fun e=>fV.mono f _ _ _ (d.1.2 e)⟩
 |emp=>
  cases t with
  |list e=>
   simp only[bZ.as,Option.some.injEq]at h;subst h;simp only[dh]at d;obtain⟨a,rfl⟩:=d;exact(VD.leaf rfl).2 ⟨a,0,[],rfl,ae _,rfl,.inl rfl⟩
  |_=>simp[bZ.as]at h
 |slc id ver m=>simp[oH]at j
 |agg l=>simp[oH]at j
 |_=>simp[bZ.as]at h
theorem DF {cb:Cx} {hp:iw}: ∀(e:List Ty) (args:List bZ) x (us:List Value),DD hp e args=a6 x->bQ c args us->
  (∀(t:Ty) (v:bZ) (x:t.den) (u:Value),v∈args->v.as hp t=a6 x->dh c v u->VD cb t x u)->ry cb e x us
 |[],[],x,[],h,_,_=>rfl
 |t::e,v::args,x,u::us,h,d,f=>by
  simp only[DD]at h;split at h
  .rename_i g i
   split at h
   .rename_i j l
    cases h;simp only[bQ]at d;exact⟨u,us,rfl,f t v g u (by simp) i d.1,DF e args j us l d.2 fun t v x u m=>f t v x u (aj _ m)⟩
   .cases h
  .cases h
 |[],[],_,_::_,_,d,_=>by simp[bQ]at d
 |[],_::_,_,_,h,_,_=>by simp[DD]at h
 |_::_,[],_,_,h,_,_=>by simp[DD]at h
 |_::_,_::_,_,[],_,d,_=>by simp[bQ]at d
theorem VD.move {c' c2:Cx} (f:c2.w=c'.w) {t:Ty} {x:t.den} {u:Value} (h:(∀b,c'.free b->c2.free b)\/t.rigid=true) (g:VD c' t x u):VD c2 t x u:=by
 rcases h with h|h
 .exact⟨fun e=>let⟨cs,i,j⟩:=g.1 e;⟨cs,i,fV.mono (fun b d=>⟨h b d,by rw[f]⟩) t x _ j⟩,fun e=>fV.mono (fun b d=>⟨h b d,by rw[f]⟩) t x _ (g.2 e)⟩
 simp_all [VD.rigid]
theorem gK.move {c' c2:Cx} (f:c2.w=c'.w) {e:Ty} {xs:List e.den} {d:List Value} (h:(∀b,c'.free b->c2.free b)\/e.rigid=true) (g:gK (fV c'.w c'.free e) e.size xs d):gK (fV c2.w c2.free e) e.size xs d:=by
 grind [gK.mono,fV.mono,xw]
theorem JZ {c' c2:Cx} (f:c2.w=c'.w) (id:Nat): ∀(rs:List (Ty×Bool)) y (us:List Value),(∀t∈rs,(∀b,c'.free b->c2.free b)\/t.1.rigid=true\/t.2=true)->
  (news rs=0\/ ∀u,dh c' (.slc 0 0 a7) u->dh c2 (.slc id 0 a7) u)->bQ c' (qQ 0 rs y) us->bQ c2 (qQ id rs y) us
 |[],y,[],_,_,_=>by simp[qQ,bQ]
 |[],y,_::_,_,_,d=>by assumption
 |(t,false)::rs,y,us,h,e,d=>by
  cases us with
  |nil=>assumption
  |cons u us=>
   simp only[qQ,bQ,dh]at d ⊢;refine⟨VD.move f ?_ d.1,JZ f id rs y.2 us (fun t g=>h t (aj _ g)) e d.2⟩;simp_all
 |(t,true)::rs,y,us,h,e,d=>by
  cases us with
  |nil=>assumption
  |cons u us=>
   simp only[qQ,bQ]at d ⊢;rcases e with e|e
   .simp[news]at e
   .exact⟨e u d.1,JZ f id rs y.2 us (fun t g=>h t (aj _ g)) (.inr e) d.2⟩
theorem aiy {c':Cx}: ∀(rs:List (Ty×Bool)) y (us:List Value),news rs≠0->bQ c' (qQ 0 rs y) us-> ∃u,dh c' (.slc 0 0 a7) u
 |[],y,us,h,_=>by simp[news]at h
 |(t,false)::rs,y,us,h,d=>by
  cases us with
  |nil=>simp[qQ,bQ]at d
  |cons u us=>
   simp only[qQ,bQ]at d;exact aiy rs y.2 us (by simpa [news] using h) d.2
 |(t,true)::rs,y,us,h,d=>by
  cases us with
  |nil=>simp[qQ,bQ]at d
  |cons u us=>
   grind [qQ,bQ]
theorem SE: ∀(rs:List (Ty×Bool)) y {e:Ty} {xs:List e.den},BH rs y=a6 ⟨e,xs⟩->(rs.all fun r=>r.1.rigid||(r.2&&r.1.elem.rigid))=true->e.rigid=true
 |[],y,e,xs,h,_=>by simp[BH]at h
 |(t,false)::rs,y,e,xs,h,d=>by
  simp only[BH]at h;simp only[List.all_cons,af]at d;exact SE rs y.2 h d.2
 |(t,true)::rs,y,e,xs,h,d=>by
  cases t with
  |list f=>
   simp only[BH,Option.some.injEq,Sigma.mk.injEq]at h;obtain⟨rfl,_⟩:=h;simp_all [Ty.rigid,Ty.elem]
  |_=>simp[BH]at h
theorem aAG {c':Cx} (d:c.Ok W0) (m:c'.Ok c.w) (f:c'.bar=fun b=>b<c.w.heap.size/\ ¬c.free b) {b:Nat} (hb:c'.free b):(c.at_ c'.w).free b:=by
 refine⟨hb.1, ?_⟩;by_cases hlt:b<c.w.heap.size
 .have e:=hb.2.2.2;rw[f]at e;have g:c.free b:=Classical.byContradiction fun h=>e ⟨hlt,h⟩;exact g.2
 .refine⟨fun i=>hlt (d.own_lt i).2,fun j=>hlt (d.mark_lt j),fun l=>hlt (d.bar b l).1⟩
theorem ait {s:Sum} {cl:Bool} {args:List bZ} {dst:Option Nat} {st:St} {K:bZ->St->Option R} (h:s.call cl args dst st K=a6 r):
    ((s.rs.all fun r=>r.1.rigid||(r.2&&r.1.elem.rigid))=true\/args.any oH=false)/\ ∃x y,DD st.hp s.ps args=a6 x/\s.f x=a6 y/\
      ((BH s.rs y=a7/\news s.rs=0/\K (QI (qQ 0 s.rs y)) st=a6 r)\/
       (∃e xs id n',BH s.rs y=a6 ⟨e,xs⟩/\news s.rs=1/\dW st.hp id=a7/\st.nxt<=id/\st.nxt<=n'/\K (QI (qQ id s.rs y)) {st with hp:=(id,.arr e 0 xs)::st.hp,nxt:=n'}=a6 r)):=by
  unfold Sum.call at h;rw[cond_eq_ite]at h;split at h
  . rename_i d
    refine⟨by simpa using d, ?_⟩;split at h
    . rename_i x g
      cases hy:s.f x with
      |none=>rw[hy]at h;cases h
      |some y=>
        rw[hy]at h;simp only[bJ]at h;refine⟨x,y,g,hy, ?_⟩;split at h
        . simp_all [cond_eq_ite]
        . rename_i e xs i
          rw[cond_eq_ite]at h;split at h
          . rename_i j
            obtain⟨id,n',l,m,o,p⟩:=jD h;exact .inr ⟨e,xs,id,n',i,by simpa using j,l,m,o,p⟩
          . cases h
    . cases h
  . cases h
end
end
section
open Option renaming some → a6, none → a7
open Bool renaming and_eq_true → af, not_eq_true' → aW
open List renaming mem_cons_of_mem → aj, map_cons → au, mem_append_right → bC, mem_append_left → bD
open Nat renaming le_refl → ae, eq_of_beq_eq_true → ak, le_trans → aK, lt_of_lt_of_le → bu
open Go.RowKit
section
variable {P:Program} {T:TT} {W0:World} {b0:Nat} {rd:Option Nat} {R:Type} {r:R} {c:Cx} {ats:List (Array Value)}
theorem Cx.many {c2:Cx} (g:c.Ok W0) (S:Nat->Prop) (z:c2.mks=c.mks) (J:c2.bar=c.bar) (V:c2.nxt=c.nxt)
  (A: ∀i,¬S i->dW c2.hp i=dW c.hp i/\c2.mu i=c.mu i)
  (W: ∀i,S i-> ∃o o',dW c.hp i=a6 o/\dW c2.hp i=a6 o'/\o.like (c.mu i) o' (c2.mu i)/\ ∀f fr X asg Y Z n p,o≠ .lp f fr X asg Y Z n p)
  (hw:Below W0.heap.size W0 c2.w) (K:c.w.heap.size<=c2.w.heap.size)
  (B: ∀b,b<c.w.heap.size->(∀i o,S i->dW c.hp i=a6 o->o.blk (c.mu i)≠a6 b)->c2.w.heap[b]? =c.w.heap[b]?)
  (M: ∀i o' b,S i->dW c2.hp i=a6 o'->o'.blk (c2.mu i)=a6 b->c.w.heap.size<=b\/ ∃j o,S j/\dW c.hp j=a6 o/\o.blk (c.mu j)=a6 b)
  (ad: ∀i j o' l b,S i->S j->dW c2.hp i=a6 o'->dW c2.hp j=a6 l->o'.blk (c2.mu i)=a6 b->l.blk (c2.mu j)=a6 b->i=j)
  (ag: ∀(b:Nat) (L:Loop) (i:Nat) o,S i->dW c.hp i=a6 o->o.blk (c.mu i)=a6 b->c.w.heap[b]? ≠a6 (Obj.loop L)):
  c.Le c2/\((∀i o',S i->dW c2.hp i=a6 o'->c2.ORel W0.heap.size i o')->c2.Ok W0):=by
 have D:c.Le c2:=by
  refine⟨fun b e=>⟨⟨bu e.1 K, ?_,by rw[z];exact e.2.2⟩,B b e.1 fun i o _ m d=>e.2.1 ⟨i,o,m,d⟩⟩,fun i y=> ?_,fun i o' y v=> ?_,fun r x=>by rw[z];exact x,fun b L hL=> ?_,K,J⟩
  .rintro ⟨i,o',m,d⟩;by_cases s:S i
   .rcases M i o' b s m d with q|⟨j,o,_,q,u⟩
    .have:=e.1;omega
    .exact e.2.1 ⟨j,o,q,u⟩
   .obtain⟨q,u⟩:=A i s;rw[q]at m;rw[u]at d;exact e.2.1 ⟨i,o',m,d⟩
  .by_cases s:S i
   .obtain⟨o,o',_,d,_⟩:=W i s;exact .inl ⟨o',d⟩
   .rcases y with ⟨o,v⟩|y
    .exact .inl ⟨o,by simp_all⟩
    .exact .inr (by rw[V];exact y)
  .by_cases s:S i
   .grind
   .obtain⟨q,u⟩:=A i s;rw[q]at v;exact⟨o',v,by rw[u];exact o'.like_refl _⟩
  grind
 refine⟨D,fun hO=>⟨hw,fun i o' v=> ?_,fun i j o' l b m d q u=> ?_,fun r x=> ?_,fun b e=> ?_,g.phi⟩⟩
 .by_cases s:S i
  .exact hO i o' s v
  .obtain⟨q,u⟩:=A i s;rw[q]at v;refine(g.obj i o' v).le D u fun b e=>B b ((g.obj i o' v).lt e).2 fun j o ah E G=> ?_;have:=g.inj j i o o' b E v G e;simp_all
 .have I: ∀i o' b,¬S i->dW c2.hp i=a6 o'->o'.blk (c2.mu i)=a6 b->dW c.hp i=a6 o'/\o'.blk (c.mu i)=a6 b:=fun i o' b s m d=>by
   simp_all
  have mixed: ∀i j o' l b,S i-> ¬S j->dW c2.hp i=a6 o'->dW c2.hp j=a6 l->o'.blk (c2.mu i)=a6 b->l.blk (c2.mu j)=a6 b->False:=fun i j o' l b m d q u E G=>by
   obtain⟨N,O⟩:=I j l b d u G;rcases M i o' b m q E with U|⟨k,o,hk,U,ab⟩
   .have:=((g.obj j l N).lt O).2;omega
   .have:=g.inj k j o l b U N ab O;simp_all
  by_cases y:S i<;>by_cases hj:S j
  .grind
  .grind
  .grind
  .obtain⟨q1,q2⟩:=I i o' b y m q;obtain⟨q3,q4⟩:=I j l b hj d u;exact g.inj i j o' l b q1 q3 q2 q4
 .rw[z]at x;exact⟨(g.mks r x).1,(B r (g.mark_lt x) fun i o s m d=>g.mark_own x ⟨i,o,m,d⟩).trans (g.mks r x).2⟩
 .rw[J]at e;exact(D.out b (g.bar b e)).1
theorem aD5 {size:Nat} {s u:Value} {e:Option (Int×Int)} (h:jy size s e u) {b off n cp:Nat} (f:u=.slice (a6 ⟨b,off,a7⟩) n cp):s.ownBlock=a6 b:=by
 subst f;cases e with
 |none=>simp only[jy]at h;subst h;rfl
 |some p=>
  obtain⟨lo,i⟩:=p;simp only[jy]at h;obtain⟨a,m,q,rfl,_,_,_,g⟩:=h;have d:(a6 ⟨b,off,a7⟩:Option Addr)=if q=lo.toNat then a else a.map (·.add (lo.toNat*size)):=by injection g
  split at d
  .subst d;rfl
  .cases a with
   |none=>cases d
   |some a=>
    simp only[Option.map_some,Option.some.injEq]at d;have:=congrArg Addr.block d
    grind [Value.ownBlock,Addr.add]
theorem aiM (q:c.Ok W0) {cb:Cx} (g: ∀b,c.free b->cb.free b/\cb.w.heap[b]? =c.w.heap[b]?) {t:Ty} {v:bZ} {x:t.den} {u:Value}
  (z: ∀id i m,v=.slc id i m-> ∀o b,dW c.hp id=a6 o->o.blk (c.mu id)=a6 b->cb.free b/\cb.w.heap[b]? =c.w.heap[b]?) (h:v.as c.hp t=a6 x) (d:dh c v u):VD cb t x u:=by
 cases hno:oH v with
 |false=>exact Na g hno h d
 |true=>
  cases v with
  |slc id i m=>
   cases t with
   |list e=>
    obtain⟨a,cp,A,f,j,B⟩:=X9 q h d;have D:=aeY q h d f;have E: ∃t G,dW c.hp id=a6 (.arr t i G):=by
     simp only[bZ.as,EL]at h
     grind
    obtain⟨O,S,s⟩:=E;simp only[dh]at d;have I:=(d.2.2 _ _ _ s).2 rfl;refine(VD.leaf rfl).2 ⟨a,cp,A,by rw[f],D,gK.mono (fV.mono g e) _ _ j,B.imp (fun h=>h) fun⟨b,p,y,U,V,J⟩=> ?_⟩;have W:=aD5 I (b:=b) (off:=p) (n:=x.length) (cp:=cp) (by rw[f,y]);obtain⟨K,L⟩:=z id i m rfl _ b s (by assumption);exact⟨b,p,y,K,J.of_block L⟩
   |_=>simp[bZ.as]at h
  |agg l=>
   simp only[bZ.as]at h;replace h:=dL h;obtain⟨M,h⟩:=h;simp only[dh]at d;obtain⟨N,rfl,f,j⟩:=d;have:=(VD.agg M).2 ⟨N,rfl,qJ h f⟩;exact⟨fun e=>let⟨cs,f,j⟩:=this.1 e;⟨cs,f,fV.mono g _ _ _ j⟩,fun e=>fV.mono g _ _ _ (this.2 e)⟩
  |_=>simp[oH]at hno
theorem Hq: ∀{l:List Nat},Xl l=true->l.Nodup
 |[],_=>List.nodup_nil
 |i::l,h=>by
  simp only[Xl,af,aW]at h;refine List.nodup_cons.2 ⟨fun d=> ?_,Hq h.2⟩;have:acB l i=true:=List.any_eq_true.2 ⟨i,d,by simp⟩;simp_all
theorem aaw {hp:iw} {b:Bool}: ∀(cs:List (Ty×Bool)) (cells:List bZ) {x},kS hp b cs cells=a6 x-> ∀n,(jA cs n).length=(qL cs cells).length:=by
 intro cs
 induction cs with
 |nil=>intro cells x h n;cases cells<;>rfl
 |cons tc cs f=>
  intro cells x h n;obtain⟨t,o⟩:=tc;cases cells with
  |nil=>simp_all [kS]
  |cons v cells=>
   cases o with
   |false=>
    simp only[kS]at h;rw[cond_eq_ite]at h
    grind [jA,qL]
   |true=>
    cases t with
    |list e=>
     cases v with
     |slc id ver d=>
      cases d with
      |none=>
       simp only[kS]at h;split at h
       .replace h:=dL h;grind [jA,qL]
       .cases h
      |some p=>simp[kS]at h
     |_=>simp[kS]at h
    |_=>simp[kS]at h
theorem IW: ∀(cs:List (Ty×Bool)) (n:Nat),∀p∈jA cs n,n<=p.1
 |[],n,p,h=>by simp[jA]at h
 |(_,true)::cs,n,p,h=>by
  simp only[jA,List.mem_cons]at h;rcases h with rfl|h
  .exact ae _
  .exact aK (Nat.le_succ n) (IW cs (n+1) p h)
 |(_,false)::cs,n,p,h=>IW cs n p h
theorem xX: ∀(cs:List (Ty×Bool)) (n:Nat),((jA cs n).map (·.1)).Nodup
 |[],n=>List.nodup_nil
 |(_,true)::cs,n=>by
  simp only[jA,au];refine List.nodup_cons.2 ⟨fun h=> ?_,xX cs (n+1)⟩;obtain⟨p,d,e⟩:=List.mem_map.1 h;have:=IW cs (n+1) p d;omega
 |(_,false)::cs,n=>xX cs n
theorem aao {hp:iw} {b:Bool}: ∀(cs:List (Ty×Bool)) (cells:List bZ) (d:List (Nat×Nat)) {x},kS hp b cs cells=a6 x->d.length=(qL cs cells).length-> ∀g o,(g,o)∈wM cs d x->
  ∃(k i v j:Nat) (e:Ty) (xs:List e.den),(qL cs cells)[k]? =a6 (i,v)/\d[k]? =a6 (g,j)/\o=.arr e j xs/\dW hp i=a6 (.arr e v xs)/\(.list e,true)∈cs:=by
 intro cs
 induction cs with
 |nil=>simp_all [wM]
 |cons tc cs u=>
  intro cells d x h q g o f;obtain⟨t,y⟩:=tc;cases cells with
  |nil=>simp_all [kS]
  |cons v cells=>
   cases y with
   |false=>
    simp only[kS]at h;rw[cond_eq_ite]at h
    grind [qL,wM]
   |true=>
    cases t with
    |list e=>
     cases v with
     |slc id ver z=>
      cases z with
      |none=>
       simp only[kS]at h;split at h
       .rename_i N s xs A
        replace h:=dL h;obtain⟨l,h⟩:=h;have l:s=ver:=by simpa using l
        subst l;split at h
        .rename_i B m
         split at h
         .rename_i O D
          cases h;have E:=jb m;cases E;rw[ik]at m;cases m;cases d with
          |nil=>simp[qL]at q
          |cons p d=>
           obtain⟨S,G⟩:=p;simp only[wM,List.mem_cons]at f;rcases f with f|f
           .cases f;exact⟨0,id,s,G,_,B,by simp[qL],by simp,rfl,A,by simp⟩
           .obtain⟨k,i,v,j,e,xs,I,J,K,L,M⟩:=u cells d D (by simpa [qL] using q) g o f;exact⟨k+1,i,v,j,e,xs,by simpa [qL] using I,by simpa using J,K,L,aj _ M⟩
         .cases h
        .cases h
       .cases h
      |some p=>simp[kS]at h
     |_=>simp[kS]at h
    |_=>simp[kS]at h
theorem acP {hp:iw} {b:Bool}: ∀(cs:List (Ty×Bool)) (cells:List bZ) (d:List (Nat×Nat)) {x},kS hp b cs cells=a6 x-> ∀(k i v f g:Nat),(qL cs cells)[k]? =a6 (i,v)->d[k]? =a6 (f,g)->
  ∃e xs,dW hp i=a6 (.arr e v xs)/\(f,dV.arr e g xs)∈wM cs d x:=by
 intro cs
 induction cs with
 |nil=>simp_all [qL]
 |cons tc cs A=>
  intro cells d x h k i v f g o j;obtain⟨t,q⟩:=tc;cases cells with
  |nil=>simp_all [kS]
  |cons u cells=>
   cases q with
   |false=>
    simp only[kS]at h;rw[cond_eq_ite]at h
    grind [qL,wM]
   |true=>
    cases t with
    |list e=>
     cases u with
     |slc id ver s=>
      cases s with
      |none=>
       simp only[kS]at h;split at h
       .rename_i B y xs D
        replace h:=dL h;obtain⟨l,h⟩:=h;have l:y=ver:=by simpa using l
        subst l;split at h
        .rename_i E m
         split at h
         .rename_i G I
          cases h;have z:=jb m;cases z;rw[ik]at m;cases m;cases d with
          |nil=>simp at j
          |cons p d=>
           obtain⟨J,K⟩:=p;cases k with
           |zero=>
            simp only[qL,List.getElem?_cons_zero,Option.some.injEq,Prod.mk.injEq]at o j;obtain⟨rfl,rfl⟩:=o;obtain⟨rfl,rfl⟩:=j
            grind [wM]
           |succ k=>
            grind [qL,wM]
         .cases h
        .cases h
       .cases h
      |some p=>simp[kS]at h
     |_=>simp[kS]at h
    |_=>simp[kS]at h
theorem afV {c':Cx} {b:Bool}: ∀(cs:List (Ty×Bool)) (cells:List bZ) (f:List (Nat×Nat)) {x} (vs:List Value),kS c.hp b cs cells=a6 x->bQ c cells vs->f.length=(qL cs cells).length->
  (∀(k i v l m:Nat),(qL cs cells)[k]? =a6 (i,v)->f[k]? =a6 (l,m)-> ∀e xs,dW c.hp i=a6 (.arr e v xs)->dW c'.hp l=a6 (.arr e m xs)/\(c'.mu l).v=(c.mu i).v)->
  (∀t v x u,(t,false)∈cs->(b=true->oH v=false\/t.rigid=true)->(∀i∈refs v,i∈wQ cs cells)->v.as c.hp t=a6 x->dh c v u->VD c' t x u)->bQ c' (J5 cs f x) vs:=by
 intro cs
 induction cs with
 |nil=>
  grind [J5,bQ,kS]
 |cons tc cs A=>
  intro cells f x vs h o s g hd;obtain⟨t,I⟩:=tc;cases cells with
  |nil=>simp_all [kS]
  |cons v cells=>
   cases vs with
   |nil=>simp[bQ]at o
   |cons u vs=>
    simp only[bQ]at o;cases I with
    |false=>
     simp only[kS]at h;rw[cond_eq_ite]at h;split at h
     .cases h
     .rename_i S
      split at h
      .rename_i B q
       split at h
       .rename_i J y
        cases h;simp only[J5,bQ,dh];refine⟨hd t v B u (by simp) (fun U=> ?_) (fun i g=>by simp[wQ,g]) q o.1,A cells f vs y o.2 (by simpa [qL] using s) (fun k i v l m d j=>g k i v l m (by simpa [qL] using d) j) fun t v x u d j D=>hd t v x u (aj _ d) j fun i g=>by simp[wQ,D i g]⟩
        grind
       .cases h
      .cases h
    |true=>
     cases t with
     |list e=>
      cases v with
      |slc id ver K=>
       cases K with
       |none=>
        simp only[kS]at h;split at h
        .rename_i V E xs L
         replace h:=dL h;obtain⟨z,h⟩:=h;have z:E=ver:=by simpa using z
         subst z;split at h
         .rename_i B q
          split at h
          .rename_i J y
           cases h;have M:=jb q;cases M;rw[ik]at q;cases q;cases f with
           |nil=>simp[qL]at s
           |cons p f=>
            obtain⟨N,O⟩:=p;simp only[J5,bQ];obtain⟨d,j⟩:=g 0 id E N O (by simp[qL]) (by simp) _ _ L;refine⟨?_,A cells f vs y o.2 (by simpa [qL] using s) (fun k i v l m d j=>g (k+1) i v l m (by simpa [qL] using d) (by simpa using j)) fun t v x u d j D=>hd t v x u (aj _ d) j fun i g=>by simp_all [wQ]⟩;have G:=o.1;simp only[dh]at G ⊢;refine⟨G.1,.inl ⟨_,d⟩,fun t u W X=> ?_⟩;simp_all
          .cases h
         .cases h
        .cases h
       |some p=>simp[kS]at h
      |_=>simp[kS]at h
     |_=>simp[kS]at h
theorem PM: ∀(cs:List (Ty×Bool)) (d:List (Nat×Nat)) (x),List.Sublist ((wM cs d x).map (·.1)) (d.map (·.1)):=by
 intro cs
 induction cs with
 |nil=>grind [wM]
 |cons tc cs f=>
  intro d x;obtain⟨t,o⟩:=tc;cases o with
  |false=>simp_all [wM]
  |true=>
   cases t with
   |list e=>
    cases d with
    |nil=>grind [wM]
    |cons p d=>
     simp_all [wM]
   |_=>simp_all [wM]
theorem RP: ∀(h:iw) (i:Nat) (o:dV),(h.map (·.1)).Nodup->(i,o)∈h->dW h i=a6 o
 |(k,p)::h,i,o,f,d=>by
  simp only[au,List.nodup_cons]at f;rw[fD];rcases List.mem_cons.1 d with e|d
  .cases e;simp
  .have:k≠i:=fun e=>f.1 (e▸List.mem_map.2 ⟨_,d,rfl⟩);rw[aq this];exact RP h i o f.2 d
theorem qf: ∀(l h:iw) (i:Nat),i∉l.map (·.1)->dW (RQ l h) i=dW h i
 |[],h,i,_=>rfl
 |(k,o)::l,h,i,d=>by
  simp only[au,List.mem_cons,not_or]at d;simp only[RQ];rw[qf l _ i d.2,jJ,aq (Ne.symm d.1)]
theorem G7: ∀(l h:iw) (i:Nat) (o:dV),(l.map (·.1)).Nodup->(i,o)∈l->(dW h i).isSome=true->dW (RQ l h) i=a6 o
 |(k,p)::l,h,i,o,d,f,m=>by
  simp only[au,List.nodup_cons]at d;simp only[RQ];rcases List.mem_cons.1 f with e|f
  .have g:=(Prod.mk.inj e).1;have j:=(Prod.mk.inj e).2;subst g j;rw[qf l _ i d.1,jJ,am rfl];cases hg:dW h i with
   |none=>simp_all
   |some q=>rfl
  .refine G7 l _ i o d.2 f ?_
   grind [jJ]
def Zf:List Nat->List Nat->(Nat->Loc)->(Nat->Loc)->Nat->Loc
 |a::e,j::f,d,m,i=>if a=i then d j else Zf e f d m i
 |_,_,_,m,i=>m i
theorem XM {o m:Nat->Loc}: ∀(d f:List Nat) (k a j:Nat),d.Nodup->d[k]? =a6 a->f[k]? =a6 j->Zf d f o m a=o j
 |[],_,k,a,j,_,h,_=>by simp at h
 |_::_,[],k,a,j,_,_,h=>by simp at h
 |p::d,q::f,0,a,j,_,g,i=>by
  simp_all [Zf]
 |p::d,q::f,k+1,a,j,l,g,i=>by
  simp only[List.getElem?_cons_succ]at g i;simp only[List.nodup_cons]at l;have:p≠a:=fun e=>l.1 (e▸List.mem_of_getElem? g);simp only[Zf,aq this];exact XM d f k a j l.2 g i
theorem XN {f m:Nat->Loc}: ∀(d e:List Nat) (i:Nat),i∉d->Zf d e f m i=m i
 |[],_,i,_=>by simp[Zf]
 |_::_,[],i,_=>by simp[Zf]
 |a::d,j::e,i,h=>by
  simp only[List.mem_cons,not_or]at h;simp only[Zf,aq (Ne.symm h.1)];exact XN d e i h.2
def aEe (W0:World) (c:Cx) (s:fZ) (z:((s.cs.map (·.1)).foldr Ty.pair Ty.unit).den×(s.rs.foldr Ty.pair Ty.unit).den):Ending->World->Prop:=fun e f=>
 ∃(d:Cx) (us:List Value) (cells:List bZ),e=.returned (TE us)/\d.w=f/\d.Ok W0/\c.Mono d/\dW d.hp 0=a6 (.box s.bt cells)/\(d.mu 0).blk=(c.mu 0).blk/\
  ((qL s.cs cells).map (·.1)).Nodup/\kS d.hp true s.cs cells=a6 z.1/\ry d s.rs z.2 us
def dQ (P:Program) (g:FuncId) (s:fZ):Prop:=
 ∀(W0:World) (c:Cx) x y z,c.Ok W0->c.mks=[]->c.nxt=0->c.hp=(0,.box s.bt (J5 s.cs (jA s.cs 1) x))::wM s.cs (jA s.cs 1) x-> ∀d:Array Value,bQ c (.ptr 0 0::Np s.ps y) d.toList->s.f x y=a6 z->
  (callFunc g d).run P c.w=.ok (.enter g d) c.w/\Calls P g d c.w (aEe W0 c s z)
theorem Bh: ∀(cs:List (Ty×Bool)) (n:Nat),∀p∈jA cs n,p.2=0
 |[],n,p,h=>by simp[jA]at h
 |(_,true)::cs,n,p,h=>by
  simp only[jA,List.mem_cons]at h;rcases h with rfl|h
  .rfl
  .exact Bh cs (n+1) p h
 |(_,false)::cs,n,p,h=>Bh cs n p h
theorem PU: ∀(d:List Ty) x (us:List Value),ry c d x us->bQ c (Np d x) us
 |[],x,us,h=>by
  simp_all [ry,Np,bQ]
 |t::d,x,us,h=>by
  obtain⟨u,e,rfl,f,g⟩:=h;simp only[Np,bQ,dh];exact⟨f,PU d x.2 e g⟩
theorem ry.move {c' c2:Cx} (e:c2.w=c'.w): ∀(d:List Ty) x (us:List Value),((∀b,c'.free b->c2.free b)\/d.all Ty.rigid=true)->ry c' d x us->ry c2 d x us
 |[],x,us,_,h=>h
 |t::d,x,us,f,h=>by
  obtain⟨u,g,rfl,i,j⟩:=h;refine⟨u,g,rfl,VD.move e (f.imp (fun h=>h) fun h=> ?_) i,ry.move e d x.2 g (f.imp (fun h=>h) fun h=> ?_) j⟩
  all_goals simp_all
theorem aay: ∀(l:List bZ) (v:bZ),v∈l-> ∀i∈refs v,i∈ni l
 |u::l,v,d,i,f=>by
  simp only[ni,List.mem_append];rcases List.mem_cons.1 d with e|d
  .simp_all
  .exact .inr (aay l v d i f)
theorem aL1 {g:FuncId} {s:fZ} (hs:dQ P g s) {id:Nat} {qs:List bZ} {st:St} {K:bZ->St->Option R} (h:s.go id qs st K=a6 r) {a:Act} (hr:ji W0 b0 rd c st a ats) {us:Array Value} (hv:bQ c (.ptr id 0::qs) us.toList)
  (Rr:Ending->World->Prop) (hR: ∀c' z u cc,K z cc=a6 r->ji W0 b0 rd c' cc a ats->dh c' z u->c.Mono c'->Rr (.returned u) c'.w):
  (callFunc g us).run P c.w=.ok (.enter g us) c.w/\Calls P g us c.w Rr:=by
 unfold fZ.go at h;split at h<;>try (cases h;done)
 rename_i t cells ab
 replace h:=dL h;obtain⟨hc,h⟩:=h;simp only[af,Bool.or_eq_true,aW]at hc;obtain⟨ht,⟨ax,aV⟩,ay⟩:=hc;have ht:t=s.bt:=ak ht;subst ht;split at h<;>try (cases h;done)
 rename_i x hx
 split at h<;>try (cases h;done)
 rename_i y hy
 cases hz:s.f x y with
 |none=>rw[hz]at h;cases h
 |some z=>
 rw[hz]at h;simp only[bJ]at h;rw[<-hr.hp]at ab hx hy;have ax:=Hq ax;have aV:=xf aV;generalize ag:qL s.cs cells=own at*;have V:=hr.ok;obtain⟨hB,vs,hw,et,ew⟩:=V.obj id _ ab;have aB: ∀(k i v:Nat),own[k]? =a6 (i,v)-> ∃(e:Ty) (G:List e.den),dW c.hp i=a6 (.arr e v G):=fun k i v hk=>by
  obtain⟨e,G,d,_⟩:=acP s.cs cells own hx k i v i v (by rw[ag];exact hk) hk;exact⟨e,G,d⟩
 have az: ∀p∈own,∃k:Nat,own[k]? =a6 p:=fun p W=>List.getElem?_of_mem W;have cd:id∉own.map (·.1):=fun hm=>by
  obtain⟨p,W,rfl⟩:=List.mem_map.1 hm;obtain⟨k,hk⟩:=az p W;obtain⟨e,G,d⟩:=aB k p.1 p.2 hk;rw[ab]at d;cases d
 let S:Nat->Prop:=fun i=>i=id\/i∈own.map (·.1)
 have ex: ∀i,S i-> ∃o,dW c.hp i=a6 o/\ ∀f fr ps asg bd ky n p,o≠ .lp f fr ps asg bd ky n p:=fun i q=>by
  rcases q with rfl|q
  .exact⟨_,ab,by simp⟩
  .obtain⟨p,W,rfl⟩:=List.mem_map.1 q;obtain⟨k,hk⟩:=az p W;obtain⟨e,G,d⟩:=aB k p.1 p.2 hk;exact⟨_,d,by simp⟩
 let aA:Nat->Prop:=fun b=> ∃i o,S i/\dW c.hp i=a6 o/\o.blk (c.mu i)=a6 b
 have aX: ∀b,aA b->c.own b:=fun b ⟨i,o,_,d,l⟩=>⟨i,o,d,l⟩
 let I:Cx:=⟨fun k=>if k=0 then c.mu id else Zf ((jA s.cs 1).map (·.1)) (own.map (·.1)) c.mu c.mu k,(0,.box s.bt (J5 s.cs (jA s.cs 1) x))::wM s.cs (jA s.cs 1) x,0,c.w,[],fun b=>s.rigid=false/\b<c.w.heap.size/\ ¬c.free b/\ ¬aA b⟩
 have aY:(jA s.cs 1).length=own.length:=by rw[<-ag];exact aaw s.cs cells hx 1
 have ah: ∀(k i v M:Nat),own[k]? =a6 (i,v)->(jA s.cs 1)[k]? =a6 (M,0)->M≠0/\I.mu M=c.mu i:=fun k i v M d l=>by
  have N:=IW s.cs 1 _ (List.mem_of_getElem? l);refine⟨by simp at N;omega, ?_⟩;have X:M≠0:=by simp at N;omega
  simp only[I,aq X];exact XM _ _ k M i (xX s.cs 1) (by rw[List.getElem?_map,l];rfl) (by rw[List.getElem?_map,d];rfl)
 have aF: ∀(M:Nat) (o:dV),dW I.hp M=a6 o->(M=0/\o=.box s.bt (J5 s.cs (jA s.cs 1) x))\/
   ∃(k i v:Nat) (e:Ty) (G:List e.den),own[k]? =a6 (i,v)/\(jA s.cs 1)[k]? =a6 (M,0)/\o=.arr e 0 G/\dW c.hp i=a6 (.arr e v G):=fun M o m=>by
  simp only[I,fD]at m;split at m
  .rename_i e
   cases m;exact .inl ⟨e.symm,rfl⟩
  .right;obtain⟨k,i,v,v',e,G,D,B,Y,J,_⟩:=aao s.cs cells (jA s.cs 1) hx (by rw[ag];exact aY) M o (zQ _ _ _ m);rw[ag]at D;have:=Bh s.cs 1 _ (List.mem_of_getElem? B);simp only at this;subst this;exact⟨k,i,v,e,G,D,B,Y,J⟩
 have aG: ∀b,I.own b->aA b:=fun b ⟨M,o,d,l⟩=>by
  rcases aF M o d with ⟨rfl,rfl⟩|⟨k,i,v,e,G,D,B,rfl,J⟩
  .exact⟨id,_,.inl rfl,ab,by simpa [I,dV.blk] using l⟩
  .rw[(ah k i v M D B).2]at l;exact⟨i,_,.inr (List.mem_map.2 ⟨_,List.mem_of_getElem? D,rfl⟩),J,l⟩
 have ch: ∀b,c.free b->I.free b/\I.w.heap[b]? =c.w.heap[b]? :=fun b E=>⟨⟨E.1,fun m=>E.2.1 (aX b (aG b m)),by simp[I],fun aZ=>aZ.2.2.1 E⟩,rfl⟩;have conv: ∀(t:Ty) (v:bZ) (x:t.den) (u:Value),(∀i ai vw,v=.slc i ai vw->s.rigid=true/\i≠id/\i∉own.map (·.1))->v.as c.hp t=a6 x->dh c v u->VD I t x u:=fun t v x u eL d l=>by
  refine aiM V ch (fun i ai vw ad o b N X=> ?_) d l;obtain⟨h5,h6,h7⟩:=eL i ai vw ad;refine⟨⟨((V.obj i o N).lt X).2,fun m=> ?_,by simp[I],fun aZ=>by have:=aZ.1;rw[h5]at this;cases this⟩,rfl⟩;obtain⟨j,Z,hj,h8,h9⟩:=aG b m;have:=V.inj i j o Z b N h8 X h9;subst this;rcases hj with hj|hj
  .exact h6 hj
  .exact h7 hj
 have cn: ∀i,i∈ni qs++wQ s.cs cells->i≠id/\i∉own.map (·.1):=fun i q=>by
  have:=aV i q;simp only[List.mem_cons,not_or]at this;exact this
 have fd:I.Ok W0:=by
  refine⟨V.bel,fun M o m=> ?_,fun i j o p b d l N X=> ?_,fun r hr=>by simp[I]at hr,fun b E=>⟨E.2.1,fun m=>E.2.2.2 (aG b m),by simp[I]⟩,V.phi⟩
  .rcases aF M o m with ⟨rfl,rfl⟩|⟨k,i,v,e,G,D,B,rfl,J⟩
   .refine⟨by simpa [I] using hB,vs,by simpa [I] using hw, ?_,ew⟩;refine afV s.cs cells (jA s.cs 1) vs.toList hx et (by rw[ag];exact aY) (fun k i v M v' D B e G Y=> ?_) fun t v x u D B Y J q5=>conv t v x u (fun i ai vw ad=> ?_) J q5
    .rw[ag]at D;have cv:=Bh s.cs 1 _ (List.mem_of_getElem? B);simp only at cv;subst cv;obtain⟨h6,h7⟩:=ah k i v M D B;refine⟨?_,by rw[h7]⟩;obtain⟨e2,gj,h8,h9⟩:=acP s.cs cells (jA s.cs 1) hx k i v M 0 (by rw[ag];exact D) B;rw[Y]at h8;cases h8;have dW:=RP _ _ _ (List.Sublist.nodup (PM s.cs (jA s.cs 1) x) (xX s.cs 1)) h9;simp only[I,fD,aq (Ne.symm h6)];exact dW
    .subst ad;obtain⟨h6,h7⟩:=cn i (bC _ (Y i (by simp[refs])));refine⟨?_,h6,h7⟩;cases hrg2:s.rigid with
     |true=>rfl
     |false=>
      rcases B (by rw[hrg2];rfl)with h8|h8
      .simp[oH]at h8
      .cases t<;>simp[Ty.rigid]at h8<;>simp[bZ.as]at J
   .obtain⟨bf,el,zs,w1,w2,w3⟩:=V.obj i _ J;refine⟨bf,el,zs,by rw[(ah k i v M D B).2];exact w1,gK.mono (fV.mono ch e) _ _ w2,w3⟩
  .rcases aF i o d with ⟨rfl,rfl⟩|⟨k,i1,v,e,G,D,B,rfl,J⟩<;>rcases aF j p l with ⟨rfl,rfl⟩|⟨k',i2,v',e',aH,al,an,rfl,aI⟩
   .rfl
   .rw[(ah k' i2 v' j al an).2]at X;have:=V.inj id i2 _ _ b ab aI (by simpa [I,dV.blk] using N) X;subst this;rw[ab]at aI;cases aI
   .rw[(ah k i1 v i D B).2]at N;have:=V.inj id i1 _ _ b ab J (by simpa [I,dV.blk] using X) N;subst this;rw[ab]at J;cases J
   .rw[(ah k i1 v i D B).2]at N;rw[(ah k' i2 v' j al an).2]at X;have:=V.inj i1 i2 _ _ b J aI N X;subst this;have bg:k=k':=by
     have e1:(own.map (·.1))[k]? =a6 i1:=by rw[List.getElem?_map,D];rfl
     have e2:(own.map (·.1))[k']? =a6 i1:=by rw[List.getElem?_map,al];rfl
     exact(List.getElem?_inj (List.getElem?_eq_some_iff.1 e1).1 ax).1 (e1.trans e2.symm)
    subst bg;rw[B]at an;cases an;rfl
 obtain⟨us⟩:=us;cases us with
 |nil=>simp[bQ]at hv
 |cons u0 us=>
 simp only[bQ]at hv;obtain⟨bi,fi⟩:=hv;have fl:bQ I (.ptr 0 0::Np s.ps y) (u0::us):=by
  simp only[bQ];refine⟨?_,PU s.ps y us (DF s.ps qs y us hy fi fun t v x u hm d l=>conv t v x u (fun i ai vw ad=> ?_) d l)⟩
  .simp only[dh]at bi ⊢;exact⟨bi.1,.inl ⟨_,by simp[I,fD];rfl⟩,fun t' gk _=>by simpa [I] using bi.2.2 _ _ ab⟩
  .subst ad;have fo:i∈ni qs:=aay _ _ hm i (by simp[refs]);obtain⟨h6,h7⟩:=cn i (bD _ fo);refine⟨?_,h6,h7⟩;rcases ay with ay|ay
   .exact ay
   .have:=List.any_eq_false.1 ay _ hm;simp[oH]at this
 obtain⟨fs,ft⟩:=hs W0 I x y z fd rfl rfl rfl ⟨u0::us⟩ fl hz;refine⟨fs,ft.mono ?_⟩;rintro e w' ⟨O,dd,ao,rfl,rfl,av,bn,df,fv,fA,aJ,fI⟩
 let U:List (Nat×Nat):=own.map fun p=>(p.1,p.2+1)
 generalize aO:qL s.cs ao=own1 at*
 let A:Cx:=⟨fun i=>if i=id then c.mu id else Zf (own.map (·.1)) (own1.map (·.1)) O.mu c.mu i,jB (RQ (wM s.cs U z.1) c.hp) id (.box s.bt (J5 s.cs U z.1)),c.nxt,O.w,c.mks,c.bar⟩
 have dl:own1.length=own.length:=by rw[<-aO,<-aaw s.cs ao aJ 1,aY]
 have dp:U.length=(qL s.cs ao).length:=by rw[aO];simp[U,dl]
 have ds:(U.map (·.1))=own.map (·.1):=by simp[U,List.map_map,Function.comp_def]
 have fN:((wM s.cs U z.1).map (·.1)).Nodup:=List.Sublist.nodup (PM s.cs U z.1) (by rw[ds];exact ax);have br: ∀i,i∈(wM s.cs U z.1).map (·.1)->i∈own.map (·.1):=fun i q=>by
  have:=(PM s.cs U z.1).subset q;rwa [ds]at this
 have aP: ∀(k i v:Nat),own[k]? =a6 (i,v)-> ∃(j w:Nat) (e:Ty) (G:List e.den),own1[k]? =a6 (j,w)/\dW O.hp j=a6 (.arr e w G)/\dW A.hp i=a6 (.arr e (v+1) G)/\A.mu i=O.mu j/\(.list e,true)∈s.cs:=fun k i v hk=>by
  have fR:k<own1.length:=by rw[dl];exact(List.getElem?_eq_some_iff.1 hk).1
  obtain⟨⟨j,w⟩,hj⟩: ∃p,own1[k]? =a6 p:=⟨_,List.getElem?_eq_getElem fR⟩;have fS:U[k]? =a6 (i,v+1):=by simp[U,List.getElem?_map,hk]
  obtain⟨e,G,d,l⟩:=acP s.cs ao U aJ k j w i (v+1) (by rw[aO];exact hj) fS;obtain⟨k',i1,v1,v2,e',aH,D,B,Y,J,q5⟩:=aao s.cs ao U aJ dp i _ l;have fT:i∈own.map (·.1):=List.mem_map.2 ⟨_,List.mem_of_getElem? hk,rfl⟩;have dE:id≠i:=fun e=>cd (e▸fT);obtain⟨e0,fW,h0⟩:=aB k i v hk;refine⟨j,w,e,G,hj,d, ?_, ?_, ?_⟩
  .simp only[A];rw[jJ,aq dE];exact G7 _ _ _ _ fN l (by rw[h0];rfl)
  .simp only[A,aq (Ne.symm dE)];exact XM _ _ k i j ax (by rw[List.getElem?_map,hk];rfl) (by rw[List.getElem?_map,hj];rfl)
  .cases Y;exact q5
 have bz:dW A.hp id=a6 (.box s.bt (J5 s.cs U z.1)):=by
  simp only[A];rw[jJ,am rfl,qf _ _ _ fun h=>cd (br id h),ab];rfl
 have aQ:A.mu id=c.mu id:=by simp[A]
 have dT:(O.mu 0).blk=(c.mu id).blk:=by rw[fv];simp[I]
 have aS: ∀(i:Nat) (Z:dV),S i->dW A.hp i=a6 Z-> ∃j o1,dW O.hp j=a6 o1/\o1.blk (O.mu j)=Z.blk (A.mu i)/\((i=id/\j=0/\o1=.box s.bt ao)\/ ∃(k v w:Nat),own[k]? =a6 (i,v)/\own1[k]? =a6 (j,w)/\ ∃(e:Ty) (G:List e.den),o1=.arr e w G):=fun i Z q m=>by
  rcases q with rfl|q
  .rw[bz]at m;cases m;exact⟨0,_,df,by simp[dV.blk,aQ,dT],.inl ⟨rfl,rfl,rfl⟩⟩
  .obtain⟨p,W,rfl⟩:=List.mem_map.1 q;obtain⟨k,hk⟩:=az p W;obtain⟨j,w,e,G,D,B,Y,J,_⟩:=aP k p.1 p.2 hk;rw[Y]at m;cases m;exact⟨j,_,B,by simp only[dV.blk];rw[J],.inr ⟨k,p.2,w,hk,D,e,G,rfl⟩⟩
 have ea: ∀b,b<c.w.heap.size-> ¬aA b->O.out b/\O.w.heap[b]? =c.w.heap[b]? :=fun b E hn=>bn.out b ⟨E,fun m=>hn (aG b m),by simp[I]⟩;obtain⟨ee,fX⟩:=Cx.many (c2:=A) V S rfl rfl rfl (fun i q=>by
   have d:i≠id:=fun e=>q (.inl e);have l:i∉own.map (·.1):=fun e=>q (.inr e);refine⟨?_,by simp only[A,aq d];exact XN _ _ _ l⟩;simp only[A];rw[jJ,aq (Ne.symm d),qf _ _ _ fun h=>l (br i h)])
  (fun i q=>by
   rcases q with rfl|q
   .exact⟨_,_,ab,bz,by simp[dV.like,aQ],by simp⟩
   .obtain⟨p,W,rfl⟩:=List.mem_map.1 q;obtain⟨k,hk⟩:=az p W;obtain⟨j,w,e,G,D,B,Y,J,_⟩:=aP k p.1 p.2 hk;obtain⟨e0,fW,h0⟩:=aB k p.1 p.2 hk;exact⟨_,_,h0,Y,⟨by omega,fun e=>by omega⟩,by simp⟩)
  av.bel bn.size (fun b E hn=>(ea b E fun⟨i,o,d,l,N⟩=>hn i o d l N).2)
  (fun i Z b q m E=>by
   by_cases hlt:b<c.w.heap.size
   .right;refine Classical.byContradiction fun hn=> ?_;obtain⟨j,o1,d,l,_⟩:=aS i Z q m;exact(ea b hlt fun⟨j,o,N,X,h5⟩=>hn ⟨j,o,N,X,h5⟩).1.2.1 ⟨j,o1,d,l.trans E⟩
   .left;omega)
  (fun i M Z p' b q fY m W E ga=>by
   obtain⟨j,o1,d,l,N⟩:=aS i Z q m;obtain⟨j',gb,aw,aU,eq⟩:=aS M p' fY W;have hj:=av.inj j j' o1 gb b d aw (l.trans E) (aU.trans ga);subst hj;rw[d]at aw;cases aw;rcases N with ⟨rfl,rfl,rfl⟩|⟨k,v,w,D,B,e,G,rfl⟩
   .rcases eq with ⟨rfl,_⟩|⟨k',v',w',al,an,e',aH,he⟩
    .rfl
    .cases he
   .rcases eq with ⟨_,_,he⟩|⟨k',v',w',al,an,e',aH,he⟩
    .cases he
    .have bg:k=k':=by
      have e1:(own1.map (·.1))[k]? =a6 j:=by rw[List.getElem?_map,B];rfl
      have e2:(own1.map (·.1))[k']? =a6 j:=by rw[List.getElem?_map,an];rfl
      exact(List.getElem?_inj (List.getElem?_eq_some_iff.1 e1).1 fA).1 (e1.trans e2.symm)
     subst bg;rw[D]at al;cases al;rfl)
  (fun b L i o q m E=>by
   obtain⟨o2,d,l⟩:=ex i q;rw[m]at d;cases d;exact(V.obj i o m).no_loop l E)
 have bF:s.rigid=true\/ ∀b,O.free b->A.free b:=by
  cases hrg2:s.rigid with
  |true=>exact .inl rfl
  |false=>
   right;intro b E;have bG: ∀b,b<c.w.heap.size-> ¬c.free b-> ¬aA b-> ¬O.free b:=fun b d l N hf=>hf.2.2.2 (by rw[bn.bar];exact⟨hrg2,d,l,N⟩);refine⟨E.1, ?_,fun hm=> ?_,fun hm=> ?_⟩
   .rintro ⟨i,Z,d,l⟩;by_cases q:S i
    .obtain⟨j,o1,N,X,_⟩:=aS i Z q d;exact E.2.1 ⟨j,o1,N,X.trans l⟩
    .have aw:i≠id:=fun e=>q (.inl e);have aU:i∉own.map (·.1):=fun e=>q (.inr e);simp only[A]at d l;rw[jJ,aq (Ne.symm aw),qf _ _ _ fun h=>aU (br i h)]at d;rw[aq aw,XN _ _ _ aU]at l;refine bG b ((V.obj i Z d).lt l).2 (fun hf=>hf.2.1 ⟨i,Z,d,l⟩) ?_ E;rintro ⟨j,o,hj,N,X⟩;have:=V.inj i j Z o b d N l X;subst this;exact q hj
   .exact bG b (V.mark_lt hm) (fun hf=>hf.2.2.1 hm) (fun m=>V.mark_own hm (aX b m)) E
   .exact bG b (V.bar b hm).1 (fun hf=>hf.2.2.2 hm) (fun m=>(V.bar b hm).2.1 (aX b m)) E
 have bH:s.rigid=true->(∀p∈s.cs,p.1.rigid=true\/p.2=true/\p.1.elem.rigid=true)/\s.rs.all Ty.rigid=true:=fun h=>by
  simp only[fZ.rigid,af]at h;exact⟨fun p W=>by have:=List.all_eq_true.1 h.1 p W;simpa using this,h.2⟩
 have gd:A.Ok W0:=fX fun i Z q m=>by
  rcases q with rfl|q
  .rw[bz]at m;cases m;obtain⟨gl,es,ge,gf,gg⟩:=av.obj 0 _ df;refine⟨by rw[aQ];exact hB,es,by rw[aQ,<-dT];exact ge, ?_,gg⟩;refine afV s.cs ao U es.toList aJ gf dp (fun k j w i v D B e G Y=> ?_) fun t v x u D B Y J q5=> ?_
   .rw[aO]at D;have hk: ∃v0,own[k]? =a6 (i,v0)/\v=v0+1:=by
     simp only[U,List.getElem?_map,Option.map_eq_some_iff]at B;obtain⟨p,gh,gi⟩:=B;cases gi;exact⟨p.2,gh,rfl⟩
    obtain⟨v0,hk,rfl⟩:=hk;obtain⟨j',w',e',aH,p1,p2,p3,p4,_⟩:=aP k i v0 hk;rw[D]at p1;cases p1;rw[Y]at p2;cases p2;exact⟨p3,by rw[p4]⟩
   .rcases bF with hf|hf
    .have ht:t.rigid=true:=by
      rcases(bH hf).1 (t,false) D with h|h
      .exact h
      .cases h.1
     cases m:oH v with
     |false=>exact VD.move (c':=O) (c2:=A) rfl (.inr ht) (Na (cb:=O) (fun b E=>⟨E,rfl⟩) m J q5)
     |true=>
      refine VD.move (c':=O) (c2:=A) rfl (.inr ht) (aiM (cb:=O) av (fun b E=>⟨E,rfl⟩) (fun i ai vw ad=> ?_) J q5);subst ad;cases t<;>simp[Ty.rigid]at ht<;>simp[bZ.as]at J
    .refine VD.move (c':=O) (c2:=A) rfl (.inl hf) (aiM (cb:=O) av (fun b E=>⟨E,rfl⟩) (fun i ai vw ad=> ?_) J q5);subst ad;rcases B rfl with h8|h8
     .simp[oH]at h8
     .cases t<;>simp[Ty.rigid]at h8<;>simp[bZ.as]at J
  .obtain⟨p,W,rfl⟩:=List.mem_map.1 q;obtain⟨k,hk⟩:=az p W;obtain⟨j,w,e,G,D,B,Y,J,q5⟩:=aP k p.1 p.2 hk;rw[Y]at m;cases m;obtain⟨bf,el,zs,w1,w2,w3⟩:=av.obj j _ B;refine⟨bf,el,zs,by rw[J];exact w1,gK.move (c':=O) (c2:=A) rfl ?_ w2,w3⟩;rcases bF with hf|hf
   .right;rcases(bH hf).1 _ q5 with h|h
    .simp[Ty.rigid]at h
    .exact h.2
   .exact .inl hf
 have hd:Gv W0 c st A {st with hp:=jB (RQ (wM s.cs U z.1) st.hp) id (.box s.bt (J5 s.cs U z.1))}:=⟨by simp[A,hr.hp],hr.nxt,rfl,rfl,gd,ee⟩;exact hR A _ _ _ h (hr.did hd) (Ej (PU s.rs z.2 dd (ry.move (c':=O) (c2:=A) rfl s.rs z.2 dd (bF.symm.imp (fun h=>h) fun h=>(bH h).2) fI))) ee.mono
theorem agl {cl:Bool}: ∀(cs:List (Ty×Bool)) (n:Nat) (cells:List bZ) (st:St) (K:List bZ->St->Option R),vM cl n cs cells st K=a6 r-> ∀(c:Cx) (vs:List Value),c.Ok W0->c.hp=st.hp->c.nxt=st.nxt->bQ c cells vs->
  ∃c' d f,Gv W0 c st c' d/\c'.w=c.w/\bQ c' f vs/\K f d=a6 r/\ ∀i o,dW st.hp i=a6 o->dW d.hp i=a6 o:=by
 have plain: ∀(cells:List bZ) (st:St) (K:List bZ->St->Option R),K cells st=a6 r-> ∀(c:Cx) (vs:List Value),c.Ok W0->c.hp=st.hp->c.nxt=st.nxt->bQ c cells vs->
   ∃c' d f,Gv W0 c st c' d/\c'.w=c.w/\bQ c' f vs/\K f d=a6 r/\ ∀i o,dW st.hp i=a6 o->dW d.hp i=a6 o:=
  fun cells st K h c vs j m p g=>⟨c,st,cells,Gv.refl j m p,rfl,g,h,fun i o h=>h⟩
 intro cs
 induction cs with
 |nil=>intro n cells st K h;cases cells<;>exact plain _ st K h
 |cons tc cs E=>
  intro n cells st K h c vs j m p g;cases cells with
  |nil=>exact plain _ st K (by obtain⟨t,o⟩:=tc;cases o<;>cases t<;>simpa only[vM] using h) c vs j m p g
  |cons v cells=>
   cases vs with
   |nil=>simp[bQ]at g
   |cons u vs=>
    have s:vM cl (n+1) cs cells st (fun l st=>K (v::l) st)=a6 r-> ∃c' d f,Gv W0 c st c' d/\c'.w=c.w/\bQ c' f (u::vs)/\K f d=a6 r/\ ∀i o,dW st.hp i=a6 o->dW d.hp i=a6 o:=fun h=>by
     simp only[bQ]at g;obtain⟨c',d,f,hd,x,z,A,hp⟩:=E (n+1) cells st _ h c vs j m p g.2;exact⟨c',d,v::f,hd,x,by simp only[bQ];exact⟨dh.le hd.le _ _ g.1,z⟩,A,hp⟩
    obtain⟨t,o⟩:=tc;cases o with
    |false=>exact s (by simpa only[vM] using h)
    |true=>
     cases t with
     |list e=>
      cases v with
      |nils=>
       simp only[vM]at h;replace h:=dL h;obtain⟨B,h⟩:=h;have B:0<e.size:=by simpa [TC] using B
       obtain⟨id,S,G,J,L,h⟩:=jD h;simp only[bQ]at g;have I:=g.1;simp only[dh]at I;subst I;obtain⟨M,q,N,O⟩:=ui j m p G J L (y:=e) B (xs:=[]) (v:=.slice a7 0 0) (w:=c.w) (Below.refl _ _) qX [] ⟨by simp,.inl ⟨rfl,rfl⟩⟩ (by simp[gK]) rfl (fun _=>rfl);obtain⟨c',d,f,hd,x,z,A,hp⟩:=E (n+1) cells _ _ h M vs q.ok q.hp q.nxt (bQ.le q.le _ _ g.2);refine⟨c',d,.slc id 0 a7::f,q.trans hd,x.trans N,by simp only[bQ];exact⟨dh.le hd.le _ _ O,z⟩,A,fun i o D=>hp i o ?_⟩;have:id≠i:=fun e=>by subst e;rw[G]at D;cases D
       simp only[fD,aq this];exact D
      |_=>exact s (by simpa only[vM] using h)
     |_=>exact s (by simpa only[vM] using h)
theorem aKm {g:FuncId} {s:fZ} (V:dQ P g s) (cl:Bool) (n:Nat):nX (R:=R) P W0 n (Rj g s cl):=by
 intro b0 rd W X ay st K r h c a ats az j f G Y o next Q Z
 cases W with
 |fn g' ab=>
  simp only[Rj]at h;split at h
  .rename_i hg
   subst hg;simp only[dh]at G;obtain⟨l,rfl,ad⟩:=G;have I:=bQ.append_arr Y ad;have ag: ∀p:Ending->World->Prop,(∀d z u i,K z i=a6 r->ji W0 b0 rd d i a ats->dh d z u->c.Mono d->p (.returned u) d.w)->
     (callFunc g' (j++l)).run P c.w=.ok (.enter g' (j++l)) c.w/\Calls P g' (j++l) c.w p:=by
    intro p ah;generalize X++ab=al at h I;unfold fZ.call at h;split at h<;>try (cases h;done)
    rename_i id qs
    split at h<;>try (cases h;done)
    rename_i t cells q
    rw[cond_eq_ite]at h;split at h
    .rw[<-f.hp]at q;obtain⟨hB,J,hw,ai,an⟩:=f.ok.obj id _ q;obtain⟨d,i,x,hd,aA,ao,hK,M⟩:=agl s.cs _ cells st _ h c J.toList f.ok f.hp f.nxt ai;have m:=f.did hd;have A:dW d.hp id=a6 (.box t cells):=by rw[m.hp];exact M id _ (by rw[<-f.hp];exact q)
     obtain⟨o1,y,B⟩:=hd.le.obj id _ (.inl ⟨_,q⟩) A;rw[q]at y;cases y;simp only[dV.like]at B;have N:dV.like (.box t cells) (d.mu id) (.box t x) (d.mu id):=rfl;have O: ∀b,(dV.box t x).blk (d.mu id)=a6 b->(dV.box t cells).blk (d.mu id)=a6 b\/d.w.heap.size<=b:=fun b hb=>.inl hb;have S: ∀(b:Nat) (L:Loop),(dV.box t cells).blk (d.mu id)=a6 b->d.w.heap[b]? =a6 (Obj.loop L)-> ∃L':Loop,d.w.heap[b]? =a6 (Obj.loop L'):=fun b L _ hL=>⟨L,hL⟩;have U:=Cx.Le.put (w:=d.w) m.ok A N (ae _) (fun b _ _=>rfl) O S;have av:Gv W0 d i (d.put id (.box t x) (d.mu id) d.w) {i with hp:=jB i.hp id (.box t x)}:=by
      refine⟨by simp only[Cx.put];rw[m.hp],m.nxt,rfl,rfl,Cx.Ok.put m.ok A N m.ok.bel (ae _) (fun b _ _=>rfl) O S ?_,U⟩;refine⟨by simp_all [Cx.put,upd_same],J,by simp_all [Cx.put,upd_same],bQ.le U _ _ ao,an⟩
     have D:=hd.trans av;have hG:=aL1 V hK (f.did D) (bQ.le D.le _ _ I) p fun c3 z u aw k1 k2 k3 k4=>ah c3 z u aw k1 k2 k3 (D.le.mono.trans k4);change (callFunc g' (j++l)).run P d.w=.ok (.enter g' (j++l)) d.w/\Calls P g' (j++l) d.w p at hG;simp_all
    grind [aL1]
   obtain⟨y,B⟩:=ag (fun e E=>match e with
     |.returned v=>next (a.put o.dst v) E
     |.panicked ax=>Q (.panic ax) a E
     |.outgrown=>LetsOut Q) (fun d z u i k1 k2 k3 k4=>Z d z u i k1 k2 k3 k4)
   rw[uO,y];exact⟨wI rd,(DI B).mono fun e E he=>by cases e<;>exact he⟩
  .cases h
 |_=>simp[Rj]at h
end
end
section
open Option renaming some → a6, none → a7
open Bool renaming and_eq_true → af
open List renaming length_cons → aG
open Nat renaming le_trans → aK, lt_of_lt_of_le → bu
open Go.RowKit
section
variable {P:Program} {T:TT} {W0:World} {b0:Nat} {rd:Option Nat} {R:Type} {r:R} {c:Cx} {ats:List (Array Value)}
theorem aNp {g:FuncId} {s:Sum} (hs:dU P g s) (cl:Bool) (n:Nat):nX (R:=R) P W0 n (IB g s cl):=by
 intro b0 rd fv aQ aS st K r h c a ats aU ab i ad al o next Q hn
 cases fv with
 |fn g' aV=>
  simp only[IB]at h;split at h
  .rename_i hg
   subst hg;simp only[dh]at ad;obtain⟨vs,rfl,an⟩:=ad;have ae:=bQ.append_arr al an;obtain⟨I,x,y,L,hy,A⟩:=ait h;rw[<-i.hp]at L;obtain⟨z,ao,au,av⟩: ∃z:Nat->Prop,(∀b,z b->b<c.w.heap.size)/\ry (lu c.w z) s.ps x (ab++vs).toList/\
     ((s.rs.all fun r=>r.1.rigid||(r.2&&r.1.elem.rigid))=true\/z=fun b=>b<c.w.heap.size/\ ¬c.free b):=by
    rcases I with I|I
    .refine⟨fun _=>False,fun b h=>h.elim,DF s.ps _ x _ L ae fun t v x u _ M A=>alU i.ok (fun b m=>⟨Lc.2 ⟨m,fun h=>h⟩,rfl⟩) M A,.inl I⟩
    .refine⟨fun b=>b<c.w.heap.size/\ ¬c.free b,fun b h=>h.1,DF s.ps _ x _ L ae fun t v x u hm M A=>Na (fun b m=>⟨Lc.2 ⟨m.1,fun h=>h.2 m⟩,rfl⟩) ?_ M A,.inr rfl⟩
     grind
   have aw: ∀e B,xW c.w z s.rs y e B->(match e with
     |.returned v=>next (a.put o.dst v) B
     |.panicked ax=>Q (.panic ax) a B
     |.outgrown=>LetsOut Q):= ?_
   .rw[uO];rcases hs c.w z (ab++vs) x y i.ok.phiw ao au hy with ⟨N,O⟩|⟨u,N,O⟩
    .rw[N];exact⟨wI rd,(DI O).mono fun e B he=>by
      grind⟩
    .rw[N];exact aw (.returned u) c.w O
   rintro e B ⟨d,us,rfl,rfl,S,ay,aW,aX,U⟩;simp only;have D:J3 c d.w:=S.bel;have ag: ∀(q:Cx),q.w=d.w->(∀b,(c.at_ d.w).free b->d.free b->q.free b)->((s.rs.all fun r=>r.1.rigid||(r.2&&r.1.elem.rigid))=true\/ ∀b,d.free b->q.free b):=fun q hw hf=>by
    rcases av with V|V
    .exact .inl V
    .right;intro b m;exact hf b (aAG i.ok S (ay.trans V) m) m
   rcases A with ⟨aY,ah,W⟩|⟨e,f,id,p,aZ,ah,h5,h6,h7,W⟩
   .have az:=i.ext D;refine hn (c.at_ d.w) _ _ _ W az (Ej ?_) (Cx.Le.ext D).mono;refine JZ (c':=d) (c2:=c.at_ d.w) rfl 0 s.rs y us (fun t ht=> ?_) (.inl ah) U;rcases ag (c.at_ d.w) rfl (fun b h _=>h)with h8|h8
    all_goals grind
   .have aA:=S.obj 0 (.arr e 0 f) (by simp_all [Jr,fD]);obtain⟨aB,el,zs,X,hL,aF⟩:=aA;have hk:=Ee i.hp i.nxt h5 h6;obtain⟨u0,ai⟩:=aiy s.rs y us (by omega) U;simp only[dh]at ai;have Y:dW d.hp 0=a6 (.arr e 0 f):=by simp_all [Jr,fD]
    have aH:(d.mu 0).v.oneCell'=true:=by
     have:=(ai.2.2 _ _ _ Y).2 rfl;simp_all [jy]
    have hl: ∀b,dV.blk (.arr e 0 f) ⟨0,(d.mu 0).v⟩=a6 b->c.w.heap.size<=b:=fun b m=>(World.ownsRow.lt X b m).1;have aj:=Cx.Le.push (o:=.arr e 0 f) (l:=⟨0,(d.mu 0).v⟩) (nxt:=p) (w:=d.w) hk (by rw[i.nxt];exact h7) D.size D.block hl;have bd:=ag (c.push id (.arr e 0 f) ⟨0,(d.mu 0).v⟩ p d.w) rfl (fun b Z aI=>⟨Z.1,(by
     rintro ⟨j,o,J,E⟩;simp only[Cx.push,fD]at J E;split at J
     .rename_i G
      subst G;cases J;rw[upd_same]at E;exact aI.2.1 ⟨0,_,Y,E⟩
     .rename_i G
      rw[upd_ne _ _ (Ne.symm G)]at E;exact Z.2.1 ⟨j,o,J,E⟩),Z.2.2⟩)
    have bf:d.w.ownsRow W0.heap.size el e.size (d.mu 0).v f.length zs:=by
     refine⟨X.1, ?_⟩;rcases X.2 with h|⟨g,aJ,aO,G,e2,e3⟩
     .exact .inl h
     .exact .inr ⟨g,aJ,aO,G,aK i.ok.size e2,e3⟩
    have ho:(c.push id (.arr e 0 f) ⟨0,(d.mu 0).v⟩ p d.w).ORel W0.heap.size id (.arr e 0 f):=by
     refine⟨aB,el,zs,by simp_all [Cx.push,upd_same],gK.move (c':=d) (c2:=c.push id (.arr e 0 f) ⟨0,(d.mu 0).v⟩ p d.w) rfl ?_ hL,aF⟩
     grind [SE]
    have aP:=i.ok.push hk (by rw[i.nxt];exact h7) D hl ho;have hd:Gv W0 c st (c.push id (.arr e 0 f) ⟨0,(d.mu 0).v⟩ p d.w) {st with hp:=(id,.arr e 0 f)::st.hp,nxt:=p}:=⟨by simp[Cx.push,i.hp],rfl,rfl,rfl,aP,aj⟩;refine hn (c.push id (.arr e 0 f) ⟨0,(d.mu 0).v⟩ p d.w) _ _ _ W (i.did hd) (Ej ?_) aj.mono;refine JZ (c':=d) (c2:=c.push id (.arr e 0 f) ⟨0,(d.mu 0).v⟩ p d.w) rfl id s.rs y us (fun t ht=> ?_) (.inr fun u hu=> ?_) U
    .grind
    .simp only[dh]at hu ⊢;have ak:=(hu.2.2 _ _ _ Y).2 rfl;simp only[jy]at ak;subst ak;refine⟨aH,.inl ⟨.arr e 0 f,by simp[Cx.push,fD]⟩,fun t u bg h=> ?_⟩;simp_all [Cx.push,jy,upd_same]
  .cases h
 |_=>simp[IB]at h
theorem Xj: ∀(rs:List (Ty×Bool)),(rs.all fun r=> !r.2&&r.1.rigid)=true->news rs=0
 |[],_=>rfl
 |(t,true)::rs,h=>by simp at h
 |(t,false)::rs,h=>by
  simp only[List.all_cons,af]at h;exact Xj rs h.2
theorem aNo {g:FuncId} {s:Sum} (G:dU P g s) (cl:Bool) (I:(s.rs.all fun r=> !r.2&&r.1.rigid)=true):o9 (R:=R) P (IB g s cl):=by
 intro W0 b0 rd J ab ad st K r h c a ats ae f i z L;cases J with
 |fn g' ag=>
  simp only[IB]at h;split at h
  .rename_i M
   subst M;simp only[dh]at z;obtain⟨j,rfl,N⟩:=z;have O:=bQ.append_arr L N;obtain⟨hc,x,y,A,S,l⟩:=ait h;rw[<-i.hp]at A;rcases l with ⟨ah,U,V⟩|⟨e,xs,id,n',ai,U,_⟩
   .have m:=XO _ (MM 0 s.rs y I);refine⟨_,rv (QI (qQ 0 s.rs y)),V,(MI m _).2 rfl,fun B d=> ?_⟩;have W:ry (lu B fun _=>False) s.ps x (f++j).toList:=DF s.ps _ x _ A O fun t v x u _ X l=>alU i.ok (fun b D=>⟨Lc.2 ⟨bu D d.size,fun h=>h⟩,d.block b D⟩) X l;rcases G B (fun _=>False) (f++j) x y (Phi.below d i.ok.phiw) (fun b h=>h.elim) W S with ⟨o,p⟩|⟨u,o,p⟩
    .refine .inl ⟨g',f++j,by rw[uO,o],p.mono ?_⟩;rintro e aj ⟨Y,us,rfl,rfl,E,ak,al,an,q⟩;exact⟨by rw[(MI m _).1 (Ej q)],d.trans (E.bel.mono d.size)⟩
    .obtain⟨Y,us,Z,_,E,_,_,_,q⟩:=p;cases Z;right;rw[uO,o,(MI m _).1 (Ej q)]
   simp_all [Xj]
  .cases h
 |_=>simp[IB]at h
theorem aD7 {E:Env} (hT:TOk P E.T) (hb: ∀g,E.bf g=true->EE P g) (h: ∀g s,E.sg g=a6 s->dU P g s) (hx: ∀g s,E.sb g=a6 s->dQ P g s):zA P E:=
 ⟨hT,fun R W0 n g s d=>aKm (hx g s d) E.cl n,hb,fun R W0 n g s d=>aNp (h g s d) E.cl n,fun R g s d e=>aNo (h g s d) E.cl e⟩
def IL:(d:List Ty)->(d.foldr Ty.pair Ty.unit).den->List bZ
 |[],_=>[]
 |t::d,x=>.val t x.1::IL d x.2
def frozen (hp:iw):bZ->bZ
 |.val t x=>.val t x
 |.nils=>.nils
 |.slc id ver d=>match dW hp id with
  |some (.arr e v f)=>bif v==ver then .val (.list e) (afE f d)else .undef
  |_=>.undef
 |_=>.undef
def bZ.asR (hp:iw) (own:Bool) (t:Ty) (v:bZ):Option t.den:=bif own then v.as hp t else match v with
 |.agg l=>bif t.isAgg then KC t (l.map (frozen hp))else a7
 |v=>v.as hp t
def jr (own:Bool):(rs:List (Ty×Bool))->List bZ->iw->Option ((rs.map (·.1)).foldr Ty.pair Ty.unit).den
 |[],[],_=>a6 ()
 |(t,false)::rs,v::l,d=>match(bif own&&(oH v&& !t.rigid)then a7 else v.asR d own t),jr own rs l d with
  |some x,a6 y=>a6 (x,y)
  |_,_=>a7
 |(.list e,true)::rs,.slc id ver a7::l,d=>match dW d id with
  |some (.arr t u f)=>bif u==ver then(match lM (.list e) (t':=.list t) f,jr own rs l d with
   |some x,a6 y=>a6 (x,y)
   |_,_=>a7)else a7
  |_=>a7
 |_,_,_=>a7
def J7 (n:Nat) (v:bZ):List bZ:=
 match n,v with
 |1,v=>[v]
 |_,.tup l=>l
 |_,_=>[.undef]
def XQ (E:Env) (g:FuncId) (d:List Ty) (rs:List (Ty×Bool)) (x:(d.foldr Ty.pair Ty.unit).den):Option ((rs.map (·.1)).foldr Ty.pair Ty.unit).den:=
 lX E 1000000 (.call g (IL d x)) ⟨[],[],[],0⟩ fun v st=>jr (!Nat.beq (news rs) 0) rs (J7 rs.length v) st.hp
theorem Ru: ∀(d:List Ty) x (us:List Value),ry c d x us->bQ c (IL d x) us
 |[],x,us,h=>by
  simp_all [ry,IL,bQ]
 |t::d,x,us,h=>by
  obtain⟨u,e,rfl,f,g⟩:=h;simp only[IL,bQ,dh];exact⟨f,Ru d x.2 e g⟩
theorem yO {own:Bool}: ∀(rs:List (Ty×Bool)) (l:List bZ) {hp:iw},(jr own rs l hp).isSome=true->l.length=rs.length
 |[],[],_,_=>rfl
 |[],_::_,_,h=>by simp[jr]at h
 |(t,false)::rs,[],_,h=>by simp[jr]at h
 |(t,false)::rs,v::l,hp,h=>by
  simp only[jr]at h;split at h
  .rename_i d
   simp[yO rs l (hp:=hp) (by rw[d];rfl)]
  .cases h
 |(t,true)::rs,[],_,h=>by simp_all [jr]
 |(t,true)::rs,v::l,hp,h=>by
  cases t with
  |list e=>
   cases v with
   |slc id ver f=>
    cases f with
    |none=>
     simp only[jr]at h;split at h
     .rw[cond_eq_ite]at h;split at h
      .split at h
       .rename_i d
        simp[yO rs l (hp:=hp) (by rw[d];rfl)]
       .cases h
      .cases h
     .cases h
    |some p=>simp[jr]at h
   |_=>simp[jr]at h
  |_=>simp[jr]at h
theorem Io {own:Bool} {v:bZ} {u:Value} {rs:List (Ty×Bool)} {hp:iw} (h:(jr own rs (J7 rs.length v) hp).isSome=true) (d:dh c v u): ∃us,u=TE us/\bQ c (J7 rs.length v) us:=by
 match rs,h with
 |[t],h=>exact⟨[u],rfl,by simpa [J7,bQ] using d⟩
 |[],h=>
  cases v with
  |tup l=>
   simp only[List.length_nil,J7]at h ⊢;cases l with
   |nil=>
    simp only[dh]at d;obtain⟨e,rfl,f⟩:=d;have:e= #[]:=by
     have:=bQ.length _ _ f
     grind
    subst this;exact⟨[],rfl,by simp[bQ]⟩
   |cons _ _=>simp[jr]at h
  |_=>simp[J7,jr]at h
 |g::i::rs,h=>
  cases v with
  |tup l=>
   simp only[dh]at d;obtain⟨e,rfl,f⟩:=d;have m:=bQ.length _ _ f;have o:l.length=(g::i::rs).length:=yO _ _ h;simp only[aG,J7];refine⟨e.toList, ?_,f⟩;cases hvs:e.toList with
   |nil=>simp_all
   |cons v1 j=>
    cases j with
    |nil=>simp_all
    |cons v2 p=>simp only[TE];rw[<-hvs]
  |_=>
   exfalso;have:=yO _ _ h;simp[J7]at this
end
end
section
open Option renaming some → a6, none → a7
open Bool renaming and_eq_true → af
open List renaming map_cons → au, length_map → aO
open Nat renaming le_refl → ae, eq_of_beq_eq_true → ak
open Go.RowKit
structure fK (E:Env):Prop where
 T:TOk E.P E.T
 m:E.P.follows .mixedOrders=true
 ng:MX E.P
 S: ∀g s,E.sg g=a6 s->dU E.P g s
 L:vK E.P E
 R:aiH E
 B: ∀g,E.bf g=true->EE E.P g
 X: ∀g s,E.sb g=a6 s->dQ E.P g s
def aOw (rs:List (Ty×Bool)):Bool:=Nat.ble (news rs) 1&&rs.all fun r=> !r.2||(match r.1 with|.list e=>Nat.blt 0 e.size|_=>false)
section
variable {P:Program} {T:TT} {W0:World} {b0:Nat} {rd:Option Nat} {R:Type} {r:R} {c:Cx} {ats:List (Array Value)}
theorem DL {E:Env} (h:fK E) (m:Nat) (R:Type) (W0:World):xU E.P W0 (lX E m (R:=R)):=
 (LD h.T h.m h.ng rfl rfl (aD7 h.T h.B h.S h.X) h.L h.R m R W0).1
theorem yY {w:World} {e:Nat->Prop} (f:Phi w) (hb: ∀b,e b->b<w.heap.size):ji w 0 a7 (lu w e) ⟨[],[],[],0⟩ ⟨#[],[]⟩ []:=
 ⟨rfl,rfl,⟨Below.refl _ _,fun id o h=>by simp[lu,dW]at h,fun i j o p b h=>by simp[lu,dW]at h,fun r d=>by simp[lu]at d,fun b h=>⟨hb b h,(by rintro ⟨i,o,h,_⟩;simp[lu,dW]at h),by simp[lu]⟩,f⟩,by simp[lu,bQ],trivial,⟨[],rfl,List.nodup_nil,fun r d=>by simp at d⟩,fun l g=>by cases g⟩
theorem aeN {own:Bool} {c':Cx} (m:c'.w=c.w) (hf: ∀b,c.free b->c'.free b) (y:own=false-> ∀b,b<c.w.heap.size-> ¬c.bar b->c'.free b) {t:Ty} {v:bZ} {x:t.den} {u:Value} (s:c.Ok W0)
  (h:(bif own&&(oH v&& !t.rigid)then a7 else v.asR c.hp own t)=a6 x) (d:dh c v u):VD c' t x u:=by
 have o: ∀b,c.free b->c'.free b/\c'.w.heap[b]? =c.w.heap[b]? :=fun b z=>⟨hf b z,by rw[m]⟩;rw[cond_eq_ite]at h;split at h
 .cases h
 rename_i S
 have A: ∀{id g i} {u:Value} {e:Ty} {x:List e.den},own=false->(bZ.slc id g i).as c.hp (.list e)=a6 x->dh c (.slc id g i) u->VD c' (.list e) x u:=fun {id g i u e x} B h d=>by
  obtain⟨a,cp,D,j,p,E⟩:=X9 s h d;have G:=aeY s h d j;exact(VD.leaf rfl).2 ⟨a,cp,D,by rw[j],G,gK.mono (fV.mono o e) _ _ p,E.imp (fun h=>h) fun⟨b,I,J,K,L,M⟩=>⟨b,I,J,y B b K L,M.of_block (by rw[m])⟩⟩
 cases own with
 |true=>
  have h:v.as c.hp t=a6 x:=h;cases ho:oH v with
  |false=>exact Na o ho h d
  |true=>
   cases v with
   |slc id g i=>
    cases t with
    |list e=>grind [Ty.rigid]
    |_=>simp[bZ.as]at h
   |agg l=>
    simp only[bZ.as]at h;rw[cond_eq_ite]at h;split at h
    .rename_i q
     simp only[dh]at d;obtain⟨f,rfl,j,p⟩:=d;exact VD.move m (.inl hf) ((VD.agg q).2 ⟨f,rfl,qJ h j⟩)
    .cases h
   |_=>simp[oH]at ho
 |false=>
  cases v with
  |slc id g i=>
   have h:(bZ.slc id g i).as c.hp t=a6 x:=h;cases t with
   |list e=>grind
   |_=>simp[bZ.as]at h
  |agg l=>
   have h:(bif t.isAgg then KC t (l.map (frozen c.hp))else a7)=a6 x:=h;obtain⟨q,h⟩:=dL h;simp only[dh]at d;obtain⟨f,rfl,j,p⟩:=d;have N: ∀(l:List bZ) (f:List Value),bQ c l f->bQ c' (l.map (frozen c.hp)) f:=by
    intro l
    induction l with
    |nil=>grind [bQ]
    |cons v l O=>intro f h;cases f with
     |nil=>simp[bQ]at h
     |cons u f=>
      simp only[bQ,au]at h ⊢;refine⟨?_,O f h.2⟩;have d:=h.1;cases v with
      |val t x=>
       grind [frozen,dh,VD.move]
      |nils=>assumption
      |slc id g i=>
       simp only[frozen];split
       .rename_i e v U V
        rw[cond_eq_ite];split
        .rename_i W
         simp only[dh];refine A rfl ?_ d;simp_all [bZ.as,EL,ik]
        .simp[dh]
       .simp[dh]
      |_=>simp[frozen,dh]
   exact(VD.agg q).2 ⟨f,rfl,qJ h (N l _ j)⟩
  |_=>
   simp only[bZ.asR,ac]at h;exact Na o rfl h d
theorem aeM {own:Bool} {c':Cx} (f:c.Ok W0) (g:c'.w=c.w) (hf: ∀b,c.free b->c'.free b) (i:own=false-> ∀b,b<c.w.heap.size-> ¬c.bar b->c'.free b): ∀(rs:List (Ty×Bool)) (l:List bZ) (y) (us:List Value),jr own rs l c.hp=a6 y->news rs=0->bQ c l us->bQ c' (qQ 0 rs y) us
 |[],[],y,[],_,_,_=>by simp[qQ,bQ]
 |[],[],_,_::_,_,_,d=>by simp[bQ]at d
 |[],_::_,_,_,h,_,_=>by simp[jr]at h
 |(t,true)::rs,_,_,_,_,e,_=>by simp[news]at e
 |(t,false)::rs,[],_,_,h,_,_=>by simp[jr]at h
 |(t,false)::rs,v::l,y,[],h,_,d=>by simp[bQ]at d
 |(t,false)::rs,v::l,y,u::us,h,e,d=>by
  simp only[jr]at h;split at h
  .rename_i x j m o
   cases h;simp only[bQ]at d;simp only[qQ,bQ,dh];exact⟨aeN g hf i f m d.1,aeM f g hf i rs l j us o (by simpa [news] using e) d.2⟩
  .cases h
theorem aoF (s:c.Ok W0): ∀(rs:List (Ty×Bool)) (l:List bZ) (y) (us:List Value),jr true rs l c.hp=a6 y->news rs=1->bQ c l us->
  ∃(id f:Nat) (e:Ty) (xs:List e.den),dW c.hp id=a6 (.arr e f xs)/\BH rs y=a6 ⟨e,xs⟩/\
   ∀c':Cx,c'.w=c.w->(∀b,c.free b->c'.free b)->c'.hp=[(0,.arr e 0 xs)]->(c'.mu 0).v=(c.mu id).v->bQ c' (qQ 0 rs y) us
 |[],_,_,_,_,g,_=>by simp[news]at g
 |(t,false)::rs,[],_,_,h,_,_=>by simp[jr]at h
 |(t,false)::rs,v::l,y,[],h,_,d=>by simp[bQ]at d
 |(t,false)::rs,v::l,y,u::us,h,g,d=>by
  simp only[jr]at h;split at h
  .rename_i x j i m
   cases h;simp only[bQ]at d;obtain⟨id,f,e,xs,k1,k2,k3⟩:=aoF s rs l j us m (by simpa [news] using g) d.2;refine⟨id,f,e,xs,k1,k2,fun c' z A B E=> ?_⟩
   grind [qQ,bQ,dh,aeN]
  .cases h
 |(t,true)::rs,[],_,_,h,_,_=>by simp_all [jr]
 |(t,true)::rs,v::l,y,[],h,_,d=>by simp[bQ]at d
 |(t,true)::rs,v::l,y,u::us,h,g,d=>by
  cases t with
  |list e=>
   cases v with
   |slc id f G=>
    cases G with
    |none=>
     simp only[jr]at h;split at h
     .rename_i K w xs D
      rw[cond_eq_ite]at h;split at h
      .rename_i o
       have o:w=f:=by simpa using o
       subst o;split at h
       .rename_i x j i m
        cases h;have I:=jb i;cases I;rw[ik]at i;cases i;simp only[bQ]at d;refine⟨id,w,e,x,D,rfl,fun c' z A B E=> ?_⟩;simp only[qQ,bQ];refine⟨?_,aeM s z A (fun h=>by cases h) rs l j us m (by simpa [news] using g) d.2⟩;have q:=d.1;simp only[dh]at q ⊢;have J:=(q.2.2 _ _ _ D).2 rfl;simp only[jy]at J;refine⟨q.1,.inl ⟨.arr e 0 x,by rw[B];simp[fD]⟩,fun t L M h=> ?_⟩;simp_all [jy]
       .cases h
      .cases h
     .cases h
    |some p=>simp[jr]at h
   |_=>simp[jr]at h
  |_=>simp[jr]at h
theorem Xi: ∀(rs:List (Ty×Bool)) y,news rs=0->BH rs y=a7
 |[],_,_=>rfl
 |(t,true)::rs,_,h=>by simp[news]at h
 |(t,false)::rs,y,h=>Xi rs y.2 (by simpa [news] using h)
theorem OV (g:c.Ok W0) {rs:List (Ty×Bool)} {l:List bZ} {y} {us:List Value} (h:jr (!Nat.beq (news rs) 0) rs l c.hp=a6 y) (E:news rs<=1) (v:bQ c l us):
  ∃c':Cx,c'.w=c.w/\c'.Ok W0/\c'.bar=c.bar/\c'.mks=[]/\c'.hp=Jr rs y/\bQ c' (qQ 0 rs y) us:=by
 by_cases q:news rs=0
 .let c':Cx:=⟨c.mu,[],c.nxt,c.w,[],c.bar⟩
  have s: ∀b,c.free b->c'.free b:=fun b f=>⟨f.1,(by rintro ⟨i,o,h,_⟩;simp[c',dW]at h),by simp[c'],f.2.2.2⟩;exact⟨c',rfl,⟨g.bel,fun id o h=>by simp[c',dW]at h,fun i j o p b h=>by simp[c',dW]at h,fun r u=>by simp[c']at u,fun b f=>⟨(g.bar b f).1,(by rintro ⟨i,o,h,_⟩;simp[c',dW]at h),by simp[c']⟩,g.phi⟩,rfl,rfl,by rw[Jr,Xi rs y q],aeM g (c':=c') rfl s (fun _ b d m=>⟨d,(by rintro ⟨i,o,h,_⟩;simp[c',dW]at h),by simp[c'],m⟩) rs l y us h q v⟩
 .have x:news rs=1:=by omega
  rw[show(!Nat.beq (news rs) 0)=true by rw[x];rfl]at h;obtain⟨id,G,e,z,k1,k2,k3⟩:=aoF g rs l y us h x v
  let c':Cx:=⟨fun _=>c.mu id,[(0,.arr e 0 z)],c.nxt,c.w,[],c.bar⟩
  have s: ∀b,c.free b->c'.free b:=fun b f=>⟨f.1,(by
   rintro ⟨i,o,d,m⟩;simp only[c',fD]at d m;split at d
   .cases d;exact f.2.1 ⟨id,_,k1,m⟩
   .simp[dW]at d),by simp[c'],f.2.2.2⟩
  refine⟨c',rfl,⟨g.bel,fun i o h=> ?_,fun i j o p b d m _ _=> ?_,fun r u=>by simp[c']at u,fun b f=>⟨(g.bar b f).1,(by
   rintro ⟨i,o,d,m⟩;simp only[c',fD]at d m;split at d
   .cases d;exact(g.bar b f).2.1 ⟨id,_,k1,m⟩
   .simp[dW]at d),by simp[c']⟩,g.phi⟩,rfl,rfl,by rw[Jr,k2],k3 c' rfl s rfl rfl⟩
  .simp only[c',fD]at h;split at h
   .cases h;obtain⟨q,A,B,d,m,D⟩:=g.obj id _ k1;exact⟨q,A,B,d,gK.mono (fV.mono (fun b f=>⟨s b f,rfl⟩) e) _ _ m,D⟩
   .simp[dW]at h
  grind [dW]
theorem ED {E:Env} (j:fK E) {g:FuncId} {s:Sum} (l:news s.rs<=1) (h: ∀x y,s.f x=a6 y->XQ E g s.ps s.rs x=a6 y) (w:World) (d:Nat->Prop) (e:Array Value) (x) (y) (m:Phi w) (o: ∀b,d b->b<w.heap.size)
  (p:ry (lu w d) s.ps x e.toList) (q:s.f x=a6 y):(callFunc g e).run E.P w=.ok (.enter g e) w/\Calls E.P g e w (xW w d s.rs y):=by
 have i:=h x y q;unfold XQ at i;refine DL j 1000000 _ w g (IL s.ps x) _ _ y i 0 a7 (lu w d) ⟨#[],[]⟩ [] e (yY m o) (Ru _ _ _ p) (xW w d s.rs y) fun L z u M k1 k2 k3 k4=> ?_;obtain⟨us,rfl,v⟩:=Io (by rw[k1];rfl) k3;rw[<-k2.hp]at k1;obtain⟨A,B,D,G,I,J,K⟩:=OV k2.ok k1 l v;exact⟨A,us,rfl,B,D,G.trans k4.bar,I,J,K⟩
theorem Yx {E:Env} (d:fK E) {g:FuncId} {s:Sum} (e:news s.rs<=1) (h: ∀x y,s.f x=a6 y->XQ E g s.ps s.rs x=a6 y):dU E.P g s:=fun w i j x y l m o p=>.inl (ED d e h w i j x y l m o p)
theorem afU {E:Env} (i:fK E) {g:FuncId} {d:List Ty} {x:(d.foldr Ty.pair Ty.unit).den} {t:Ty} {y:t.den} (q:t.rigid=true) (h:XQ E g d [(t,false)] x=a6 (y,())) {w:World} {args:Array Value} (j:ry (lu w fun _=>False) d x args.toList) (l:Phi w:=by exact trivial):
  Calls E.P g args w fun e w'=>e=.returned (Nj t y)/\Below w.heap.size w w':=by
 obtain⟨_,m⟩:=ED i (g:=g) (s:=⟨d,[(t,false)],fun o=>XQ E g d [(t,false)] o⟩) (by simp[news]) (fun x y h=>h) w (fun _=>False) args x (y,()) l (fun b h=>h.elim) j h;refine m.mono ?_;rintro e w' ⟨v,us,rfl,rfl,p,_,_,_,f⟩;refine⟨?_,p.bel⟩;cases us with
 |nil=>simp[qQ,bQ]at f
 |cons u us=>
  cases us with
  |cons _ _=>simp[qQ,bQ]at f
  |nil=>
   simp_all [qQ,bQ,dh,TE,VD.rigid]
theorem aKp {E:Env} (B:fK E) {g:FuncId} {e e2:Ty} (D:0<e.size) {f:List e.den->Option (List e2.den)} (G: ∀xs y,f xs=a6 y->lX E 1000000 (.call g [.lst e xs false]) ⟨[],[],[],0⟩ (fun v st=>jr false [(.list e2,false)] (J7 1 v) st.hp)=a6 (y,()))
  (h2: ∀y,f []=a6 y->lX E 1000000 (.call g [.lst e [] true]) ⟨[],[],[],0⟩ (fun v st=>jr false [(.list e2,false)] (J7 1 v) st.hp)=a6 (y,())):
  dU E.P g ⟨[.list e],[(.list e2,false)],fun x=>match f x.1 with|some y=>a6 (y,())|none=>a7⟩:=fun w i m x y I J K d=>.inl (by
 obtain⟨u,L,M,N,O⟩:=K;obtain⟨a,n,S,o,p,j,q⟩:=qg N;simp only at d;split at d
 .rename_i s U
  cases d;have V:lX E 1000000 (.call g [.lst e x.1 a.isNone]) ⟨[],[],[],0⟩ (fun v st=>jr false [(.list e2,false)] (J7 1 v) st.hp)=a6 (s,()):=by
   cases ha:a with
   |some _=>exact G _ _ U
   |none=>
    have W:S=[]:=by
     simp_all
    have A:=gK.length _ _ j;rw[W]at A;have ab:x.1=[]:=by
     cases hxx:x.1 with
     |nil=>rfl
     |cons a l=>rw[hxx]at A;have:=Nat.mul_pos (show 0<(a::l).length by simp) D;simp_all
    grind
  have X:bQ (lu w i) [.lst e x.1 a.isNone] m.toList:=by
   rw[M,show L=[] from O];simp only[bQ,dh,and_true];simp_all
  refine DL B 1000000 _ w g [.lst e x.1 a.isNone] _ _ _ V 0 a7 (lu w i) ⟨#[],[]⟩ [] m (yY I J) X (xW w i [(.list e2,false)] (s,())) fun c1 z u Y k1 k2 k3 k4=> ?_;obtain⟨us,rfl,Z⟩:=Io (own:=false) (rs:=[(.list e2,false)]) (hp:=Y.hp) (by grind) k3;rw[<-k2.hp]at k1;obtain⟨c',o,p,j,q,q5,q6⟩:=OV (rs:=[(.list e2,false)]) k2.ok k1 (by simp[news]) Z;exact⟨c',us,rfl,o,p,j.trans k4.bar,q,q5,q6⟩
 .cases d)
theorem aAH {E:Env} (A:fK E) {g:FuncId} {e e2:Ty} (B:0<e.size) {f:List e.den->Option (List e2.den)} (h0:f []=a7) (D: ∀xs y,f xs=a6 y->lX E 1000000 (.call g [.lst e xs false]) ⟨[],[],[],0⟩ (fun v st=>jr true [(.list e2,true)] (J7 1 v) st.hp)=a6 (y,())):
  dU E.P g ⟨[.list e],[(.list e2,true)],fun x=>match f x.1 with|some y=>a6 (y,())|none=>a7⟩:=fun w i m x y G I J d=>.inl (by
 obtain⟨u,K,L,M,N⟩:=J;obtain⟨a,n,O,o,p,j,q⟩:=qg M;simp only at d;split at d
 .rename_i S U
  cases d;have V:a.isNone=false:=by
   cases V:a with
   |some _=>rfl
   |none=>
    have W:O=[]:=by
     simp_all
    have s:=gK.length _ _ j;rw[W]at s;have ab:x.1=[]:=by
     cases hxx:x.1 with
     |nil=>rfl
     |cons a l=>rw[hxx]at s;have:=Nat.mul_pos (show 0<(a::l).length by simp) B;simp_all
    simp_all
  have X:=D _ _ U;have Y:bQ (lu w i) [.lst e x.1 false] m.toList:=by
   rw[L,show K=[] from N];simp_all [bQ,dh]
  refine DL A 1000000 _ w g [.lst e x.1 false] _ _ _ X 0 a7 (lu w i) ⟨#[],[]⟩ [] m (yY G I) Y (xW w i [(.list e2,true)] (S,())) fun c1 z u Z k1 k2 k3 k4=> ?_;obtain⟨us,rfl,h3⟩:=Io (own:=true) (rs:=[(.list e2,true)]) (hp:=Z.hp) (by grind) k3;rw[<-k2.hp]at k1;obtain⟨c',o,p,j,q,q5,q6⟩:=OV (rs:=[(.list e2,true)]) k2.ok k1 (by simp[news]) h3;exact⟨c',us,rfl,o,p,j.trans k4.bar,q,q5,q6⟩
 .cases d)
theorem Gq {E:Env} (M:fK E) {g:FuncId} {e e2:Ty} (W:0<e.size) (X:0<e2.size) {f:List e.den->Option (List e2.den)} (Y: ∀xs y,f xs=a6 y->lX E 1000000 (.call g [.lst e xs false]) ⟨[],[],[],0⟩ (fun v st=>jr true [(.list e2,true)] (J7 1 v) st.hp)=a6 (y,()))
  (h2: ∀y,f []=a6 y->y=[]/\lX E 1000000 (.call g [.lst e [] true]) ⟨[],[],[],0⟩ (fun v st=>match v,st.hp with|.nils,[]=>a6 ()|_,_=>a7)=a6 ()):
  dU E.P g ⟨[.list e],[(.list e2,true)],fun x=>match f x.1 with|some y=>a6 (y,())|none=>a7⟩:=fun w i A x y N O Z m=>.inl (by
 obtain⟨u,ab,hu,hx,ad⟩:=Z;obtain⟨a,n,zs,o,p,j,q⟩:=qg hx;simp only at m;split at m
 .rename_i y' B
  cases m;have s:bQ (lu w i) [.lst e x.1 a.isNone] A.toList:=by
   rw[hu,show ab=[] from ad];simp only[bQ,dh,and_true];simp_all
  cases ha:a.isNone with
  |true=>
   have hz:zs=[]:=by
    simp_all
   have S:=gK.length _ _ j;rw[hz]at S;have U:x.1=[]:=by
    cases hxx:x.1 with
    |nil=>rfl
    |cons a l=>rw[hxx]at S;have:=Nat.mul_pos (show 0<(a::l).length by simp) W;simp_all
   rw[ha,U]at s;rw[U]at B;obtain⟨rfl,D⟩:=h2 _ B;refine DL M 1000000 _ w g [.lst e [] true] _ _ _ D 0 a7 (lu w i) ⟨#[],[]⟩ [] A (yY N O) s (xW w i [(.list e2,true)] ([],())) fun c1 z u d k1 k2 k3 k4=> ?_;split at k1
   .rename_i ai ag
    simp only[dh]at k3;obtain⟨V,G,d2,d3⟩:=ui (W0:=w) k2.ok k2.hp k2.nxt (id:=d.nxt) (n':=d.nxt+1) (by rw[ag];rfl) (ae _) (by omega) X (xs:=[]) (Below.refl _ _) (if e2=.int .u8 then qX else 0) [] (World.ownsRow_nil _ _ _ _) (by simp[gK]) (v:=.slice a7 0 0) rfl (fun h=>by simp[h]);have ah:jr true [(.list e2,true)] [.slc d.nxt 0 a7] V.hp=a6 (([],()):List e2.den×Unit):=by
     rw[G.hp];simp only[jr,dW,beq_self_eq_true,Nat.beq_refl,aa,ik];rfl
    have I:bQ V [.slc d.nxt 0 a7] [.slice a7 0 0]:=by simp_all [bQ]
    obtain⟨J,o,p,j,q,K,L⟩:=OV (rs:=[(.list e2,true)]) G.ok ah (by simp[news]) I;exact⟨J,[.slice a7 0 0],by rw[k3];rfl,o.trans d2,p,j.trans (G.le.bar.trans k4.bar),q,K,L⟩
   .cases k1
  |false=>
   rw[ha]at s;have D:=Y _ _ B;refine DL M 1000000 _ w g [.lst e x.1 false] _ _ _ D 0 a7 (lu w i) ⟨#[],[]⟩ [] A (yY N O) s (xW w i [(.list e2,true)] (y',())) fun c1 z u d k1 k2 k3 k4=> ?_;obtain⟨us,rfl,I⟩:=Io (own:=true) (rs:=[(.list e2,true)]) (hp:=d.hp) (by grind) k3;rw[<-k2.hp]at k1;obtain⟨J,o,p,j,q,K,L⟩:=OV (rs:=[(.list e2,true)]) k2.ok k1 (by simp[news]) I;exact⟨J,us,rfl,o,p,j.trans k4.bar,q,K,L⟩
 .cases m)
theorem aOC {P:Program} {g:FuncId} {d:List Ty} {rs:List (Ty×Bool)} {f i:(d.foldr Ty.pair Ty.unit).den->Option ((rs.map (·.1)).foldr Ty.pair Ty.unit).den} (c:(d.foldr Ty.pair Ty.unit).den->Bool) (q:dU P g ⟨d,rs,f⟩) (h2:dU P g ⟨d,rs,i⟩):
  dU P g ⟨d,rs,fun x=>bif c x then f x else i x⟩:=fun w j l x y m o p e=>by
 cases hc:c x with
 |true=>simp only[hc,aa]at e;exact q w j l x y m o p e
 |false=>simp only[hc,ac]at e;exact h2 w j l x y m o p e
def Zg:(rs:List Ty)->List bZ->iw->Option (rs.foldr Ty.pair Ty.unit).den
 |[],[],_=>a6 ()
 |t::rs,v::l,d=>match(bif true&&(oH v&& !t.rigid)then a7 else v.as d t),Zg rs l d with
  |some x,a6 y=>a6 (x,y)
  |_,_=>a7
 |_,_,_=>a7
def ayC (E:Env) (g:FuncId) (d:TypeId) (cs:List (Ty×Bool)) (e rs:List Ty) (x:((cs.map (·.1)).foldr Ty.pair Ty.unit).den) (y:(e.foldr Ty.pair Ty.unit).den):Option (((cs.map (·.1)).foldr Ty.pair Ty.unit).den×(rs.foldr Ty.pair Ty.unit).den):=
 lX E 1000000 (.call g (.ptr 0 0::Np e y)) ⟨[.ptr 0 0],[],(0,.box d (J5 cs (jA cs 1) x))::wM cs (jA cs 1) x,0⟩ fun v st=>match st.fr with
  |[.ptr 0 0]=>match dW st.hp 0 with
   |some (.box t cells)=>bif Nat.beq t d&&Xl ((qL cs cells).map (·.1))then(match kS st.hp true cs cells with
    |some f=>match Zg rs (J7 rs.length v) st.hp with
     |some i=>a6 (f,i)
     |none=>a7
    |none=>a7)else a7
   |_=>a7
  |_=>a7
theorem aaA: ∀(rs:List Ty) (l:List bZ) {hp:iw},(Zg rs l hp).isSome=true->(jr true (rs.map fun t=>(t,false)) l hp).isSome=true
 |[],[],_,_=>rfl
 |[],_::_,_,h=>by simp[Zg]at h
 |_::_,[],_,h=>by simp[Zg]at h
 |t::rs,v::l,hp,h=>by
  simp only[Zg]at h;split at h
  .rename_i x y d e
   have:=aaA rs l (hp:=hp) (by rw[e];rfl);change @Option.isSome ((((t,false)::rs.map fun t=>(t,false)).map (·.1)).foldr Ty.pair Ty.unit).den (jr true ((t,false)::rs.map fun t=>(t,false)) (v::l) hp)=true;rw[jr];rw[show bZ.asR hp true t v=v.as hp t from rfl,d];cases h3:jr true (rs.map fun t=>(t,false)) l hp with
   |none=>simp_all
   |some z=>rfl
  .cases h
theorem ahW (e:c.Ok W0): ∀(rs:List Ty) (l:List bZ) (z) (us:List Value),Zg rs l c.hp=a6 z->bQ c l us->ry c rs z us
 |[],[],z,[],_,_=>rfl
 |[],[],_,_::_,_,d=>by simp[bQ]at d
 |[],_::_,_,_,h,_=>by simp[Zg]at h
 |_::_,[],_,_,h,_=>by simp[Zg]at h
 |t::rs,v::l,z,[],_,d=>by simp[bQ]at d
 |t::rs,v::l,z,u::us,h,d=>by
  simp only[Zg]at h;split at h
  .rename_i x y f g
   cases h;simp only[bQ]at d;exact⟨u,us,rfl,aeN (own:=true) (c':=c) rfl (fun b h=>h) (fun h=>by cases h) e f d.1,ahW e rs l y us g d.2⟩
  .cases h
theorem aiq {E:Env} (K:fK E) {g:FuncId} {s:fZ} (h: ∀x y z,s.f x y=a6 z->ayC E g s.bt s.cs s.ps s.rs x y=a6 z):dQ E.P g s:=fun W0 c x y z L Z M o N d O=>by
 have p:=h x y z O;unfold ayC at p;obtain⟨us⟩:=N;cases us with
 |nil=>simp[bQ]at d
 |cons u0 us=>
 have q:=d;simp only[bQ]at q;obtain⟨A,_⟩:=q;have e:ji W0 0 a7 c ⟨[.ptr 0 0],[],(0,.box s.bt (J5 s.cs (jA s.cs 1) x))::wM s.cs (jA s.cs 1) x,0⟩ ⟨#[u0],[]⟩ []:=
  ⟨o,M,L,by simp_all [bQ],trivial,⟨[],rfl,List.nodup_nil,fun r e=>by simp at e⟩,fun l S=>by cases S⟩
 refine DL K 1000000 _ W0 g (.ptr 0 0::Np s.ps y) _ _ z p 0 a7 c ⟨#[u0],[]⟩ [] ⟨u0::us⟩ e d (aEe W0 c s z) fun U v u V k1 k2 k3 k4=> ?_;split at k1<;>try (cases k1;done)
 rename_i W
 split at k1<;>try (cases k1;done)
 rename_i t cells i
 replace k1:=dL k1;obtain⟨B,k1⟩:=k1;simp only[af]at B;obtain⟨j,X⟩:=B;have j:t=s.bt:=ak j;subst j;split at k1<;>try (cases k1;done)
 rename_i x' D
 split at k1<;>try (cases k1;done)
 rename_i Y G
 cases k1;obtain⟨I,rfl,J⟩:=Io (own:=true) (rs:=s.rs.map fun t=>(t,false)) (hp:=V.hp) (by simp_all [aaA]) k3;rw[aO]at J;rw[<-k2.hp]at i D G;refine⟨U,I,cells,rfl,rfl,k2.ok,k4,i, ?_,Hq X,D,ahW k2.ok s.rs _ Y I G J⟩;have m:=k2.fr;rw[W]at m;simp only[bQ,dh,and_true]at m;simp only[dh]at A;have e1:=m.2.2 _ _ i;have e2:=A.2.2 _ _ (by rw[o];simp[fD];exact⟨rfl,rfl⟩);simp_all
end
end
section
open Go.RowKit
def aAE:Sum:=⟨[.str,.int .u8],[(.int .i64,false)],fun x=>some (Lib.indexByte x.1 x.2.1.toNat.toUInt8,())⟩
theorem Vs {w:World} {d:Nat->Prop} (e:Phi w) (hb: ∀b,d b->b<w.heap.size):(lu w d).Ok w:=(yY e hb).ok
theorem air {P:Program} {g:FuncId} {fn:Func} (hf:P.funcs[g]? =some fn) (e:(fn.name== "runtime.NumGoroutine")=false) (hb:fn.body.isNone=true) (f:Extern.findNext fn=none)
  (i:Extern.find fn=some Extern.BytealgIndexByte.indexByte):dU P g aAE:=by
 intro w j l x y m o p q;obtain⟨u,I,J,s,v,K,z,A,d⟩:=p;simp only[ry]at d;subst d z;have B:l= #[u,v]:=by
  grind
 subst B;have D:=s.str_inv;have E:=A.int_inv;subst D E;have G:=Option.some.inj q;subst G;refine .inr ⟨_,by rw[run_callFunc_extern hf e hb f i,Lib.run_indexByteString];rfl,lu w j,[_],rfl,rfl,Vs m o,rfl,rfl,rfl, ?_⟩;simp_all [aAE,qQ,bQ,dh,VD.int_mk]
def aAD:Sum:=⟨[.str,.str],[(.int .i64,false)],fun x=>some (Lib.compareBytes x.1 x.2.1,())⟩
theorem aKY {P:Program} {g:FuncId} {fn:Func} (hf:P.funcs[g]? =some fn) (e:(fn.name== "runtime.NumGoroutine")=false) (hb:fn.body.isNone=true) (f:Extern.findNext fn=none)
  (i:Extern.find fn=some Extern.BytealgCompare.compare):dU P g aAD:=by
 intro w j l x y m o p q;obtain⟨u,I,J,s,v,K,z,A,d⟩:=p;simp only[ry]at d;subst d z;have B:l= #[u,v]:=by
  grind
 subst B;have D:=s.str_inv;have E:=A.str_inv;subst D E;have G:=Option.some.inj q;subst G;refine .inr ⟨_,by rw[run_callFunc_extern hf e hb f i,Lib.run_compareString];rfl,lu w j,[_],rfl,rfl,Vs m o,rfl,rfl,rfl, ?_⟩;simp_all [aAD,qQ,bQ,dh,VD.int_mk]
end
section
open Option renaming some → a6, none → a7
open Bool renaming and_eq_true → af, false_eq_true → ag
open List renaming mem_cons_of_mem → aj, mem_cons_self → az
open Nat renaming eq_of_beq_eq_true → ak
open Go.RowKit
inductive FK where
 |u
 |v (t:Ty)
 |slc (id:Nat)
 |ptr (id off:Nat)
 |nils
 |slf (id:Nat)
 |yld (id:Nat)
 |nilp
 |e
 |fn (f:FuncId) (caps:List (Nat×Nat))
 |cp (t:Ty)
 |mpv (id:Nat)
 |mfn (f:FuncId) (fst:List (Nat×Nat))
 |kb (b:Bool)
def us (l:List FK) (n:Nat):List FK:=l++List.replicate n .u
def FKs.den:List FK->Ty
 |[]=>.unit
 |.v t::l=>.pair t (FKs.den l)
 |.u::l=>FKs.den l
 |.slc _::l=>FKs.den l
 |.ptr _ _::l=>FKs.den l
 |.nils::l=>FKs.den l
 |.slf _::l=>FKs.den l
 |.mpv _::l=>FKs.den l
 |.mfn _ _::l=>FKs.den l
 |.kb _::l=>FKs.den l
 |.yld _::l=>FKs.den l
 |.nilp::l=>FKs.den l
 |.e::l=>FKs.den l
 |.fn _ _::l=>FKs.den l
 |.cp t::l=>.pair t (FKs.den l)
def QF:List (Nat×Nat)->List bZ
 |[]=>[]
 |(i,o)::l=>.ptr i o::QF l
def YP:(l:List FK)->(FKs.den l).den->List bZ
 |[],_=>[]
 |.v t::l,y=>.val t y.1::YP l y.2
 |.u::l,y=>.undef::YP l y
 |.slc id::l,y=>.slc id 0 a7::YP l y
 |.ptr id d::l,y=>.ptr id d::YP l y
 |.nils::l,y=>.nils::YP l y
 |.slf id::l,y=>.slf id::YP l y
 |.mpv id::l,y=>.mpv id::YP l y
 |.mfn f c::l,y=>.mfn f (QF c)::YP l y
 |.kb b::l,y=>.val .bool b::YP l y
 |.yld id::l,y=>.yld id::YP l y
 |.nilp::l,y=>.nilp::YP l y
 |.e::l,y=>.tup []::YP l y
 |.fn f g::l,y=>.fn f (QF g)::YP l y
 |.cp t::l,y=>.cellp t y.1::YP l y.2
def apR (t:Ty):bZ->Option t.den
 |.val t' x=>lM t x
 |_=>a7
def aBo (t:Ty):bZ->Option t.den
 |.cellp t' x=>lM t x
 |_=>a7
def aCb (b:Bool):bZ->Bool
 |.val .bool c=>bif b then c else !c
 |_=>false
def isU:bZ->Bool
 |.undef=>true
 |_=>false
def isNils:bZ->Bool
 |.nils=>true
 |_=>false
def aci:bZ->Bool
 |.nilp=>true
 |_=>false
def isE:bZ->Bool
 |.tup l=>l.isEmpty
 |_=>false
def amW (id:Nat):bZ->Bool
 |.slf i=>Nat.beq i id
 |_=>false
def amV (id:Nat):bZ->Bool
 |.mpv i=>Nat.beq i id
 |_=>false
def amX (id:Nat):bZ->Bool
 |.yld i=>Nat.beq i id
 |_=>false
def agX (id:Nat):bZ->Bool
 |.slc i v w=>Nat.beq i id&&(Nat.beq v 0&&(match w with|none=>true|some _=>false))
 |_=>false
def isPtr (id off:Nat):bZ->Bool
 |.ptr i o=>Nat.beq i id&&Nat.beq o off
 |_=>false
def LJ:List (Nat×Nat)->List bZ->Bool
 |[],[]=>true
 |(i,o)::c,v::l=>isPtr i o v&&LJ c l
 |_,_=>false
def awC (f:FuncId) (c:List (Nat×Nat)):bZ->Bool
 |.fn g l=>Nat.beq g f&&LJ c l
 |_=>false
def agU (f:FuncId) (c:List (Nat×Nat)):bZ->Bool
 |.mfn g l=>Nat.beq g f&&LJ c l
 |_=>false
theorem alO {t:Ty} {v:bZ} {x:t.den} (h:apR t v=a6 x):v=.val t x:=by
 cases v with
 |val t' z=>
  grind [apR,jb,ik]
 |_=>simp[apR]at h
theorem ap9 {t:Ty} {v:bZ} {x:t.den} (h:aBo t v=a6 x):v=.cellp t x:=by
 cases v with
 |cellp t' z=>
  grind [aBo,jb,ik]
 |_=>simp[aBo]at h
theorem awD {v:bZ} (h:isU v=true):v=.undef:=by grind [isU]
theorem agW {v:bZ} (h:isNils v=true):v=.nils:=by grind [isNils]
theorem G8: ∀{c:List (Nat×Nat)} {l:List bZ},LJ c l=true->l=QF c
 |[],[],_=>rfl
 |(i,o)::c,v::l,h=>by
  simp only[LJ,af]at h;have d:v=.ptr i o:=by
   have:=h.1;cases v<;>simp only[isPtr,ag]at this;simp_all
  rw[d,G8 h.2];rfl
 |[],_::_,h=>by simp[LJ]at h
 |_::_,[],h=>by simp[LJ]at h
theorem art {f:FuncId} {c:List (Nat×Nat)} {v:bZ} (h:awC f c v=true):v=.fn f (QF c):=by
 cases v with
 |fn g l=>
  simp only[awC,af]at h;rw[ak h.1,G8 h.2]
 |_=>simp[awC]at h
theorem aru {b:Bool} {v:bZ} (h:aCb b v=true):v=.val .bool b:=by
 unfold aCb at h;split at h
 .rename_i c
  cases b<;>cases c<;>first|rfl|exact absurd h (by decide)
 .exact absurd h (by decide)
theorem ajJ {f:FuncId} {c:List (Nat×Nat)} {v:bZ} (h:agU f c v=true):v=.mfn f (QF c):=by
 cases v with
 |mfn g l=>
  simp only[agU,af]at h;rw[ak h.1,G8 h.2]
 |_=>simp[agU]at h
theorem agV {v:bZ} (h:aci v=true):v=.nilp:=by grind [aci]
theorem awz {v:bZ} (h:isE v=true):v=.tup []:=by
 cases v with
 |tup l=>simp_all [isE]
 |_=>simp[isE]at h
theorem ajO {id:Nat} {v:bZ} (h:amW id v=true):v=.slf id:=by
 cases v with
 |slf i=>rw[ak h]
 |_=>simp[amW]at h
theorem ajK {id:Nat} {v:bZ} (h:amV id v=true):v=.mpv id:=by
 cases v with
 |mpv i=>rw[ak h]
 |_=>simp[amV]at h
theorem ajP {id:Nat} {v:bZ} (h:amX id v=true):v=.yld id:=by
 cases v with
 |yld i=>rw[ak h]
 |_=>simp[amX]at h
theorem ajM {id:Nat} {v:bZ} (h:agX id v=true):v=.slc id 0 a7:=by
 cases v with
 |slc i k w=>
  simp only[agX,af]at h;obtain rfl:i=id:=ak h.1;obtain rfl:k=0:=ak h.2.1
  grind
 |_=>simp[agX]at h
theorem ajN {id off:Nat} {v:bZ} (h:isPtr id off v=true):v=.ptr id off:=by
 cases v with
 |ptr i o=>
  simp_all [isPtr]
 |_=>simp[isPtr]at h
def lQ:(l:List FK)->List bZ->Option (FKs.den l).den
 |[],d=>match d with
  |[]=>a6 ()
  |_=>a7
 |.v t::l,d=>match d with
  |v::d=>match apR t v,lQ l d with
   |some x,a6 y=>a6 (x,y)
   |_,_=>a7
  |[]=>a7
 |.u::l,d=>match d with
  |v::d=>bif isU v then lQ l d else a7
  |[]=>a7
 |.slc id::l,d=>match d with
  |v::d=>bif agX id v then lQ l d else a7
  |[]=>a7
 |.ptr id g::l,d=>match d with
  |v::d=>bif isPtr id g v then lQ l d else a7
  |[]=>a7
 |.nils::l,d=>match d with
  |v::d=>bif isNils v then lQ l d else a7
  |[]=>a7
 |.nilp::l,d=>match d with
  |v::d=>bif aci v then lQ l d else a7
  |[]=>a7
 |.e::l,d=>match d with
  |v::d=>bif isE v then lQ l d else a7
  |[]=>a7
 |.fn f c::l,d=>match d with
  |v::d=>bif awC f c v then lQ l d else a7
  |[]=>a7
 |.mfn f c::l,d=>match d with
  |v::d=>bif agU f c v then lQ l d else a7
  |[]=>a7
 |.kb b::l,d=>match d with
  |v::d=>bif aCb b v then lQ l d else a7
  |[]=>a7
 |.slf id::l,d=>match d with
  |v::d=>bif amW id v then lQ l d else a7
  |[]=>a7
 |.mpv id::l,d=>match d with
  |v::d=>bif amV id v then lQ l d else a7
  |[]=>a7
 |.yld id::l,d=>match d with
  |v::d=>bif amX id v then lQ l d else a7
  |[]=>a7
 |.cp t::l,d=>match d with
  |v::d=>match aBo t v,lQ l d with
   |some x,a6 y=>a6 (x,y)
   |_,_=>a7
  |[]=>a7
theorem jf: ∀(l:List FK) (fr:List bZ) (y:(FKs.den l).den),lQ l fr=a6 y->fr=YP l y
 |[],fr,y,h=>by
  simp only[lQ]at h;split at h
  .rfl
  .cases h
 |.v t::l,fr,y,h=>by
  simp only[lQ]at h;split at h
  .split at h
   .rename_i x g i j
    cases h;rw[alO i,jf l _ g j];rfl
   .cases h
  .cases h
 |.u::l,fr,y,h=>by
  simp only[lQ]at h;split at h
  .rename_i v fr
   obtain⟨d,h⟩:isU v=true/\lQ l fr=a6 y:=dL h;rw[awD d,jf l fr y h];rfl
  .cases h
 |.slc id::l,fr,y,h=>by
  simp only[lQ]at h;split at h
  .rename_i v fr
   obtain⟨d,h⟩:agX id v=true/\lQ l fr=a6 y:=dL h;rw[ajM d,jf l fr y h];rfl
  .cases h
 |.ptr id m::l,fr,y,h=>by
  simp only[lQ]at h;split at h
  .rename_i v fr
   obtain⟨d,h⟩:isPtr id m v=true/\lQ l fr=a6 y:=dL h;rw[ajN d,jf l fr y h];rfl
  .cases h
 |.nils::l,fr,y,h=>by
  simp only[lQ]at h;split at h
  .rename_i v fr
   obtain⟨d,h⟩:isNils v=true/\lQ l fr=a6 y:=dL h;rw[agW d,jf l fr y h];rfl
  .cases h
 |.nilp::l,fr,y,h=>by
  simp only[lQ]at h;split at h
  .rename_i v fr
   obtain⟨d,h⟩:aci v=true/\lQ l fr=a6 y:=dL h;rw[agV d,jf l fr y h];rfl
  .cases h
 |.e::l,fr,y,h=>by
  simp only[lQ]at h;split at h
  .rename_i v fr
   obtain⟨d,h⟩:isE v=true/\lQ l fr=a6 y:=dL h;rw[awz d,jf l fr y h];rfl
  .cases h
 |.fn f c::l,fr,y,h=>by
  simp only[lQ]at h;split at h
  .rename_i v fr
   obtain⟨d,h⟩:awC f c v=true/\lQ l fr=a6 y:=dL h;rw[art d,jf l fr y h];rfl
  .cases h
 |.mfn f c::l,fr,y,h=>by
  simp only[lQ]at h;split at h
  .rename_i v fr
   obtain⟨d,h⟩:agU f c v=true/\lQ l fr=a6 y:=dL h;rw[ajJ d,jf l fr y h];rfl
  .cases h
 |.kb b::l,fr,y,h=>by
  simp only[lQ]at h;split at h
  .rename_i v fr
   obtain⟨d,h⟩:aCb b v=true/\lQ l fr=a6 y:=dL h;rw[aru d,jf l fr y h];rfl
  .cases h
 |.slf id::l,fr,y,h=>by
  simp only[lQ]at h;split at h
  .rename_i v fr
   obtain⟨d,h⟩:amW id v=true/\lQ l fr=a6 y:=dL h;rw[ajO d,jf l fr y h];rfl
  .cases h
 |.mpv id::l,fr,y,h=>by
  simp only[lQ]at h;split at h
  .rename_i v fr
   obtain⟨d,h⟩:amV id v=true/\lQ l fr=a6 y:=dL h;rw[ajK d,jf l fr y h];rfl
  .cases h
 |.yld id::l,fr,y,h=>by
  simp only[lQ]at h;split at h
  .rename_i v fr
   obtain⟨d,h⟩:amX id v=true/\lQ l fr=a6 y:=dL h;rw[ajP d,jf l fr y h];rfl
  .cases h
 |.cp t::l,fr,y,h=>by
  simp only[lQ]at h;split at h
  .split at h
   .rename_i x g i j
    cases h;rw[ap9 i,jf l _ g j];rfl
   .cases h
  .cases h
noncomputable def rfA (f:FuncId) (k:Nat):Code:=match ut f k with
 |some (a,_)=>a
 |none=>.skip
noncomputable def rfB (f:FuncId) (k:Nat):Code:=match ut f k with
 |some (_,b)=>b
 |none=>.skip
inductive HK where
 |arr (id:Nat) (e:Ty)
 |box (id:Nat) (t:TypeId) (cs:List FK)
 |mp (id:Nat) (kk vk:IntKind)
 |lp (id:Nat) (f:FuncId) (fr:List FK) (ps:List Nat) (key:Nat) (n:Nat) (p:Option Ex)
def HKs.den:List HK->Ty
 |[]=>.unit
 |.arr _ e::l=>.pair (.list e) (HKs.den l)
 |.mp _ kk d::l=>.pair (.list (.pair (.int kk) (.int d))) (HKs.den l)
 |.box _ _ cs::l=>.pair (FKs.den cs) (HKs.den l)
 |.lp _ _ fr _ _ _ _::l=>.pair (FKs.den fr) (HKs.den l)
noncomputable def mkH:(l:List HK)->(HKs.den l).den->iw
 |[],_=>[]
 |.arr id e::l,y=>(id,.arr e 0 y.1)::mkH l y.2
 |.mp id kk d::l,y=>(id,.mp kk d y.1)::mkH l y.2
 |.box id t cs::l,y=>(id,.box t (YP cs y.1))::mkH l y.2
 |.lp id f fr ps key n p::l,y=>(id,.lp f (YP fr y.1) ps (rfA f key) (rfB f key) (a6 key) n p)::mkH l y.2
def alT (e:Ty):dV->Option (List e.den)
 |.arr e' v d=>bif Nat.beq v 0 then lM (.list e) (t':=.list e') d else a7
 |_=>a7
def aC7 (d e:IntKind):dV->Option (List (Int×Int))
 |.mp k v f=>bif decide (k=d)&&decide (v=e)then a6 f else a7
 |_=>a7
theorem arL {d e:IntKind} {o:dV} {x:List (Int×Int)} (h:aC7 d e o=a6 x):o=.mp d e x:=by
 cases o with
 |mp k v f=>
  simp only[aC7]at h
  grind
 |_=>simp[aC7]at h
def alW (t:TypeId) (cs:List FK):dV->Option (FKs.den cs).den
 |.box t' l=>bif Nat.beq t' t then lQ cs l else a7
 |_=>a7
def aGV:Ex->Ex->Bool
 |.normal,.normal=>true
 |.exit i,.exit j=>Nat.beq i j
 |.goto i,.goto j=>Nat.beq i j
 |.ret,.ret=>true
 |_,_=>false
def ayn:Option Ex->Option Ex->Bool
 |none,a7=>true
 |some a,a6 b=>aGV a b
 |_,_=>false
def Qr:List Nat->List Nat->Bool
 |[],[]=>true
 |a::l,b::m=>Nat.beq a b&&Qr l m
 |_,_=>false
theorem aq9 {a b:Ex} (h:aGV a b=true):a=b:=by
 cases a<;>cases b<;>simp only[aGV,ag]at h<;>first|rfl|simp_all
theorem alg {a b:Option Ex} (h:ayn a b=true):a=b:=by
 cases a<;>cases b<;>simp only[ayn,ag]at h<;>first|rfl|rw[aq9 h]
theorem SC: ∀{l m:List Nat},Qr l m=true->l=m
 |[],[],_=>rfl
 |a::l,b::m,h=>by
  simp only[Qr,af]at h;rw[ak h.1,SC h.2]
 |[],_::_,h=>by simp[Qr]at h
 |_::_,[],h=>by simp[Qr]at h
def axq (f:FuncId) (fr:List FK) (d:List Nat) (key n:Nat) (p:Option Ex):dV->Option (FKs.den fr).den
 |.lp f' fr' ps' _ _ (a6 e) n' g=>bif Nat.beq f' f&&(Qr ps' d&&(Nat.beq e key&&(Nat.beq n' n&&ayn g p)))then lQ fr fr' else a7
 |_=>a7
theorem aiL {e:Ty} {o:dV} {x:List e.den} (h:alT e o=a6 x):o=.arr e 0 x:=by
 cases o with
 |arr e' v f=>
  simp only[alT]at h;rw[cond_eq_ite]at h;split at h
  .rename_i d
   obtain rfl:v=0:=ak d
   grind [jb,ik]
  .cases h
 |_=>simp[alT]at h
theorem aiR {t:TypeId} {cs:List FK} {o:dV} {x:(FKs.den cs).den} (h:alW t cs o=a6 x):o=.box t (YP cs x):=by
 cases o with
 |box t' l=>
  simp only[alW]at h;obtain⟨d,h⟩:=dL h;rw[jf cs l x h,ak d]
 |_=>simp[alW]at h
theorem arI {f:FuncId} {fr:List FK} {m:List Nat} {key n:Nat} {p:Option Ex} {o:dV} {x:(FKs.den fr).den} (u:WfO o) (h:axq f fr m key n p o=a6 x):o=.lp f (YP fr x) m (rfA f key) (rfB f key) (a6 key) n p:=by
 cases o with
 |lp f' fr' ps' asg bd ky n' v=>
  cases ky with
  |none=>simp[axq]at h
  |some d=>
   simp only[axq]at h;replace h:=dL h;obtain⟨q,h⟩:=h;simp only[af]at q;obtain⟨e,g,i,j,l⟩:=q;have e:=ak e;have g:=SC g;have i:=ak i;have j:=ak j;have l:=alg l;subst e g i j l;have s:ut f' d=a6 (asg,bd):=u;have y:rfA f' d=asg:=by unfold rfA;rw[s]
   have z:rfB f' d=bd:=by unfold rfB;rw[s]
   grind [jf]
 |_=>simp[axq]at h
def TB:(l:List HK)->iw->Option (HKs.den l).den
 |[],d=>match d with
  |[]=>a6 ()
  |_=>a7
 |.arr id e::l,d=>match d with
  |(j,o)::d=>bif Nat.beq j id then(match alT e o,TB l d with
   |some x,a6 y=>a6 (x,y)
   |_,_=>a7)else a7
  |[]=>a7
 |.mp id kk g::l,d=>match d with
  |(j,o)::d=>bif Nat.beq j id then(match aC7 kk g o,TB l d with
   |some x,a6 y=>a6 (x,y)
   |_,_=>a7)else a7
  |[]=>a7
 |.box id t cs::l,d=>match d with
  |(j,o)::d=>bif Nat.beq j id then(match alW t cs o,TB l d with
   |some x,a6 y=>a6 (x,y)
   |_,_=>a7)else a7
  |[]=>a7
 |.lp id f fr ps key n p::l,d=>match d with
  |(j,o)::d=>bif Nat.beq j id then(match axq f fr ps key n p o,TB l d with
   |some x,a6 y=>a6 (x,y)
   |_,_=>a7)else a7
  |[]=>a7
theorem zg: ∀(l:List HK) (hp:iw) (y:(HKs.den l).den),(∀e∈hp,WfO e.2)->TB l hp=a6 y->hp=mkH l y
 |[],hp,y,_,h=>by
  simp only[TB]at h;split at h
  .rfl
  .cases h
 |.arr id e::l,hp,y,d,h=>by
  simp only[TB]at h;split at h
  .rw[cond_eq_ite]at h;split at h
   .rename_i g
    split at h
    .rename_i x i j m
     cases h;rw[aiL j,zg l _ i (fun e o=>d e (aj _ o)) m,ak g];rfl
    .cases h
   .cases h
  .cases h
 |.mp id kk s::l,hp,y,d,h=>by
  simp only[TB]at h;split at h
  .rw[cond_eq_ite]at h;split at h
   .rename_i g
    split at h
    .rename_i x i j m
     cases h;rw[arL j,zg l _ i (fun e o=>d e (aj _ o)) m,ak g];rfl
    .cases h
   .cases h
  .cases h
 |.box id t cs::l,hp,y,d,h=>by
  simp only[TB]at h;split at h
  .rw[cond_eq_ite]at h;split at h
   .rename_i g
    split at h
    .rename_i x i j m
     cases h;rw[aiR j,zg l _ i (fun e o=>d e (aj _ o)) m,ak g];rfl
    .cases h
   .cases h
  .cases h
 |.lp id f fr ps key n p::l,hp,y,d,h=>by
  simp only[TB]at h;split at h
  .rw[cond_eq_ite]at h;split at h
   .rename_i g
    split at h
    .rename_i x i j m
     cases h;have q:=d _ az;dsimp only at q;rw[arI q j,zg l _ i (fun e o=>d e (aj _ o)) m,ak g];rfl
    .cases h
   .cases h
  .cases h
structure SP where
 fr:List FK
 hp:List HK
def SP.den (p:SP):Type:=(FKs.den p.fr).den×(HKs.den p.hp).den
noncomputable def lg (p:SP) (y:p.den):St:=⟨YP p.fr y.1,[[]],mkH p.hp y.2,0⟩
def awv (p:SP) (st:St):Option p.den:=
 match st.stk,st.nxt with
 |[[]],0=>match lQ p.fr st.fr,TB p.hp st.hp with
  |some x,a6 y=>bif vV st.hp then a6 (x,y)else a7
  |_,_=>a7
 |_,_=>a7
theorem Wq {p:SP} {st:St} {y:p.den} (d:WfH st.hp) (h:awv p st=a6 y):st=lg p y:=by
 obtain⟨l,m,hp,o⟩:=st;unfold awv at h;split at h
 .rename_i e f
  subst e f;split at h
  .rename_i x q g i
   replace h:=dL h;obtain⟨j,h⟩:=h;cases h;have s:=jf _ _ _ g;have u:=zg _ _ _ (Ro _ j d) i;simp_all [lg]
  .cases h
 .cases h
def xx {R:Type} (E:Env) (d:Nat) (f:FuncId) (c:Code):St->(Ex->St->Option R)->Option R:=run (E.at d) (lX E d) (ZK E d) f c
noncomputable def gu (k:fJ) (l d e:SP) (g:Ex) (i:l.den->Option (d.den⊕e.den)) (f:Nat:=0) (j:Ex:=.ret):dD:={
 V:=l.den
 A:=fun _=>d.den
 B:=fun _=>e.den
 get:=fun st=>match PE k.slots k.owns st with
  |some st=>awv l st
  |none=>a7
 spec:=i
 exA:=fun _=>g
 stA:=fun _ _ a=>lg d a
 stB:=fun _ _ b=>lg e b
 dep:=f
 exB:=fun _=>j}
theorem arG {E:Env} {f:FuncId} {c:Code} {k:fJ} {l i j:SP} {s:Ex} {p:l.den->Option (i.den⊕j.den)} {u:Nat} {x:Ex} (hk:E.kp f (dK c)=a6 k)
  (h: ∀(R:Type) (d:Nat) (K:Ex->St->Option R) (v:l.den) o,p v=a6 o->
   ∃m,iter (a6 k) (xx E (d+u) f c) m (lg l v) K=dR o (fun a=>K s (lg i a)) fun b=>K x (lg j b)):dX E f c (gu k l i j s p u x):=by
 intro R d r st v K A q g;simp only[gu]at q;split at q
 .rename_i D y
  have e:=Wq (A _ _ _ y) q;subst e;simp only[gu]at g;cases ho:p v with
  |none=>rw[ho]at g;cases g
  |some o=>
   rw[ho]at g;obtain⟨m,B⟩:=h R d K v o ho;have z:(E.at (d+(gu k l i j s p u x).dep)).kp f (dK c)=a6 k:=hk;refine⟨m,lg l v,by rw[z];exact y, ?_⟩;rw[z];exact B.trans g
 .cases q
theorem GL {E:Env} {f:FuncId} {c:Code} {k:fJ} {l i j:SP} {s:Ex} {p:l.den->Option (i.den⊕j.den)} {u:Nat} {x:Ex} (hk:E.kp f (800000+dK c)=a6 k)
  (h: ∀(R:Type) (d:Nat) (K:Ex->St->Option R) (v:l.den) o,p v=a6 o->
   ∃m,iter (a6 k) (zH (xx E (d+u) f c)) m (lg l v) K=dR o (fun a=>K s (lg i a)) fun b=>K x (lg j b)):tH E f c (gu k l i j s p u x):=by
 intro R d r st v K A q g;simp only[gu]at q;split at q
 .rename_i D y
  have e:=Wq (A _ _ _ y) q;subst e;simp only[gu]at g;cases ho:p v with
  |none=>rw[ho]at g;cases g
  |some o=>
   rw[ho]at g;obtain⟨m,B⟩:=h R d K v o ho;have z:(E.at (d+(gu k l i j s p u x).dep)).kp f (800000+dK c)=a6 k:=hk;refine⟨m,lg l v,by rw[z];exact y, ?_⟩;rw[z];exact B.trans g
 .cases q
def FKss.den:List (List FK)->Type
 |[]=>Unit
 |l::d=>(FKs.den l).den×FKss.den d
def mkK:(l:List (List FK))->FKss.den l->List (List bZ)
 |[],_=>[]
 |l::d,y=>YP l y.1::mkK d y.2
def awu:(l:List (List FK))->List (List bZ)->Option (FKss.den l)
 |[],st=>match st with
  |[]=>a6 ()
  |_=>a7
 |l::d,st=>match st with
  |e::st=>match lQ l e,awu d st with
   |some x,a6 y=>a6 (x,y)
   |_,_=>a7
  |[]=>a7
theorem ZY: ∀(l:List (List FK)) (st:List (List bZ)) (y:FKss.den l),awu l st=a6 y->st=mkK l y
 |[],st,y,h=>by
  simp only[awu]at h;split at h
  .rfl
  .cases h
 |l::d,st,y,h=>by
  simp only[awu]at h;split at h
  .split at h
   .rename_i x e f g
    cases h;rw[jf _ _ _ f,ZY d _ e g];rfl
   .cases h
  .cases h
structure SQ where
 fr:List FK
 stk:List (List FK)
 hp:List HK
def SQ.den (p:SQ):Type:=(FKs.den p.fr).den×(FKss.den p.stk×(HKs.den p.hp).den)
noncomputable def jR (p:SQ) (y:p.den):St:=⟨YP p.fr y.1,mkK p.stk y.2.1,mkH p.hp y.2.2,0⟩
def ajH (p:SQ) (st:St):Option p.den:=
 match st.nxt with
 |0=>match lQ p.fr st.fr,awu p.stk st.stk,TB p.hp st.hp with
  |some x,a6 k,a6 y=>bif vV st.hp then a6 (x,k,y)else a7
  |_,_,_=>a7
 |_=>a7
theorem RN {p:SQ} {st:St} {y:p.den} (d:WfH st.hp) (h:ajH p st=a6 y):st=jR p y:=by
 obtain⟨j,l,hp,m⟩:=st;unfold ajH at h;split at h
 .rename_i e
  subst e;split at h
  .rename_i x k o f hk g
   replace h:=dL h;obtain⟨i,h⟩:=h;cases h;have q:=jf _ _ _ f;have s:=zg _ _ _ (Ro _ i d) g
   grind [ZY,jR]
  .cases h
 .cases h
noncomputable def fP (k:fJ) (l d e:SQ) (g:Ex) (i:l.den->Option (d.den⊕e.den)) (f:Nat:=0) (j:Ex:=.ret):dD:={
 V:=l.den
 A:=fun _=>d.den
 B:=fun _=>e.den
 get:=fun st=>match PE k.slots k.owns st with
  |some st=>ajH l st
  |none=>a7
 spec:=i
 exA:=fun _=>g
 stA:=fun _ _ a=>jR d a
 stB:=fun _ _ b=>jR e b
 dep:=f
 exB:=fun _=>j}
theorem aj3 {E:Env} {f:FuncId} {c:Code} {k:fJ} {l i j:SQ} {s:Ex} {p:l.den->Option (i.den⊕j.den)} {u:Nat} {x:Ex} (hk:E.kp f (dK c)=a6 k)
  (h: ∀(R:Type) (d:Nat) (K:Ex->St->Option R) (v:l.den) o,p v=a6 o->
   ∃m,iter (a6 k) (xx E (d+u) f c) m (jR l v) K=dR o (fun a=>K s (jR i a)) fun b=>K x (jR j b)):dX E f c (fP k l i j s p u x):=by
 intro R d r st v K A q g;simp only[fP]at q;split at q
 .rename_i D y
  have e:=RN (A _ _ _ y) q;subst e;simp only[fP]at g;cases ho:p v with
  |none=>rw[ho]at g;cases g
  |some o=>
   rw[ho]at g;obtain⟨m,B⟩:=h R d K v o ho;have z:(E.at (d+(fP k l i j s p u x).dep)).kp f (dK c)=a6 k:=hk;refine⟨m,jR l v,by rw[z];exact y, ?_⟩;rw[z];exact B.trans g
 .cases q
theorem PO {E:Env} {f:FuncId} {c:Code} {k:fJ} {l i j:SQ} {s:Ex} {p:l.den->Option (i.den⊕j.den)} {u:Nat} {x:Ex} (hk:E.kp f (800000+dK c)=a6 k)
  (h: ∀(R:Type) (d:Nat) (K:Ex->St->Option R) (v:l.den) o,p v=a6 o->
   ∃m,iter (a6 k) (zH (xx E (d+u) f c)) m (jR l v) K=dR o (fun a=>K s (jR i a)) fun b=>K x (jR j b)):tH E f c (fP k l i j s p u x):=by
 intro R d r st v K A q g;simp only[fP]at q;split at q
 .rename_i D y
  have e:=RN (A _ _ _ y) q;subst e;simp only[fP]at g;cases ho:p v with
  |none=>rw[ho]at g;cases g
  |some o=>
   rw[ho]at g;obtain⟨m,B⟩:=h R d K v o ho;have z:(E.at (d+(fP k l i j s p u x).dep)).kp f (800000+dK c)=a6 k:=hk;refine⟨m,jR l v,by rw[z];exact y, ?_⟩;rw[z];exact B.trans g
 .cases q
def kZ (L M:dD):dD:={
 V:=L.V⊕M.V
 A:=fun v=>match v with|.inl v=>L.A v|.inr v=>M.A v
 B:=fun v=>match v with|.inl v=>L.B v|.inr v=>M.B v
 get:=fun st=>match L.get st with
  |some v=>a6 (.inl v)
  |none=>match M.get st with
   |some v=>a6 (.inr v)
   |none=>a7
 spec:=fun v=>match v with|.inl v=>L.spec v|.inr v=>M.spec v
 exA:=fun v=>match v with|.inl v=>L.exA v|.inr v=>M.exA v
 stA:=fun st v=>match v with|.inl v=>L.stA st v|.inr v=>M.stA st v
 stB:=fun st v=>match v with|.inl v=>L.stB st v|.inr v=>M.stB st v
 dep:=L.dep+M.dep
 exB:=fun v=>match v with|.inl v=>L.exB v|.inr v=>M.exB v}
theorem uP {E:Env} {f:FuncId} {c:Code} {L M:dD} (o:dX E f c L) (h2:dX E f c M):dX E f c (kZ L M):=fun R m r st v K j d l=>by
 simp only[kZ]at d;split at d
 .rename_i g i
  cases d;have e:m+(kZ L M).dep=(m+M.dep)+L.dep:=by show m+(L.dep+M.dep)=_;omega
  rw[e];exact o R _ r st g K j i l
 .split at d
  .rename_i g i
   cases d;have e:m+(kZ L M).dep=(m+L.dep)+M.dep:=by show m+(L.dep+M.dep)=_;omega
   rw[e];exact h2 R _ r st g K j i l
  .cases d
theorem auB {E:Env} {f:FuncId} {c:Code} {L M:dD} (o:tH E f c L) (h2:tH E f c M):tH E f c (kZ L M):=fun R m r st v K j d l=>by
 simp only[kZ]at d;split at d
 .rename_i g i
  cases d;have e:m+(kZ L M).dep=(m+M.dep)+L.dep:=by show m+(L.dep+M.dep)=_;omega
  rw[e];exact o R _ r st g K j i l
 .split at d
  .rename_i g i
   cases d;have e:m+(kZ L M).dep=(m+L.dep)+M.dep:=by show m+(L.dep+M.dep)=_;omega
   rw[e];exact h2 R _ r st g K j i l
  .cases d
end
section
open Option renaming some → a6, none → a7
open List renaming mem_cons_of_mem → aj, mem_cons_self → az
open Nat renaming eq_of_beq_eq_true → ak
open Go.RowKit
def aza:List (FuncId×Sum)->FuncId->Option Sum
 |[],_=>a7
 |e::l,g=>bif Nat.beq g e.1 then a6 e.2 else aza l g
theorem aeV {P:Program}: ∀(l:List (FuncId×Sum)),(∀e∈l,dU P e.1 e.2)-> ∀g s,aza l g=a6 s->dU P g s
 |[],_,g,s,h=>by cases h
 |e::l,d,g,s,h=>by
  simp only[aza]at h;rw[cond_eq_ite]at h;split at h
  .simp_all
  .exact aeV l (fun e f=>d e (aj _ f)) g s h
def aOs (f:FuncId) (l:List (Nat×fJ)) (g:FuncId) (id:Nat):Option fJ:=cond (Nat.beq g f) ((l.find? fun e=>Nat.beq id e.1).map (·.2)) a7
def aH1 (f:FuncId) (l:List (Nat×dD)) (g:FuncId) (id:Nat):Option dD:=
 bif Nat.beq g f then(match l.find? fun e=>Nat.beq id e.1 with|some e=>a6 e.2|none=>a7)else a7
theorem aka {f g:FuncId} (l:List (Nat×dD)) (h:g≠f) (id:Nat):aH1 f l g id=a7:=by
 grind [ak,aH1]
def aLu:FuncId:=39
def NR (g:FuncId):Bool:=Nat.beq g aLu&& !Nat.beq aLu 1000000
def ay7:List (FuncId×fZ)->FuncId->Option fZ
 |[],_=>a7
 |e::l,g=>bif Nat.beq g e.1 then a6 e.2 else ay7 l g
theorem aeT {P:Program}: ∀(l:List (FuncId×fZ)),(∀e∈l,dQ P e.1 e.2)-> ∀g s,ay7 l g=a6 s->dQ P g s
 |[],_,g,s,h=>by cases h
 |e::l,d,g,s,h=>by
  simp only[ay7]at h;cases hb:Nat.beq g e.1 with
  |true=>
   simp_all
  |false=>
   rw[hb]at h;exact aeT l (fun e f=>d e (aj _ f)) g s h
def jm (P:Program) (T:TT) (f:FuncId) (sg:List (FuncId×Sum)) (kp:List (Nat×fJ)) (lp:List (Nat×dD)) (sb:List (FuncId×fZ):=[]):Env:=
 {P:=P,T:=T,cl:=false,kp:=aOs f kp,sg:=aza sg,lp:=aH1 f lp,bf:=NR,sb:=ay7 sb}
theorem avF {P:Program} {T:TT} (hT:TOk P T) (i:P.follows .mixedOrders=true) (j:MX P) {f:FuncId} {sg:List (FuncId×Sum)} {kp:List (Nat×fJ)} {lp:List (Nat×dD)} {sb:List (FuncId×fZ)}
  (l: ∀e∈sg,dU P e.1 e.2) {fn:Func} {c:Code} (hf:P.funcs[f]? =a6 fn) (hb:fn.body=a6 c) (hl:dO (jm P T f sg kp lp sb) f c) (m: ∀E,vK P E->aiH E) (o: ∀g,NR g=true->EE P g) (hx: ∀e∈sb,dQ P e.1 e.2:=by simp):fK (jm P T f sg kp lp sb):=by
 have d:vK P (jm P T f sg kp lp sb):= ?_;exact⟨hT,i,j,aeV sg l,d,m _ d,o,aeT sb hx⟩;intro g q p s u;by_cases e:g=f
 .simp_all
 .exact jW (fun id=>aka lp e id) (fun _=>rfl) p
def aL7 (l:List (FuncId×Nat×fJ)) (g:FuncId) (id:Nat):Option fJ:=match l.find? fun e=>Nat.beq g e.1&&Nat.beq id e.2.1 with
 |some e=>a6 e.2.2
 |none=>a7
def anh:List (FuncId×Nat×dD)->FuncId->Nat->Option dD
 |[],_,_=>a7
 |e::l,g,id=>bif Nat.beq g e.1&&Nat.beq id e.2.1 then a6 e.2.2 else anh l g id
theorem WV: ∀(l:List (FuncId×Nat×dD)) (g:FuncId),(∀e∈l,e.1≠g)-> ∀id,anh l g id=a7
 |[],g,_,id=>rfl
 |e::l,g,h,id=>by
  have d:Nat.beq g e.1=false:=by
   grind [ak]
  simp only[anh,d,Bool.false_and,ac];exact WV l g (fun e f=>h e (aj _ f)) id
def gY (P:Program) (T:TT) (sg:List (FuncId×Sum)) (kp:List (FuncId×Nat×fJ)) (lp:List (FuncId×Nat×dD)) (rf:List FuncId) (sb:List (FuncId×fZ):=[]):Env:=
 {P:=P,T:=T,cl:=false,kp:=aL7 kp,sg:=aza sg,lp:=anh lp,rf:=fun g _=>rf.any fun x=>Nat.beq g x,bf:=NR,sb:=ay7 sb}
theorem aq5 {P:Program} {T:TT} (hT:TOk P T) (i:P.follows .mixedOrders=true) (j:MX P) {sg:List (FuncId×Sum)} {kp:List (FuncId×Nat×fJ)} {lp:List (FuncId×Nat×dD)}
  {rf:List FuncId} {sb:List (FuncId×fZ)} (l: ∀e∈sg,dU P e.1 e.2) (d:List FuncId) (q:(lp.all fun e=>d.any fun g=>Nat.beq e.1 g)=true) (s:(rf.all fun e=>d.any fun g=>Nat.beq e g)=true) (hl: ∀g∈d,∃fn c,P.funcs[g]? =a6 fn/\fn.body=a6 c/\dO (gY P T sg kp lp rf sb) g c)
  (m: ∀E,vK P E->aiH E) (o: ∀g,NR g=true->EE P g) (hx: ∀e∈sb,dQ P e.1 e.2:=by simp):fK (gY P T sg kp lp rf sb):=by
 have f:vK P (gY P T sg kp lp rf sb):= ?_;exact⟨hT,i,j,aeV sg l,f,m _ f,o,aeT sb hx⟩;intro g u p v y;by_cases e:g∈d
 .grind
 .refine jW (fun id=>WV lp g (fun x hx z=>e ?_) id) (fun _=> ?_) p
  .grind [ak]
  .cases hr:rf.any fun x=>Nat.beq g x with
   |false=>exact hr
   |true=>
    simp_all
def bU {d:Type} (a b:List d):List d:=a++b
def dI (i:Int):Nat:=i.toNat
def dN {e:Type} (l:List e) (d:e) (i:Nat):e:=l.getD i d
def takeN {d:Type} (l:List d) (n:Nat):List d:=l.take n
def aP6 {d:Type} (n:Nat) (x:d):List d:=List.replicate n x
def iQ (a b:List UInt8):Bool:=decide (a.length+b.length<=mJ)
def pK {d:Type} (i:Nat) (l:List d):Bool:=TC i l.length
def aP5 (a b:Int):Int:=a.tmod b
def aPB (k:IntKind) (n:Int):Int:=k.wrap n
def aPD (a b:Int):Int:=a+b
def aP7 (a b:Int):Int:=a-b
def aPx (c:Int) (n:Nat):Bool:=decide (c.toNat*n<=mJ)
def jM (a b:Bool):Bool:=a==b
def pO (t:Ty) (x y:List t.den):Bool:=zJ (eqD t) x y
def ibW (s:List UInt8) (c:Int):Int:=Lib.indexByte s c.toNat.toUInt8
def cA:Code->Code
 |.seq a _=>a
 |.block _ c=>c
 |.loop c=>c
 |.scope c=>c
 |.cond _ a _=>a
 |.rangeFunc _ _ a _=>a
 |c=>c
def cB:Code->Code
 |.seq _ b=>b
 |.cond _ _ b=>b
 |.rangeFunc _ _ _ b=>b
 |c=>c
def jF:Code->List Code
 |.seq a b=>jF a++jF b
 |.cond _ a b=>jF a++jF b
 |.block _ c=>jF c
 |.scope c=>jF c
 |.loop c=>jF c++[c]
 |.rangeFunc _ _ a b=>jF a++jF b
 |_=>[]
def kC:Code->List (Code×Code)
 |.seq a b=>kC a++kC b
 |.cond _ a b=>kC a++kC b
 |.block _ c=>kC c
 |.scope c=>kC c
 |.loop c=>kC c
 |.rangeFunc _ _ a b=>(a,b)::(kC a++kC b)
 |_=>[]
def sG:Code->List Code
 |.seq a b=>sG a++(b::sG b)
 |.cond _ a b=>sG a++sG b
 |.block _ c=>sG c
 |.scope c=>sG c
 |.loop c=>sG c
 |.rangeFunc _ _ a b=>sG a++sG b
 |_=>[]
def acF (E:Env) (f:FuncId) (c:Code):Bool:=(sG c).all fun d=>(E.lp f (800000+dK d)).isNone
theorem lC {R:Type} {E:Env} {x:oQ R} {e:abe} {f:FuncId}: ∀c:Code,(∀x∈kC c,E.rf f (dK x.2)=true->ut f (dK x.2)=a6 x)->(∀d∈jF c,∀L,E.lp f (dK d)=a6 L->L.dep.ble E.dp=true->abd E x e f d L)->
  (∀d∈sG c,∀L,E.lp f (800000+dK d)=a6 L->L.dep.ble E.dp=true->aiE E x e f d L)->jQ E x e f c
 |.seq a b,g,h,k=>⟨⟨lC a (fun d hd=>g d (List.mem_append.2 (.inl hd))) (fun d hd=>h d (List.mem_append.2 (.inl hd))) fun d hd=>k d (List.mem_append.2 (.inl hd)),k b (List.mem_append.2 (.inr az))⟩,
   lC b (fun d hd=>g d (List.mem_append.2 (.inr hd))) (fun d hd=>h d (List.mem_append.2 (.inr hd))) fun d hd=>k d (List.mem_append.2 (.inr (aj _ hd)))⟩
 |.cond _ a b,g,h,k=>⟨lC a (fun d hd=>g d (List.mem_append.2 (.inl hd))) (fun d hd=>h d (List.mem_append.2 (.inl hd))) fun d hd=>k d (List.mem_append.2 (.inl hd)),lC b (fun d hd=>g d (List.mem_append.2 (.inr hd))) (fun d hd=>h d (List.mem_append.2 (.inr hd))) fun d hd=>k d (List.mem_append.2 (.inr hd))⟩
 |.block _ c,g,h,k=>lC (E:=E) c g h k
 |.scope c,g,h,k=>lC (E:=E) c g h k
 |.loop c,g,h,k=>⟨lC c g (fun d hd=>h d (List.mem_append.2 (.inl hd))) k,h c (List.mem_append.2 (.inr (List.mem_singleton.2 rfl)))⟩
 |.rangeFunc _ _ a b,g,h,k=>⟨lC a (fun d hd=>g d (aj _ (List.mem_append.2 (.inl hd)))) (fun d hd=>h d (List.mem_append.2 (.inl hd))) fun d hd=>k d (List.mem_append.2 (.inl hd)),
   lC b (fun d hd=>g d (aj _ (List.mem_append.2 (.inr hd)))) (fun d hd=>h d (List.mem_append.2 (.inr hd))) fun d hd=>k d (List.mem_append.2 (.inr hd)),g (a,b) az⟩
 |.skip,_,_,_|.label _,_,_,_|.region _ _ _,_,_,_|.exit _,_,_,_|.goto _,_,_,_|.ret,_,_,_|.refuse _,_,_,_=>trivial
theorem wY {E:Env} {f:FuncId} (c:Code) (g: ∀x∈kC c,E.rf f (dK x.2)=true->ut f (dK x.2)=a6 x) (h: ∀d∈jF c,∀L,E.lp f (dK d)=a6 L->dX E f d L)
  (k: ∀d∈sG c,∀L,E.lp f (800000+dK d)=a6 L->tH E f d L):dO E f c:=fun R m=>
 lC (E:=E.at m) c g (fun d hd L i j=>by
  have e:=h d hd L i R (m-L.dep);rw[show m-L.dep+L.dep=m from Nat.sub_add_cancel (Nat.le_of_ble_eq_true (m:=m) j)]at e;exact e) fun d hd L i j=>by
  have e:=k d hd L i R (m-L.dep);rw[show m-L.dep+L.dep=m from Nat.sub_add_cancel (Nat.le_of_ble_eq_true (m:=m) j)]at e;exact e
theorem arO {E:Env} {f:FuncId} {c:Code} (h:acF E f c=true): ∀d∈sG c,∀L,E.lp f (800000+dK d)=a6 L->tH E f d L:=fun d hd L e=>by
 have:=List.all_eq_true.1 h d hd;simp_all
def D7 (E:Env) (f:FuncId) (c:Code):List Code:=(sG c).filter fun d=>(E.lp f (800000+dK d)).isSome
theorem yf {E:Env} {f:FuncId} {c:Code} (h: ∀d∈D7 E f c,∀L,E.lp f (800000+dK d)=a6 L->tH E f d L): ∀d∈sG c,∀L,E.lp f (800000+dK d)=a6 L->tH E f d L:=fun d hd L e=>
 h d (List.mem_filter.2 ⟨hd,by rw[e];rfl⟩) L e
theorem sU {E:Env} {f:FuncId} (c:Code) (g: ∀x∈kC c,E.rf f (dK x.2)=true->ut f (dK x.2)=a6 x) (h: ∀d∈jF c,∀L,E.lp f (dK d)=a6 L->dX E f d L) (k:acF E f c=true:=by kernel_rfl):dO E f c:=
 wY c g h (arO k)
theorem aj6 {E:Env} {f:FuncId} (c:Code) (e: ∀id,E.rf f id=false) (h: ∀d∈jF c,∀L,E.lp f (dK d)=a6 L->dX E f d L) (k:acF E f c=true:=by kernel_rfl):dO E f c:=
 sU c (fun x _ g=>by simp_all) h k
theorem dm {d e:Type} (b:Bool) (x y:Option d) (k:d->Option e):bJ (bif b then x else y) k=bif b then bJ x k else bJ y k:=by cases b<;>rfl
theorem dn {d e:Type} (k:d->Option e):bJ a7 k=a7:=rfl
theorem bI {d e:Type} (x:d) (k:d->Option e):bJ (a6 x) k=k x:=rfl
theorem di {d e f:Type} (x:Option d) (k:d->Option e) (l:e->Option f):bJ (bJ x k) l=bJ x fun a=>bJ (k a) l:=by cases x<;>rfl
theorem ayh {d i e:Type} (a:d) (f:d->e) (g:i->e):dR (.inl a) f g=f a:=rfl
theorem aMO {i d e:Type} (b:d) (f:i->e) (g:d->e):dR (.inr b) f g=g b:=rfl
theorem dw {e i d j:Type} (o:e⊕i) (f:e->Option d) (g:i->Option d) (k:d->Option j):bJ (dR o f g) k=dR o (fun a=>bJ (f a) k) fun b=>bJ (g b) k:=by cases o<;>rfl
end
end Go.Proofs.YtkichehglnecnaaGreatDoor
