/- Parts of the proof, joined and shortened by a program: the plain machine, the functions as it prints them, and the mathematics over them. -/
import Derived.Stop.Looks
import Derived.RangeFuncNested
import Derived.RangeFuncRecord
import Derived.Sort.LoopGhostIn
import Derived.Laws.Externs
import Derived.Lib.Bytealg
import Derived.Test.YtjegbhogodknhaaGreatDoorZ1
set_option linter.unusedVariables false
set_option linter.unusedSimpArgs false
set_option maxRecDepth 100000
set_option maxHeartbeats 4000000
namespace Go.Proofs.YtjegbhogodknhaaGreatDoor
section
open Option renaming some → a6, none → a7
open Bool renaming and_eq_true → ah
open List renaming mem_append_right → bH, mem_append_left → bJ, eq_nil_of_length_eq_zero → bM
open Nat renaming le_refl → af, eq_of_beq_eq_true → ax
open Go.RowKit
section
variable {P:Program} {T:TT} {W0:World} {b0 n:Nat} {rd:Option Nat} {c:Cx} {R:Type} {r:R} {st:St} {a:Act} {ats:List (Array Value)}
theorem aAb {n lo hi:Int} (h:gy n lo hi=true):0<=lo/\lo<=hi/\hi<=n:=by
 simp_all [gy]
theorem Qk (d:jG W0 b0 rd c st a ats) {s:Nat} {t:Ty} {J:St} (h:Az s t st=a6 J): ∃c',jG W0 b0 rd c' J a ats/\c.Mono c'/\c'.w=c.w:=by
 have j: ∀l:s<a.tmps.toList.length,dh c (st.fr.getD s .undef) a.tmps.toList[s]:=fun l=>by
  have:=d.fr.getD s;rwa [Array.getD,dif_pos (by simpa using l)]at this
 obtain⟨V,K,W,nxt⟩:=st;simp only[Az]at h;split at h
 .rename_i A
  simp only at j;rw[A]at j;split at h
  .cases h
  .rename_i f
   rw[cond_eq_ite]at h;split at h
   .rename_i g
    cases h;simp only[ah]at g;have B:nxt<=1000000*K.length+800000+s:=by simp_all
    have D:0<t.size:=by simp_all
    obtain⟨c',hd,X,x⟩:=uu d.ok (st:=⟨V,K,W,nxt⟩) d.hp d.nxt f B (af nxt) (y:=t) D (xs:=[]) (v:=.slice a7 0 0) (w:=c.w) (Below.refl _ _) rH [] ⟨by simp,.inl ⟨rfl,rfl⟩⟩ (by simp[gV]) rfl (fun _=>rfl);have i:=d.did hd;refine⟨c',⟨i.hp,i.nxt,i.ok,bW.setL _ _ _ i.fr fun l=> ?_,i.stk,i.df,i.rd⟩,hd.le.mono,X⟩
    grind [dh]
   .cases h
 .rename_i id Y vw A
  simp only at j;rw[A]at j;split at h
  .rename_i u w m f
   rw[cond_eq_ite]at h;split at h
   .rename_i I
    have I:w=Y:=by simpa using I
    subst I;split at h
    .cases h;exact⟨c,d,Cx.Mono.refl c,rfl⟩
    .rename_i lo p
     rw[cond_eq_ite]at h;split at h
     .rename_i g
      cases h;simp only[beq_iff_eq]at g;subst g;have M:=d.hp;simp only at M;subst M;have Z:=d.ok.obj id _ f;obtain⟨ab,e,zs,N,q,ad⟩:=Z;by_cases l:s<a.tmps.toList.length
      .have x:=j l;simp only[dh]at x;have O:=(x.2.2 _ _ _ f).2 rfl;have⟨ae,ag⟩:0<=p/\p<=bV m:=by
        obtain⟨a1,n1,c1,S,_,p2,p3,_⟩:=O;obtain⟨a2,c2,e2,_⟩:=uC N;rw[e2]at S;cases S;exact⟨p2,p3⟩
       obtain⟨ak,U⟩:=Ja N ae ag O;have hk:(dZ.arr u w m).like (c.mu id) (.arr u (w+1) (m.take p.toNat)) ⟨(c.mu id).blk,a.tmps.toList[s]⟩:=⟨by omega,fun e=>by omega⟩;have z:=Cx.Le.put (w:=c.w) d.ok f hk (af _) (fun _ _ _=>rfl) (fun b g=>.inl (U b g)) (fun b L _ q=>⟨L,q⟩);have ai:=Cx.Ok.put (w:=c.w) d.ok f hk d.ok.bel (af _) (fun _ _ _=>rfl) (fun b g=>.inl (U b g)) (fun b L _ q=>⟨L,q⟩) (by
        refine⟨ab,e,zs.take (p.toNat*u.size), ?_,gV.take _ _ _ (gV.mono (fV.mono z.free u) _ _ q),ad⟩;simp_all [bV,Cx.put,upd_same])
       refine⟨c.put id (dZ.arr u (w+1) (List.take p.toNat m)) ⟨(c.mu id).blk,a.tmps.toList[s]⟩ c.w,⟨rfl,d.nxt,ai,bW.setL _ _ _ (bW.le z _ _ d.fr) fun _=> ?_,EX.le z _ _ d.stk, ?_, ?_⟩,z.mono,rfl⟩
       .simp only[dh];refine⟨x.1,.inl ⟨_,Cx.put_get f⟩,fun t' u' al aj=> ?_⟩;rw[Cx.put_get f]at aj;simp_all [jU,Cx.put,upd_same]
       .obtain⟨ds,B,D,h3⟩:=d.df;exact⟨ds,B,D,h3⟩
       .exact d.rd
      .exfalso;have hl:=bW.length _ _ d.fr;simp_all
     .cases h
   .cases h
  .cases h
 .cases h
theorem Lr (d:jG W0 b0 rd c st a ats) {s:Nat} {t:Ty} {D:St} (h:FP s t st=a6 D): ∃c',jG W0 b0 rd c' D a ats/\c.Mono c'/\c'.w=c.w:=by
 have I: ∀f:s<a.tmps.toList.length,dh c (st.fr.getD s .undef) a.tmps.toList[s]:=fun f=>by
  have:=d.fr.getD s;rwa [Array.getD,dif_pos (by simpa using f)]at this
 have ae: ∀(q: ∀f:s<a.tmps.toList.length,∃A,a.tmps.toList[s]=.slice A 0 0),∃c',jG W0 b0 rd c' {st with fr:=st.fr.set s (.val (.list t) [])} a ats/\c.Mono c'/\c'.w=c.w:=fun q=>
  ⟨c,⟨d.hp,d.nxt,d.ok,bW.setL _ _ _ d.fr fun f=>by
   obtain⟨A,X⟩:=q f;rw[X];simp only[dh];exact(VD.leaf rfl).2 ⟨A,0,[],rfl,af _,rfl,.inl rfl⟩,d.stk,d.df,d.rd⟩,Cx.Mono.refl c,rfl⟩
 unfold FP at h;split at h
 .simp_all [dh]
 .simp_all [dh]
 .rename_i id ag J
  rw[J]at I;split at h
  .rename_i u w K v
   replace h:=dQ h;obtain⟨y,h⟩:=h;simp only[ah,beq_iff_eq]at y;obtain⟨rfl,M⟩:=y;cases h;obtain⟨B,Y,N,nxt⟩:=st;have O:=d.hp;simp only at O v M J;subst O;have Z:bW c (B.set s .undef) a.tmps.toList:=bW.setL _ _ _ d.fr fun _=>by simp[dh]
   have hk:=Cx.keeps_filter (c:=c) (p:=fun i=> !Nat.beq i id) (wS M);have ab:=d.ok.filter (p:=fun i=> !Nat.beq i id) hk.right;have l:jG W0 b0 rd {c with hp:=c.hp.filter fun e=> !Nat.beq e.1 id} ⟨B.set s .undef,Y,c.hp.filter fun e=> !Nat.beq e.1 id,nxt⟩ a ats:=
    ⟨rfl,d.nxt,ab,bW.keeps _ _ hk.left.left Z,EX.keeps _ _ hk.left.right d.stk,d.df,d.rd⟩
   refine⟨{c with hp:=c.hp.filter fun e=> !Nat.beq e.1 id},⟨rfl,l.nxt,l.ok, ?_,l.stk,l.df,l.rd⟩,⟨fun _ h=>h,fun b L h=>⟨L,h⟩,af _,rfl,U0 c fun i=> !Nat.beq i id⟩,rfl⟩;have jW:=bW.setL (z:=.val (.list u) K) s _ _ l.fr fun f=>by
    have q:=I f;simp only[dh]at q ⊢;have S:=(q.2.2 _ _ _ v).2 rfl;simp only[jU]at S;obtain⟨ai,e,zs,U,hL,aj⟩:=d.ok.obj id _ v;rw[S];have ad:=gV.mono (fV.mono hk.free u) _ _ hL;rcases U.2 with ⟨m,V⟩|⟨g,ak,al,m,V,e3,e4,e5,e6,e7⟩
    .have hx:K=[]:=bM V;subst hx;rw[m];exact(VD.leaf rfl).2 ⟨a7,0,[],rfl,af _,rfl,.inl rfl⟩
    .obtain⟨a2,an,W,f2,f3⟩:=OY U;rw[m]at W;cases W;rw[m];refine(VD.leaf rfl).2 ⟨_,_,zs,rfl,e4,ad,f3.imp (fun h=>h) fun⟨g',q1,q2,q4,q3⟩=> ?_⟩;cases q1;refine⟨g,0,rfl,⟨q2, ?_, ?_,fun y=>(d.ok.bar _ y).2.1 ⟨id,_,v,by simp[dZ.blk,m,Value.ownBlock]⟩⟩,q3⟩
     .rintro ⟨j,o,x,h2⟩;simp only at x;rw[lU (fun i=> !Nat.beq i id)]at x;split at x
      .rename_i hj
       have:=d.ok.inj j id o _ g x v h2 (by simp[dZ.blk,m,Value.ownBlock]);simp_all
      .cases x
     .intro hm;obtain⟨_,hd⟩:=d.ok.mks g hm;simp_all
   simp_all
  .cases h
 .cases h
 .cases h;exact⟨c,d,Cx.Mono.refl c,rfl⟩
theorem aah (d:jG W0 b0 rd c st a ats) {id off:Nat} {t:Ty} {u:St} (h:U1 id off t st=a6 u): ∃c',jG W0 b0 rd c' u a ats/\c.Mono c'/\c'.w=c.w:=by
 have same:a6 st=a6 u-> ∃c',jG W0 b0 rd c' u a ats/\c.Mono c'/\c'.w=c.w:=fun h=>by cases h;exact⟨c,d,Cx.Mono.refl c,rfl⟩
 obtain⟨U,V,W,nxt⟩:=st;simp only[U1]at h;split at h
 .rename_i i cs X
  split at h
  .rename_i N
   split at h
   .rename_i O
    cases h;have l:ed c.hp id=a6 (.box i cs):=by rw[d.hp];exact X
    obtain⟨z,us,A,x,B⟩:=d.ok.obj id _ l;have S: ∀m:off<us.toList.length,us.toList[off]=.slice a7 0 0:=fun m=>by
     have:=bW.getD x off;rw[N,Array.getD,dif_pos (by simpa using m)]at this
     assumption
    have q:(dZ.box i cs).like (c.mu id) (.box i (cs.set off (.val (.list O) []))) (c.mu id):=rfl;have j:=Cx.Le.put (w:=c.w) d.ok l q (af _) (fun _ _ _=>rfl) (fun b f=>.inl f) (fun b L _ p=>⟨L,p⟩);have D:=Cx.Ok.put (w:=c.w) d.ok l q d.ok.bel (af _) (fun _ _ _=>rfl) (fun b f=>.inl f) (fun b L _ p=>⟨L,p⟩) (by
     refine⟨by simp only[Cx.put,upd_same];exact z,us,by simp only[Cx.put,upd_same];exact A, ?_,B⟩;exact bW.le j _ _ (bW.setL off _ _ x fun m=>by
      rw[S m];simp only[dh];exact(VD.leaf rfl).2 ⟨a7,0,[],rfl,af _,rfl,.inl rfl⟩))
    refine⟨c.put id (.box i (cs.set off (.val (.list O) []))) (c.mu id) c.w,⟨?_,d.nxt,D,bW.le j _ _ d.fr,EX.le j _ _ d.stk, ?_, ?_⟩,j.mono,rfl⟩
    .simp only[Cx.put];rw[d.hp]
    .obtain⟨I,J,K,M⟩:=d.df;exact⟨I,J,K,M⟩
    .exact d.rd
   generalize id+500000+2000*off=nm at h;split at h
   .cases h
   .rename_i Y
    rw[cond_eq_ite]at h;split at h
    .rename_i f
     cases h;simp only[ah]at f;have Z:nxt<=nm:=by simpa [Nat.ble_eq] using f.1
     have h2:0<t.size:=by have:=f.2;simp[Nat.blt]at this;omega
     have ab:nm≠id:=fun e=>by simp_all
     obtain⟨c',hd,hw,hv⟩:=uu d.ok (st:=⟨U,V,W,nxt⟩) d.hp d.nxt Y Z (af nxt) (y:=t) h2 (xs:=[]) (v:=.slice a7 0 0) (w:=c.w) (Below.refl _ _) rH [] ⟨by simp,.inl ⟨rfl,rfl⟩⟩ (by simp[gV]) rfl (fun _=>rfl);have g:=d.did hd;have l:ed c'.hp id=a6 (.box i cs):=by
      rw[hd.hp];simp only[fF]
      grind
     obtain⟨z,us,A,x,B⟩:=g.ok.obj id _ l;have S: ∀m:off<us.toList.length,us.toList[off]=.slice a7 0 0:=fun m=>by
      have:=bW.getD x off;rw[N,Array.getD,dif_pos (by simpa using m)]at this
      assumption
     have q:(dZ.box i cs).like (c'.mu id) (.box i (cs.set off (.slc nm 0 a7))) (c'.mu id):=rfl;have j:=Cx.Le.put (w:=c'.w) g.ok l q (af _) (fun _ _ _=>rfl) (fun b f=>.inl f) (fun b L _ p=>⟨L,p⟩);have D:=Cx.Ok.put (w:=c'.w) g.ok l q g.ok.bel (af _) (fun _ _ _=>rfl) (fun b f=>.inl f) (fun b L _ p=>⟨L,p⟩) (by
      refine⟨by simp only[Cx.put,upd_same];exact z,us,by simp only[Cx.put,upd_same];exact A, ?_,B⟩
      grind [bW.le,bW.setL])
     refine⟨c'.put id (.box i (cs.set off (.slc nm 0 a7))) (c'.mu id) c'.w,⟨?_,g.nxt,D,bW.le j _ _ g.fr,EX.le j _ _ g.stk, ?_, ?_⟩,hd.le.mono.trans j.mono,hw⟩
     .simp only[Cx.put];rw[hd.hp]
     .obtain⟨I,J,K,M⟩:=g.df;exact⟨I,J,K,M⟩
     .exact g.rd
    .cases h
  .exact same h
 .exact same h
theorem XL (k:Nat) (o:dZ) (i:Nat): ∀h:iD,ed (arA k o h) i=if k=i then a6 o else ed h i
 |[]=>by simp[arA,fF]
 |(j,p)::h=>by
  simp only[arA];rw[cond_eq_ite];split
  .rw[fF]
  .rename_i d
   have f:j≠k:=fun e=>d (by simp_all);rw[fF,XL k o i h,fF]
   grind
theorem zt (i:Nat): ∀h:iD,ed (nZ h) i=ed h i
 |[]=>rfl
 |(k,o)::h=>by simp only[nZ];rw[XL,zt i h,fF]
theorem jG.sorted (d:jG W0 b0 rd c st a ats): ∃c',jG W0 b0 rd c' {st with hp:=nZ st.hp} a ats/\c.Mono c'/\c'.w=c.w:=by
 have g: ∀i,ed (nZ c.hp) i=ed c.hp i:=fun i=>zt i _;have q: ∀(o:dZ) (l:Loc),o.like l o l:=fun o l=>by
  cases o<;>simp[dZ.like]
 have e:c.Le {c with hp:=nZ c.hp}:=by
  refine⟨fun b f=>⟨⟨f.1,fun⟨j,o,u,m⟩=>f.2.1 ⟨j,o,by simp_all,m⟩,f.2.2⟩,rfl⟩,fun id hk=> ?_,fun id v _ h=>⟨v,by rw[<-g];exact h,q _ _⟩,fun _ h=>h,fun b L h=>⟨L,h⟩,af _,rfl⟩;rcases hk with ⟨o,h⟩|h
  .exact .inl ⟨o,by simp_all⟩
  .exact .inr h
 have x:({c with hp:=nZ c.hp}:Cx).Ok W0:=by
  refine⟨d.ok.bel,fun id o h=> ?_,fun i j o p b u m=>d.ok.inj i j o p b (by simp_all) (by simp_all),d.ok.mks,fun b f=>(e.out b (d.ok.bar b f)).1,d.ok.phi⟩;exact(d.ok.obj id o (by rw[<-g];exact h)).le e rfl fun b _=>rfl
 exact⟨{c with hp:=nZ c.hp},⟨by show nZ c.hp=nZ st.hp;rw[d.hp],d.nxt,x,bW.le e _ _ d.fr,EX.le e _ _ d.stk,d.df,d.rd⟩,e.mono,rfl⟩
theorem aeS (e:jG W0 b0 rd c st a ats) {id off:Nat} {t:Ty} {d:St} (h:Q3 id off t st=a6 d): ∃c',jG W0 b0 rd c' d a ats/\c.Mono c'/\c'.w=c.w:=by
 simp only[Q3]at h;split at h
 .rename_i u f
  cases h;obtain⟨v,g,i,j⟩:=aah e f;obtain⟨l,m,p,q⟩:=g.sorted;exact⟨l,m,i.trans p,q.trans j⟩
 .cases h
theorem ah0 (g:jG W0 b0 rd c st a ats) {s id N:Nat} {u:TypeId} {xs:List cO} (hn:st.fr.getD s .undef=.ptr id 0) (O:ed st.hp id=a6 (.box u xs)) (aF:id≠N)
  (ab:st.nxt.ble N=true) (ad:F9 [id,N] (nY (st.fr.set s .undef)++uZ st.stk++(nY xs++zF (st.hp.filter fun e=> !(Nat.beq e.1 id||Nat.beq e.1 N))))=true):
  ∃c',jG W0 b0 rd c' {st with fr:=st.fr.set s (.ptr N 0),hp:=nZ ((N,.box u xs)::st.hp.filter fun e=> !(Nat.beq e.1 id||Nat.beq e.1 N))} a ats/\c.Mono c'/\c'.w=c.w:=by
 have ao: ∀W:s<a.tmps.toList.length,dh c (.ptr id 0) a.tmps.toList[s]:=fun W=>by
  have:=g.fr.getD s;rw[hn]at this;rwa [Array.getD,dif_pos (by simpa using W)]at this
 obtain⟨fr,stk,hp,nxt⟩:=st;have ae:=g.hp;have ag:=g.nxt;simp only at ae O ad hn ab ag;subst ae;subst ag;have ab:c.nxt<=N:=by simp_all
 have Z: ∀i∈nY (fr.set s .undef)++uZ stk++(nY xs++zF (c.hp.filter fun e=> !(Nat.beq e.1 id||Nat.beq e.1 N))),i≠id/\i≠N:=fun i A=>by
  have:=wS ad i A;simp_all
 have X: ∀i,ed (nZ ((N,.box u xs)::c.hp.filter fun e=> !(Nat.beq e.1 id||Nat.beq e.1 N))) i=if N=i then a6 (.box u xs)else if i=id then a7 else ed c.hp i:=fun i=>by
  rw[zt,fF];split
  .rfl
  .rename_i au
   rw[lU (fun i=> !(Nat.beq i id||Nat.beq i N))];have d:Nat.beq i N=false:=Bool.eq_false_iff.2 fun h=>au (ax h).symm;simp_all [Bool.eq_false_iff]
 generalize hH:nZ ((N,.box u xs)::c.hp.filter fun e=> !(Nat.beq e.1 id||Nat.beq e.1 N))=H at*;generalize I:({c with mu:=Go.Proofs.YtjegbhogodknhaaGreatDoor.upd c.mu N (c.mu id),hp:=H}:Cx)=c2;have S:c2.hp=H:=by rw[<-I]
 have B:c2.w=c.w:=by rw[<-I]
 have ai:c2.nxt=c.nxt:=by rw[<-I]
 have Y:c2.mks=c.mks:=by rw[<-I]
 have aj:c2.bar=c.bar:=by rw[<-I]
 have U:c2.mu N=c.mu id:=by rw[<-I];exact upd_same ..
 have M: ∀i,i≠N->c2.mu i=c.mu i:=fun i A=>by rw[<-I];simp[Go.Proofs.YtjegbhogodknhaaGreatDoor.upd,A]
 have ak: ∀b,(∃i o,ed c2.hp i=a6 o/\o.blk (c2.mu i)=a6 b)-> ∃i o,ed c.hp i=a6 o/\o.blk (c.mu i)=a6 b:=fun b ⟨i,o,d,m⟩=>by
  grind
 have al: ∀b,c.out b->c2.out b:=fun b D=>⟨by rw[B];exact D.1,fun h=>D.2.1 (ak b h),by rw[Y];exact D.2.2⟩;have av: ∀b,c.free b->c2.free b/\c2.w.heap[b]? =c.w.heap[b]? :=fun b D=>⟨⟨by rw[B];exact D.1,fun h=>D.2.1 (ak b h),by rw[Y,aj];exact D.2.2⟩,by rw[B]⟩;have keeps: ∀l:List Nat,(∀i∈l,i≠id/\i≠N)->c.Keeps c2 l:=fun l hl=>by
  refine⟨av,fun i A hk=> ?_,fun i A o' x=> ?_⟩
  .rcases hk with ⟨o,x⟩|hk
   .left
    grind
   .right;rw[ai];exact hk
  .rw[S,X,aq (fun e=>(hl i A).2 e.symm),aq (hl i A).1]at x;refine⟨o',x, ?_⟩;rw[M i (hl i A).2];exact o'.like_refl _
 have aw: ∀i o,i≠id->i≠N->ed c.hp i=a6 o->(i,o)∈c.hp.filter fun e=> !(Nat.beq e.1 id||Nat.beq e.1 N):=fun i o A ay x=>List.mem_filter.2 ⟨zq _ _ _ x,by
  have d:Nat.beq i N=false:=Bool.eq_false_iff.2 fun h=>ay (ax h);have m:Nat.beq i id=false:=Bool.eq_false_iff.2 fun h=>A (ax h);simp_all⟩
 have az:c2.Ok W0:=by
  refine⟨by rw[B];exact g.ok.bel,fun i o x=> ?_,fun i j o q b d m v y=> ?_,fun r aG=>by rw[B];exact g.ok.mks r (by simp_all),fun b D=>al b (g.ok.bar b (by simp_all)),g.ok.phi⟩
  .rw[S,X]at x;split at x
   .rename_i e;subst e;cases x
    obtain⟨d,vs,m,v,y⟩:=g.ok.obj id _ O;exact⟨by rw[U];exact d,vs,by rw[B,U];exact m,bW.keeps _ _ (keeps _ fun j hj=>Z j (bH _ (bJ _ hj))) v,y⟩
   .rename_i e
    split at x
    .cases x
    .rename_i J
     have K:=g.ok.obj i o x;have hm:=aw i o J (fun q=>e q.symm) x;have hk:=fun j hj=>Z j (bH _ (bH _ (Dp _ _ hm j hj)));have an:=M i (fun q=>e q.symm);cases o with
     |box e cs=>
      obtain⟨d,vs,m,v,y⟩:=K;refine⟨by rw[an];exact d,vs,by simp_all,bW.keeps _ _ (keeps _ hk) v,y⟩
     |arr t ver xs=>
      obtain⟨K,e,zs,d,m,v⟩:=K;refine⟨K,e,zs,by simp_all, ?_,v⟩
      grind [gV.mono,fV.mono]
     |lp f fr ps kH bd ky n p=>
      obtain⟨K,d,L,m,v,y⟩:=K;refine⟨K,by rw[an];exact d,L,by simp_all,bW.keeps _ _ (keeps _ hk) v,y⟩
     |dead=>trivial
     |mp kk vk es=>
      simp_all [Cx.ORel]
  .rw[S,X]at d m;split at d<;>split at m
   .omega
   .rename_i V J
    split at m
    .cases m
    .rename_i e3
     subst V;cases d;rw[U]at v;rw[M j (fun q=>J q.symm)]at y;exact absurd (g.ok.inj id j _ q b O m v y).symm e3
   .rename_i V J
    split at d
    .cases d
    .rename_i e3
     subst J;cases m;rw[U]at y;rw[M i (fun q=>V q.symm)]at v;exact absurd (g.ok.inj i id o _ b d O v y) e3
   .rename_i V J
    split at d
    .cases d
    .split at m
     .cases m
     .rw[M i (fun q=>V q.symm)]at v;rw[M j (fun q=>J q.symm)]at y;exact g.ok.inj i j o q b d m v y
 have aA:bW c (fr.set s .undef) a.tmps.toList:=bW.setL _ _ _ g.fr fun _=>by simp[dh]
 have kl:=keeps _ Z;have aB:=bW.keeps _ _ kl.left.left aA;have jW:=bW.setL (z:=.ptr N 0) s _ _ aB fun W=>by
  have hv:=ao W;simp only[dh]at hv ⊢;exact⟨hv.1,.inl ⟨_,by rw[S,X,am rfl]⟩,fun _ _ _=>by rw[U];exact hv.2.2 _ _ O⟩
 rw[List.set_set]at jW;exact⟨c2,⟨by rw[S],ai,az,jW,EX.keeps _ _ kl.left.right g.stk,by rw[Y];exact g.df,by rw[B];exact g.rd⟩,
  ⟨fun _ h=>by rw[Y];exact h,fun b L h=>⟨L,by rw[B];exact h⟩,by simp_all,aj,fun b D=>⟨al b D,by rw[B]⟩⟩,B⟩
theorem ae5 (d:jG W0 b0 rd c st a ats) {s:Nat} {t:Ty} {ae:St} (h:Ro s t st=a6 ae): ∃c',jG W0 b0 rd c' ae a ats/\c.Mono c'/\c'.w=c.w:=by
 have ag: ∀Y:s<a.tmps.toList.length,dh c (st.fr.getD s .undef) a.tmps.toList[s]:=fun Y=>by
  have:=d.fr.getD s;rwa [Array.getD,dif_pos (by simpa using Y)]at this
 unfold Ro at h;generalize hN:1000000*st.stk.length+800000+s=N at h;split at h
 .rename_i id ai Z
  rw[Z]at ag;rw[cond_eq_ite]at h;split at h
  .cases h;exact d.sorted
  .rename_i O
   have O:id≠N:=fun e=>O (by simp[e]);split at h
   .rename_i u w V S
    obtain⟨g,h⟩:=dQ h;simp only[ah]at g;obtain⟨aj,ak⟩:=g;cases h;obtain⟨fr,aB,hp,nxt⟩:=st;have al:=d.hp;have an:=d.nxt;simp only at al S ak Z aj an;subst al;subst an;have aj:c.nxt<=N:=by simp_all
    have ao: ∀i∈nY (fr.set s .undef)++uZ aB++zF (c.hp.filter fun e=> !(Nat.beq e.1 id||Nat.beq e.1 N)),i≠id/\i≠N:=fun i B=>by
     have:=wS ak i B;simp_all
    have ab: ∀i,ed (nZ ((N,.arr u w V)::c.hp.filter fun e=> !(Nat.beq e.1 id||Nat.beq e.1 N))) i=if N=i then a6 (.arr u w V)else if i=id then a7 else ed c.hp i:=fun i=>by
     rw[zt,fF];split
     .rfl
     .rename_i aF
      rw[lU (fun i=> !(Nat.beq i id||Nat.beq i N))];have m:Nat.beq i N=false:=Bool.eq_false_iff.2 fun h=>aF (ax h).symm;simp_all [Bool.eq_false_iff]
    generalize hH:nZ ((N,.arr u w V)::c.hp.filter fun e=> !(Nat.beq e.1 id||Nat.beq e.1 N))=H at*;generalize J:({c with mu:=Go.Proofs.YtjegbhogodknhaaGreatDoor.upd c.mu N (c.mu id),hp:=H}:Cx)=v;have W:v.hp=H:=by rw[<-J]
    have I:v.w=c.w:=by rw[<-J]
    have au:v.nxt=c.nxt:=by rw[<-J]
    have ad:v.mks=c.mks:=by rw[<-J]
    have av:v.bar=c.bar:=by rw[<-J]
    have aw:v.mu N=c.mu id:=by rw[<-J];exact upd_same ..
    have U: ∀i,i≠N->v.mu i=c.mu i:=fun i B=>by rw[<-J];simp[Go.Proofs.YtjegbhogodknhaaGreatDoor.upd,B]
    have ay: ∀b,(∃i o,ed v.hp i=a6 o/\o.blk (v.mu i)=a6 b)-> ∃i o,ed c.hp i=a6 o/\o.blk (c.mu i)=a6 b:=fun b ⟨i,o,m,y⟩=>by
     grind
    have az: ∀b,c.out b->v.out b:=fun b g=>⟨by rw[I];exact g.1,fun h=>g.2.1 (ay b h),by rw[ad];exact g.2.2⟩;have aG: ∀b,c.free b->v.free b/\v.w.heap[b]? =c.w.heap[b]? :=fun b g=>⟨⟨by rw[I];exact g.1,fun h=>g.2.1 (ay b h),by rw[ad,av];exact g.2.2⟩,by rw[I]⟩;have keeps: ∀l:List Nat,(∀i∈l,i≠id/\i≠N)->c.Keeps v l:=fun l hl=>by
     refine⟨aG,fun i B hk=> ?_,fun i B o' x=> ?_⟩
     .rcases hk with ⟨o,x⟩|hk
      .left
       grind
      .right;rw[au];exact hk
     .rw[W,ab,aq (fun e=>(hl i B).2 e.symm),aq (hl i B).1]at x;refine⟨o',x, ?_⟩;rw[U i (hl i B).2];exact o'.like_refl _
    have aH: ∀i o,i≠id->i≠N->ed c.hp i=a6 o->(i,o)∈c.hp.filter fun e=> !(Nat.beq e.1 id||Nat.beq e.1 N):=fun i o B aI x=>List.mem_filter.2 ⟨zq _ _ _ x,by
     have m:Nat.beq i N=false:=Bool.eq_false_iff.2 fun h=>aI (ax h);have y:Nat.beq i id=false:=Bool.eq_false_iff.2 fun h=>B (ax h);simp_all⟩
    have aJ:v.Ok W0:=by
     refine⟨by rw[I];exact d.ok.bel,fun i o x=> ?_,fun i j o q b m y A D=> ?_,fun r aZ=>by rw[I];exact d.ok.mks r (by simp_all),fun b g=>az b (d.ok.bar b (by simp_all)),d.ok.phi⟩
     .rw[W,ab]at x;split at x
      .rename_i e;subst e;cases x
       obtain⟨aK,e,zs,bb,hL,aO⟩:=d.ok.obj id _ S;refine⟨aK,e,zs, ?_, ?_,aO⟩
       .simp_all
       grind [gV.mono,fV.mono]
      .rename_i e
       split at x
       .cases x
       .rename_i K
        have M:=d.ok.obj i o x;have hm:=aH i o K (fun q=>e q.symm) x;have hk:=fun j hj=>ao j (bH _ (Dp _ _ hm j hj));have aA:=U i (fun q=>e q.symm);cases o with
        |box e cs=>
         obtain⟨m,vs,y,A,D⟩:=M;refine⟨by rw[aA];exact m,vs,by simp_all,bW.keeps _ _ (keeps _ hk) A,D⟩
        |arr t ai V=>
         obtain⟨M,e,zs,m,y,A⟩:=M;refine⟨M,e,zs,by simp_all, ?_,A⟩
         grind [gV.mono,fV.mono]
        |lp f fr ps kH bd ky n p=>
         obtain⟨M,m,L,y,A,D⟩:=M;refine⟨M,by rw[aA];exact m,L,by simp_all,bW.keeps _ _ (keeps _ hk) A,D⟩
        |dead=>trivial
        |mp kk vk es=>
         simp_all [Cx.ORel]
     .rw[W,ab]at m y;split at m<;>split at y
      .omega
      .rename_i X K
       split at y
       .cases y
       .rename_i e3
        subst X;cases m;rw[aw]at A;rw[U j (fun q=>K q.symm)]at D;exact absurd (d.ok.inj id j _ q b S y A D).symm e3
      .rename_i X K
       split at m
       .cases m
       .rename_i e3
        subst K;cases y;rw[aw]at D;rw[U i (fun q=>X q.symm)]at A;exact absurd (d.ok.inj i id o _ b m S A D) e3
      .rename_i X K
       split at m
       .cases m
       .split at y
        .cases y
        .rw[U i (fun q=>X q.symm)]at A;rw[U j (fun q=>K q.symm)]at D;exact d.ok.inj i j o q b m y A D
    have aP:bW c (fr.set s .undef) a.tmps.toList:=bW.setL _ _ _ d.fr fun _=>by simp[dh]
    have kl:=keeps _ ao;have aQ:=bW.keeps _ _ kl.left.left aP;have jW:=bW.setL (z:=.slc N ai a7) s _ _ aQ fun Y=>by
     have hv:=ag Y;simp only[dh]at hv ⊢;refine⟨hv.1,.inl ⟨_,by rw[W,ab,am rfl]⟩,fun t' u' be bf=> ?_⟩
     grind
    rw[List.set_set]at jW;exact⟨v,⟨by rw[W],au,aJ,jW,EX.keeps _ _ kl.left.right d.stk,by rw[ad];exact d.df,by rw[I];exact d.rd⟩,
     ⟨fun _ h=>by rw[ad];exact h,fun b L h=>⟨L,by rw[I];exact h⟩,by simp_all,av,fun b g=>⟨az b g,by rw[I]⟩⟩,I⟩
   .cases h
 .rename_i id Z
  rw[cond_eq_ite]at h;split at h
  .cases h;exact d.sorted
  .rename_i O
   have O:id≠N:=fun e=>O (by simp[e]);split at h
   .rename_i u V S
    obtain⟨g,h⟩:=dQ h;simp only[ah]at g;cases h;exact ah0 d Z S O g.1 g.2
   .cases h
 .cases x:Az s t st with
  |none=>simp_all
  |some bg=>
   rw[x]at h;cases h;obtain⟨c1,aS,aU,aV⟩:=Qk d x;obtain⟨v,aW,aX,aY⟩:=aS.sorted;exact⟨v,aW,aU.trans aX,aY.trans aV⟩
theorem WX {s:Nat} {t:Ty} {l:List (Nat×Ty)} {st d:St} (h:lw ((s,t)::l) st=a6 d):(∃t' st1,FP s t' st=a6 st1/\lw l st1=a6 d)\/(∃t' st1,Q3 (s/100) (s %100) t' st=a6 st1/\lw l st1=a6 d)\/(∃t' st1,Ro s t' st=a6 st1/\lw l st1=a6 d)\/ ∃st1,Az s t st=a6 st1/\lw l st1=a6 d:=by
 have own:(match Az s t st with|some st=>lw l st|none=>a7)=a6 d-> ∃st1,Az s t st=a6 st1/\lw l st1=a6 d:=fun h=>by
  grind
 cases t with
 |pair x y=>
  cases x with
  |unit=>
   grind [lw]
  |list z=>
   cases z with
   |unit=>
    grind [lw]
   |bool=>
    grind [lw]
   |_=>right;right;right;exact own h
  |_=>right;right;right;exact own h
 |_=>right;right;right;exact own h
theorem uw: ∀(l:List (Nat×Ty)) {c:Cx} {st:St},jG W0 b0 rd c st a ats-> ∀{v:St},lw l st=a6 v-> ∃c',jG W0 b0 rd c' v a ats/\c.Mono c'/\c'.w=c.w
 |[],c,st,u,v,h=>by cases h;exact⟨c,u,Cx.Mono.refl c,rfl⟩
 |(s,t)::l,c,st,u,v,h=>by
  rcases WX h with ⟨z,x,d,e⟩|⟨z,x,d,e⟩|⟨z,x,d,e⟩|⟨x,d,e⟩
  .obtain⟨y,f,g,i⟩:=Lr u d;obtain⟨j,m,p,q⟩:=uw l f e;exact⟨j,m,g.trans p,q.trans i⟩
  .obtain⟨y,f,g,i⟩:=aeS u d;obtain⟨j,m,p,q⟩:=uw l f e;exact⟨j,m,g.trans p,q.trans i⟩
  .obtain⟨y,f,g,i⟩:=ae5 u d;obtain⟨j,m,p,q⟩:=uw l f e;exact⟨j,m,g.trans p,q.trans i⟩
  .obtain⟨y,f,g,i⟩:=Qk u d;obtain⟨j,m,p,q⟩:=uw l f e;exact⟨j,m,g.trans p,q.trans i⟩
theorem sG (d:jG W0 b0 rd c st a ats) {A:List Nat} {i:List (Nat×Ty)} {e:St} (h:Nz A i st=a6 e): ∃c',jG W0 b0 rd c' e a ats/\c.Mono c'/\c'.w=c.w:=by
 have j:jG W0 b0 rd c {st with fr:=I7 A 0 st.fr} a ats:=⟨d.hp,d.nxt,d.ok,C9 0 _ _ d.fr,d.stk,d.df,d.rd⟩;have go: ∀{f:Cx} {l:St},jG W0 b0 rd f l a ats->(match lw i l with
   |some st=>match gc (1000000*st.stk.length) .undef st with
    |some st=>a6 (YQ st)
    |none=>a7
   |none=>a7)=a6 e-> ∃c',jG W0 b0 rd c' e a ats/\f.Mono c'/\c'.w=f.w:=fun {f l} j h=>by
  split at h
  .rename_i D g
   obtain⟨I,m,p,q⟩:=uw i j g;split at h
   .rename_i O J
    cases h;obtain⟨B,x,_,y,z,_,_⟩:=m.gc (v:=.undef) (u:=undef) (by simp[dh]) J;obtain⟨K,L,M,N⟩:=x.anew;exact⟨K,L,(p.trans y).trans M,N.trans (z.trans q)⟩
   .cases h
  .cases h
 unfold Nz at h;split at h
 .rename_i D g
  split at g
  .grind
  .obtain⟨I,m,_,p,q,_,_⟩:=j.gc (v:=.undef) (u:=undef) (by simp[dh]) g;obtain⟨B,x,y,z⟩:=go m h;exact⟨B,x,p.trans y,z.trans q⟩
 .cases h
theorem I5: ∀(l:List (Nat×Ty)) {c:Cx} {st:St},jG W0 b0 rd c st a ats-> ∀{d:St},Hu l st=a6 d-> ∃c',jG W0 b0 rd c' d a ats/\c.Mono c'/\c'.w=c.w
 |[],c,st,e,d,h=>by cases h;exact⟨c,e,Cx.Mono.refl c,rfl⟩
 |(s,t)::l,c,st,e,d,h=>by
  simp only[Hu]at h;split at h
  .rename_i v f
   obtain⟨x,g,i,j⟩:=Lr e f;obtain⟨m,p,q,u⟩:=I5 l g h;exact⟨m,p,i.trans q,u.trans j⟩
  .cases h
theorem YH (d:jG W0 b0 rd c st a ats) {k:fZ} {e:St} (h:av2 k st=a6 e): ∃c',jG W0 b0 rd c' e a ats/\c.Mono c'/\c'.w=c.w:=by
 simp only[av2]at h;split at h
 .rename_i D f
  have g:jG W0 b0 rd c {st with fr:=I7 k.rets 0 st.fr} a ats:=⟨d.hp,d.nxt,d.ok,C9 0 _ _ d.fr,d.stk,d.df,d.rd⟩;obtain⟨I,i,j,l⟩:=I5 k.give g f;split at h
  .rename_i J m
   cases h;obtain⟨K,p,_,q,x,_,_⟩:=i.gc (v:=.undef) (u:=undef) (by simp[dh]) m;obtain⟨y,z,A,B⟩:=p.anew;exact⟨y,z,(j.trans q).trans A,B.trans (x.trans l)⟩
  .cases h
 .cases h
end
end
section
open Option renaming some → a6, none → a7
open Bool renaming and_eq_true → ah, false_eq_true → ai
open List renaming mem_cons_of_mem → aB
open Nat renaming le_refl → af, lt_or_ge → ak
open Go.RowKit
def pX {R:Type} (P:Program) (call:gZ R):Prop:=
 ∀(W0:World) (b0:Nat) (rd:Option Nat) (l:cO) (m:List cO) (q:Option Nat) (st:St) (K:cO->St->Option R) (r:R),call l m q st K=a6 r->
  ∀(c:Cx) (a:Act) (ats:List (Array Value)) (i:Value) (j:Array Value),jG W0 b0 rd c st a ats->dh c l i->bW c m j.toList->
   ∃z v,K z st=a6 r/\dh c z v/\ ∀f,IP c f->(∃g p,(do let d<-Deferred.ofValue i j;invoke d.target d.args:Sem Next).run P f=.ok (.enter g p) f/\
    Calls P g p f (fun e u=>e=.returned v/\IP c u))\/(do let d<-Deferred.ofValue i j;invoke d.target d.args:Sem Next).run P f=.ok (.value v) f
section
variable {P:Program} {T:TT} {W0:World} {b0 n:Nat} {rd:Option Nat} {c:Cx} {R:Type} {r:R} {st:St} {a:Act} {ats:List (Array Value)}
theorem jG.ext (h:jG W0 b0 rd c st a ats) {w:World} (e:IP c w):jG W0 b0 rd (c.at_ w) st a ats:=by
 have d:=Cx.Le.ext e;exact⟨h.hp,h.nxt,h.ok.ext e,bW.le d _ _ h.fr,EX.le d _ _ h.stk,let⟨f,g,i,j⟩:=h.df;⟨f,g,i,j⟩,fun l m=>let⟨L,p⟩:=h.rd l m;d.lp l L p⟩
theorem aeQ (hT:TOk P T) {cl:Bool} {call:gZ R} (O:pX P call) {o:Oper} (I:lJ o.op=true) {K:cO->St->Option R} (h:fH T cl call o st K=a6 r) (d:jG W0 b0 rd c st a ats):
  ∃z v,K z st=a6 r/\dh c z v/\ ∀w',IP c w'->o.quietAtIn (FW rd) n P a (IP c) w' v:=by
 by_cases hq2:je o.op=true
 .obtain⟨z,u,j,l,p⟩:=Dn hT d.ok hq2 d.hp d.fr h;refine⟨z,u,j,l,fun w' q=> ?_⟩;unfold Oper.quietAtIn;rw[p w' q];exact⟨rfl,rfl⟩
 .obtain⟨y,S,J,L,M,N⟩:=o;cases S<;>simp only[lJ,ai]at I<;>(try (exact absurd rfl hq2))
  case call cc=>
   obtain⟨A,e,i⟩:=cc;cases A with
   |builtin b=>cases b<;>simp only[ai]at I<;>exact absurd rfl hq2
   |invoke x m=>simp_all
   |value f=>
    simp only[fH]at h;obtain⟨z,v,j,l,p⟩:=O W0 b0 rd _ _ y st K r h c a ats (a.eval f) (e.map a.eval) d (eu d.fr f) (by
     have:=bW.map_eval (c:=c) d.fr e.toList;simpa using this)
    refine⟨z,v,j,l,fun w' q=> ?_⟩;unfold Oper.quietAtIn;rcases p w' q with ⟨g,U,B,V⟩|B
    .have D:(execOp a.eval ⟨y,.call {callee:=.value f,args:=e,argTypes:=i},J,L,M,N⟩).run P w'=.ok (.enter g U) w':=B;rw[D];exact⟨rfl,wu rd,(callsIn_wide (n:=n-1)).2 V⟩
    .have D:(execOp a.eval ⟨y,.call {callee:=.value f,args:=e,argTypes:=i},J,L,M,N⟩).run P w'=.ok (.value v) w':=B;rw[D];exact⟨rfl,rfl⟩
theorem OE (hT:TOk P T) {cl:Bool} {call:gZ R} (u:pX P call) (ops:Array Oper) {K:St->Option R}: ∀(l:List Oper) (st:St) (a:Act),(∀o∈l,lJ o.op=true)->iU T cl call ops K l st=a6 r->jG W0 b0 rd c st a ats->
  wpQuietIn (FW rd) n P ops (IP c) (fun m=> ∃f,K f=a6 r/\jG W0 b0 rd c f m ats) l a
 |[],st,a,y,h,e=>by
  simp only[iU]at h;exact⟨st,h,e⟩
 |o::l,st,a,y,h,e=>by
  simp only[iU]at h;have I: ∀o∈l,lJ o.op=true:=fun L M=>y L (aB _ M);have A: ∀(st:St) (a:Act),jG W0 b0 rd c st a ats->fH T cl call o st (fun v st=>iU T cl call ops K l (st.put o.dst v))=a6 r->
    o.quietIn (FW rd) n P a (IP c) (wpQuietIn (FW rd) n P ops (IP c) (fun m=> ∃f,K f=a6 r/\jG W0 b0 rd c f m ats) l):=fun st a e h=>by
   obtain⟨z,v,p,N,O⟩:=aeQ (n:=n) hT u (y o (by simp)) h e;exact⟨v,O,OE hT u ops l _ _ I p (e.put N)⟩
  have B: ∀(st:St),jG W0 b0 rd c st a ats->iU T cl call ops K l (st.put o.dst (.tup []))=a6 r->wpQuietIn (FW rd) n P ops (IP c) (fun m=> ∃f,K f=a6 r/\jG W0 b0 rd c f m ats) l (a.put o.dst undef):=fun st e h=>
   OE hT u ops l (st.put o.dst (.tup [])) (a.put o.dst undef) I h (e.put (by simp only[dh];exact⟨#[],rfl,by simp[bW]⟩))
  simp only[wpQuietIn];refine⟨fun _ _ _ _=>trivial, ?_⟩;cases hg:o.guard with
  |none=>
   rw[hg]at h;rw[am (by simp[Region.wanted,hg])];exact A st a e h
  |some S=>
   obtain⟨j,U⟩:=S;rw[hg]at h;simp only at h;split at h
   .cases h
   .rename_i d hd
    have g:=J6 ops j d hd a.tmps;have i:=e.fr.getD d;split at h
    .rename_i b D
     rw[D]at i;simp only[dh]at i;have V:=i.bool_inv;have Y:d<a.tmps.size:=by
      rcases ak d a.tmps.size with p|p
      .exact p
      simp_all [undef]
     have J:a.tmps[d]? =a6 (.bool b):=by
      simp_all
     rw[J]at g;simp only at g;have W:a.put (a6 d) (.bool b)=a:=by
      simp only[Act.put];obtain⟨Z,ab⟩:=Array.getElem?_eq_some_iff.1 J;have:a.tmps.setIfInBounds d (.bool b)=a.tmps:=by
       grind
      rw[this]
     have q:jG W0 b0 rd c (st.put (a6 d) (.val .bool b)) a ats:=by
      have:=e.put (dst:=a6 d) (z:=.val .bool b) (v:=.bool b) (by simp_all [dh]);rwa [W]at this
     cases b<;>cases U<;>(try simp only[aa,ac]at h)
     .rw[am (by simp[Region.wanted,hg,g])];exact A _ a q h
     .rw[aq (by simp[Region.wanted,hg,g])];exact B _ q h
     .rw[aq (by simp[Region.wanted,hg,g])];exact B _ q h
     .rw[am (by simp[Region.wanted,hg,g])];exact A _ a q h
    .rename_i D
     rw[D]at i;simp only[dh]at i;obtain⟨vs,V,_⟩:=i;have X:yielded ops a.tmps j=a7:=by
      rw[g];cases he:a.tmps[d]? with
      |none=>rfl
      |some x=>
       simp_all
     rw[aq (by simp[Region.wanted,hg,X])];exact B st e h
    .cases h
section
variable {ops:Array Oper} {md:Region.Mode} {C:World->Prop} {F:Fence}
theorem Wv {o:Oper} (hd:uj o.op=false) {a:Act} {K:Act->Prop} {g:Act->World->Prop} {j:Exit->Act->World->Prop} {w:World} (i:C w) (h: ∀a w',C w'->K a->g a w')
  (l:o.askedIn F P a C) (m:o.quietIn F n P a C K):o.wpIn F n P a w g j:=by
 obtain⟨v,p,z⟩:=m;have d:=p w i;unfold Oper.quietAtIn at d;unfold Oper.wpIn;refine⟨l w i, ?_⟩;rw[zG hd];generalize (execOp a.eval o).run P w=r at*;cases r with
 |ok x w'=>
  cases x<;>simp only[Oper.quietUponIn]at d<;>simp only[Oper.uponIn]
  case value u=>
   simp_all
  case skip=>
   simp_all
  case enter f args=>
   obtain⟨q,hd,y⟩:=d;rw[q];exact⟨hd,y.mono fun e A ⟨B,D⟩=>by simp_all⟩
 |halt x w'=>simp only[Oper.quietUponIn]at d
theorem PD {i:Nat} (hd: ∀(i:Nat) (o:Oper),ops[i]? =a6 o->uj o.op=false) {a:Act} {K:Act->Prop} {f:Act->World->Prop} {j:Exit->Act->World->Prop} {w:World} (g:C w) (h: ∀a w',C w'->K a->f a w')
  (d:qOpIn F n P ops C i K a):wpOpIn F n P ops j i f a w:=by
 unfold qOpIn at d;unfold wpOpIn;split
 .simp_all
 .rename_i o l
  simp only[l]at d;obtain⟨m,d⟩:=d;split
  .rename_i e;simp only[e,if_true]at d;grind [Wv]
  .rename_i e;simp only[e]at d;exact⟨m w g,h _ _ g d⟩
theorem Be {Q:Act->Prop} {g:Exit->Act->World->Prop} (hd: ∀(i:Nat) (o:Oper),ops[i]? =a6 o->uj o.op=false) (f: ∀a w,C w->Q a->g .normal a w): ∀(d:Nat) (j:Array Bool) (a:Act) (w:World),C w->
  wpAnyQIn F n P md ops C Q d j a->wpAnyIn F n P md ops g d j a w
 |0,_,_,_,e,h=>⟨h.1,f _ _ e h.2⟩
 |d+1,_,_,_,e,h=>⟨fun l=>f _ _ e (h.1 l),fun i m=>PD hd e (fun p q u=>Be hd f d _ p q u) (h.2 i m)⟩
theorem J5 {id:Nat} {Q:Exit->Act->World->Prop} {a:Act} {w:World} (hd: ∀(i:Nat) (o:Oper),ops[i]? =a6 o->uj o.op=false) (f:P.follows .mixedOrders=true) (d:Region.lexB .any ops=true) (g:C {w with drawn:=w.drawn+1})
  (h:wpQuietIn F n P ops C (fun e=> ∀w',C w'->Q .normal e w') ops.toList a):(Code.region id ops true).wpIn F n P Q a w:=by
 simp only[Region.lexB,ah]at d;refine wpIn_region_any f (Be (Q:=fun e=> ∀w',C w'->Q .normal e w') hd (fun _ w' j h=>h w' j) _ _ _ _ g ?_);have:=wpAnyQIn_lex (F:=F) (n:=n) (C:=C) (md:=.any) d.1 ops.toList 0 (Array.replicate ops.size false) a (by simp) (by simpa using d.2) h;simpa using this
end
theorem zU {F:Fence} {ops:Array Oper} {C:World->Prop} {Q g:Act->Prop} (h: ∀a,Q a->g a): ∀(l:List Oper) (a:Act),wpQuietIn F n P ops C Q l a->wpQuietIn F n P ops C g l a
 |[],a,d=>h a d
 |o::l,a,d=>by
  simp only[wpQuietIn]at d ⊢;refine⟨d.1, ?_⟩;have e:=d.2;split
  .rename_i f
   rw[am f]at e;exact Oper.quietIn_mono (zU h l) e
  .rename_i f
   rw[aq f]at e;exact zU h l _ e
theorem WZ {d:Op} (h:lJ d=true):uj d=false:=by cases d<;>first|rfl|(simp[lJ]at h)
theorem PM (hT:TOk P T) (l:P.follows .mixedOrders=true) {cl:Bool} {call:gZ R} (m:pX P call) {id:Nat} {ops:Array Oper} (f:MP ops=true) {K:St->Option R} {Q:Exit->Act->World->Prop}
  (h:iU T cl call ops K ops.toList st=a6 r) (p:jG W0 b0 rd c st a ats) (q: ∀c' d e,K d=a6 r->jG W0 b0 rd c' d e ats->c.Mono c'->Q .normal e c'.w):
  (Code.region id ops true).wpIn (FW rd) n P Q a c.w:=by
 simp only[MP,ah]at f;have g: ∀o∈ops.toList,lJ o.op=true:=List.all_eq_true.1 f.1;refine J5 (C:=IP c) (fun i o z=>WZ (g o (by grind))) l f.2 ⟨rfl,rfl,rfl,af _,fun _ _=>rfl⟩ ?_;refine zU (fun e u v j=> ?_) _ _ (OE (n:=n) hT m ops ops.toList st a g h p);obtain⟨d,x,y⟩:=u;exact q (c.at_ v) d e x (y.ext j) (Cx.Le.ext j).mono
end
end
section
open Option renaming some → a6, none → a7
open Bool renaming and_eq_true → ah, false_eq_true → ai
open List renaming map_cons → ay, map_nil → aV
open Nat renaming le_refl → af
open Go.RowKit
section
variable {P:Program} {T:TT} {W0:World} {b0 n:Nat} {rd:Option Nat} {c:Cx} {R:Type} {r:R} {st:St} {a:Act} {ats:List (Array Value)} {t:TypeId}
theorem ayU (hT:TOk P T) (W:c.Ok W0) {cl:Bool} {call:gZ R} {o:Oper} {st:St} {a:Act} {K:cO->St->Option R} (O:JO o.op=true) (L:c.hp=st.hp) (m:bW c st.fr a.tmps.toList)
  (h:fH T cl call o st K=a6 r): ∃z u,K z st=a6 r/\dh c z u/\ ∀w',(execOp a.eval o).run P w'=.ok (.value u) w':=by
 have J: ∀{s:Sem Value} {u:Value} {w':World},s.run P w'=.ok u w'->(do pure (Next.value (<-s)):Sem Next).run P w'=.ok (.value u) w':=fun X=>by
  simp[Sem.run_bind,X]
 obtain⟨av,Y,ty,aw,ax,az⟩:=o;simp only at O;cases Y<;>simp only[JO,ai]at O
 case move x=>exact⟨_,_,h,eu m x,fun w'=>rfl⟩
 case assign x=>exact⟨_,_,h,eu m x,fun w'=>rfl⟩
 case pick x y z=>
  simp only[fH]at h;have Z:=eu m x;split at h
  .rename_i b A
   rw[A]at Z;simp only[dh]at Z;have ad:=Z.bool_inv;cases b
   .exact⟨_,_,h,eu m z,fun w'=>by simp[execOp,ad,asBool]⟩
   .exact⟨_,_,h,eu m y,fun w'=>by simp[execOp,ad,asBool]⟩
  .cases h
 case nilCheck x=>
  simp only[fH]at h;have d:=eu m x;split at h
  .rename_i id off M
   rw[M]at d;split at h
   .rename_i bt cs ae
    have S:=d;simp only[dh]at d;rw[<-L]at ae;have D:=d.2.2 _ _ ae;exact⟨_,_,h,S,fun w'=>by simp[execOp,D]⟩
   .cases h
  .rename_i y e M
   rw[M]at d;have S:=d;simp only[dh]at d;obtain⟨b,o,zs,D,_⟩:=d;exact⟨_,_,h,S,fun w'=>by simp[execOp,D]⟩
  .rename_i id ak i off M
   rw[M]at d;split at h
   .rename_i e u xs ag
    replace h:=dQ h;obtain⟨I,h⟩:=h;have I:u=ak:=by simpa using I
    subst I;have S:=d;simp only[dh]at d;rw[<-L]at ag;obtain⟨g,n,cp,_,D⟩:=(d.2.2 _ _ _ ag).2 rfl;exact⟨_,_,h,S,fun w'=>by simp[execOp,D]⟩
   .cases h
  .cases h
 case binOp Y t x y yt=>
  simp only[fH]at h;rw[<-L]at h;obtain⟨z,u,j,p,q⟩:=atO (P:=P) (ox:=x) (oy:=y) (K:=fun v=>K v st) hT W h (eu m x) (eu m y);exact⟨z,u,j,p,fun w'=>J (q w')⟩
 case unOp Y t x=>
  simp only[fH]at h;obtain⟨z,u,j,p,q⟩:=aG0 (P:=P) (K:=fun v=>K v st) h (eu m x);exact⟨z,u,j,p,fun w'=>J (q w')⟩
 case slice t x lo hi mx=>
  simp only[fH]at h;rw[<-L]at h;obtain⟨z,u,j,p,q⟩:=akR (P:=P) (K:=fun v=>K v st) hT W h (eu m x) (oG.map m lo) (oG.map m hi) (oG.map m mx);exact⟨z,u,j,p,fun w'=>J (q w')⟩
 case fieldAddr t x f=>
  simp only[fH]at h;rw[<-L]at h;obtain⟨z,u,j,p,q⟩:=Qn (P:=P) (K:=fun v=>K v st) hT h (eu m x);exact⟨z,u,j,p,fun w'=>J (q w')⟩
 case field t x f=>
  simp only[fH]at h;obtain⟨z,u,j,p,q⟩:=akP (P:=P) (K:=fun v=>K v st) hT h (eu m x);exact⟨z,u,j,p,fun w'=>J (q w')⟩
 case indexAddr t x i=>
  simp only[fH]at h;rw[<-L]at h;obtain⟨z,u,j,p,q⟩:=Qo (P:=P) (K:=fun v=>K v st) hT W h (eu m x) (eu m i);exact⟨z,u,j,p,fun w'=>J (q w')⟩
 case index t x i=>
  simp only[fH]at h;split at h
  .rename_i s n X hn
   replace h:=gY h;obtain⟨j,h⟩:=h;have d:=eu m x;rw[X]at d;obtain⟨p,q⟩:=akQ (P:=P) hT d (eu m i) hn j;exact⟨_,_,h,p,fun w'=>J (q w')⟩
  .cases h
 case extract x n=>
  simp only[fH]at h;have d:=eu m x;split at h
  .rename_i l hl
   rw[hl]at d;split at h
   .rename_i v D
    simp only[dh]at d;obtain⟨vs,M,aj⟩:=d;obtain⟨hn,D⟩:=List.getElem?_eq_some_iff.1 D;have an:=bW.length _ _ aj;simp at an;have j:=bW.get _ _ aj n hn (by simp;omega);rw[D]at j;simp only[Array.getElem_toList]at j;refine⟨_,_,h,j,fun w'=>J ?_⟩;rw[M];have:vs[n]? =a6 vs[n]:=Array.getElem?_eq_getElem (by omega);simp[Instr.extract,this]
   .cases h
  .cases h
 case call cc=>
  obtain⟨aA,U,ao⟩:=cc;simp only at O;have B:=bW.map_eval (c:=c) m U.toList;split at O
  all_goals try (cases O;done)
  .
   simp only[fH,mF]at h;split at h<;>try (cases h;done)
   .rename_i x A d
    split at h<;>try (cases h;done)
    rename_i t ht
    rw[<-L]at h;obtain⟨N,au⟩: ∃N,U= #[N]:=by
     obtain⟨l⟩:=U
     match l,d with
     |[N],_=>exact⟨N,rfl⟩
    subst au;obtain⟨t0⟩:=ao;simp only at ht;subst ht;simp only[ay,aV,List.cons.injEq,and_true]at d;subst d;obtain⟨z,u,j,p,q⟩:=q_len (P:=P) (K:=fun v=>K v st) hT W h (eu m N) (ty:=ty);exact⟨z,u,j,p,fun w'=>by simp[execOp,resolve,invoke,builtin,Sem.run_bind,q w']⟩
   all_goals (rename_i A _;cases A)
  .
   simp only[fH,mF]at h;split at h<;>try (cases h;done)
   all_goals try (rename_i A _;cases A;done)
   rename_i k n l A d
   split at h<;>try (cases h;done)
   rename_i ns ab
   rw[d]at B;obtain⟨V⟩:=U;cases V with
   |nil=>simp[bW]at B
   |cons N V=>
    simp only[ay,bW]at B;have I:=B.1;simp only[dh]at I;have j:=I.int_inv;have p:=wz _ _ _ ab B.2;exact⟨_,_,h,by simp only[dh];exact VD.int_mk,fun w'=>by simp[execOp,resolve,invoke,builtin,Sem.run_bind,Builtin.min_,j,p,Vy]⟩
  .
   simp only[fH,mF]at h;split at h<;>try (cases h;done)
   all_goals try (rename_i A _;cases A;done)
   rename_i k n l A d
   split at h<;>try (cases h;done)
   rename_i ns ab
   rw[d]at B;obtain⟨V⟩:=U;cases V with
   |nil=>simp[bW]at B
   |cons N V=>
    simp only[ay,bW]at B;have I:=B.1;simp only[dh]at I;have j:=I.int_inv;have p:=wz _ _ _ ab B.2;exact⟨_,_,h,by simp only[dh];exact VD.int_mk,fun w'=>by simp[execOp,resolve,invoke,builtin,Sem.run_bind,Builtin.max_,j,p,Vx]⟩
def jk {e:Type} (x:Sem e):Prop:= ∀P w v d,x.run P w=.ok v d->Below w.heap.size w d
theorem jk.pure {d:Type} (v:d):jk (pure v:Sem d):=fun P w v e h=>by simp_all [Below.refl]
theorem jk.looks {d:Type} {x:Sem d} (h:x.Looks):jk x:=fun P w v f e=>by rw[h.ok e];exact Below.refl _ _
theorem jk.bind {g j:Type} {x:Sem g} {f:g->Sem j} (hx:jk x) (hf: ∀a,jk (f a)):jk (x>>=f):=fun P w v l h=>by
 rw[Sem.run_bind]at h;cases hr:x.run P w with
 |halt e d=>simp_all
 |ok u d=>
  rw[hr,Result.andThen_ok]at h;have i:=hx P w u d hr;exact i.trans ((hf u P d v l h).mono i.size)
theorem jk.never {d:Type} {x:Sem d} (h: ∀P w v w',x.run P w≠ .ok v w'):jk x:=fun P w v w' e=>absurd e (h P w v w')
theorem jk.ite {d:Type} {p:Prop} [Decidable p] {x y:Sem d} (hx:jk x) (e:jk y):jk (if p then x else y):=by split<;>assumption
theorem jk.new (o:Obj):jk (newObj o):=fun P w v d h=>by
 have e:(newObj o).run P w=.ok w.heap.size (w.alloc o):=rfl;rw[e]at h;cases h;exact(Below.refl _ _).alloc (af _) o
theorem xI (t:TypeId):jk (underlying t):=.looks (underlying_looks t)
theorem agJ (t:TypeId):jk (typeInfo t):=.looks (typeInfo_looks t)
theorem Uf (t:TypeId):jk (sizeOf t):=.looks (sizeOf_looks t)
theorem sK {d:Type} (s:String):jk (stuck s:Sem d):=.looks (stuck_looks s)
theorem I4 {d:Type} (u:Unsupported):jk (unsupported u:Sem d):=.looks (unsupported_looks u)
theorem ajg (t:TypeId):jk (isAgg t):=by
 unfold isAgg;refine(xI t).bind fun d=> ?_;split<;>exact .pure _
theorem adQ (t:TypeId):jk (zeroValue t):=by
 unfold zeroValue;refine(agJ t).bind fun d=> ?_;split
 .exact .pure _
 .exact I4 _
theorem agI (v:Value):jk (Instr.sureAddr v):=by
 unfold Instr.sureAddr;split
 .exact .pure _
 .exact sK _
theorem anc (t:TypeId) (a:Addr):jk (loadVar t a):=by
 unfold loadVar;refine(ajg t).bind fun d=> ?_;split
 .exact(Uf t).bind fun k=>(jk.looks (loadCells_looks a k)).bind fun _=>.pure _
 .exact .looks (load_looks _ _)
theorem ana (v:Value):jk (asIntOf v):=by
 unfold asIntOf;split
 .exact .pure _
 .exact I4 _
 .exact sK _
theorem art (v:Value):jk (asBool v):=by
 unfold asBool;split
 .exact .pure _
 .exact sK _
theorem UR {d g:Type} {x:Sem d} {f:d->Sem g} (hf: ∀a P w v w',(f a).run P w≠ .ok v w'): ∀P w v w',(x>>=f).run P w≠ .ok v w':=fun P w v w' h=>by
 rw[Sem.run_bind]at h;cases hr:x.run P w with
 |halt e i=>simp_all
 |ok u i=>simp_all
theorem WP {d:Type} (v:Value): ∀P w u w',(goPanic v:Sem d).run P w≠ .ok u w':=fun P w u w' h=>by cases h
theorem JK {d:Type} (e:RuntimeError): ∀P w u w',(runtimePanic e:Sem d).run P w≠ .ok u w':=by
 grind [runtimePanic,UR,WP]
theorem WH {d:Type} (k:IntKind) (x y:Int) (code:BoundsCode):jk (boundsPanic k x y code:Sem d):=by
 unfold boundsPanic;dsimp only;split<;>exact .never (UR fun _=>JK _)
theorem adO (e:TypeId) (cs:Array Value):jk (newRow e cs):=by
 unfold newRow;exact(jk.new _).bind fun _=>.pure _
theorem aBR (t:TypeId) (cs:Array Value) (off:Nat):jk (part t cs off):=by
 unfold part;refine(ajg t).bind fun b=> ?_;split
 .exact(Uf t).bind fun _=>.pure _
 .split
  .exact .pure _
  .exact sK _
theorem arv (t:TypeId) (v:Value):jk (Instr.loadAt t v):=by
 unfold Instr.loadAt;exact(agI v).bind fun a=>anc t a
theorem anb (t:Value) (i:Nat):jk (Instr.extract t i):=by
 unfold Instr.extract;split
 .split
  .exact .pure _
  .exact sK _
 .exact sK _
theorem axi (t:TypeId) (x i:Value):jk (Instr.index t x i):=by
 unfold Instr.index;refine(ana i).bind fun e=> ?_;refine(xI t).bind fun d=> ?_
 repeat' first
  |exact WH _ _ _ _
  |exact sK _
  |exact .pure _
  |exact(Uf _).bind fun _=>aBR _ _ _
  |split
  |dsimp only
theorem aGg (t:TypeId) (v:Value):jk (Instr.box t v):=by
 unfold Instr.box newVar;exact(adO _ _).bind fun _=>.pure _
theorem axh (t:TypeId):jk (Instr.alloc t true (.tuple #[])):=by
 unfold Instr.alloc;refine(adQ t).bind fun z=> ?_;dsimp only;unfold newVar;exact(adO _ _).bind fun _=>.pure _
theorem ZE (r:Nat):(getObj r).Looks:=fun _=>trivial
theorem adN (r:Nat):jk (getObj r):=.looks (ZE r)
theorem axj (r:Nat):jk (Go.shape r):=.looks (fun _=>trivial)
theorem arw (r:Nat):jk (viewAt r):=by
 unfold viewAt
 repeat' first
  |exact .pure _
  |exact axj _
  |exact adN _
  |(refine jk.bind ?_ fun _=> ?_)
  |split
  |dsimp only
theorem aru (t:TypeId):jk (elemOf t):=by
 unfold elemOf;refine(xI t).bind fun d=> ?_;split
 .exact .pure _
 .exact sK _
theorem aGh (d:Array TypeId) (ty:TypeId) (args:Array Value):jk (Builtin.len_ d ty args):=by
 unfold Builtin.len_
 repeat' first
  |exact .pure _
  |exact sK _
  |exact xI _
  |exact adN _
  |(refine jk.bind ?_ fun _=> ?_)
  |split
  |dsimp only
theorem adP (d:Array TypeId) (ty:TypeId) (args:Array Value):jk (Builtin.unsafeSliceData_ d ty args):=by
 obtain⟨l⟩:=args
 match l with
 |[]=>exact sK _
 |_::_::_=>exact sK _
 |[v]=>
  cases v with
  |slice a n c=>
   cases a with
   |none=>exact jk.pure _
   |some a=>
    have e:Builtin.unsafeSliceData_ d ty #[.slice (a6 a) n c]=(do
      if c≠0 then pure (.pointer (a6 a))
      else if(<-viewAt a.block).isSome then pure (.pointer (a6 a))
      else pure (.pointer (a6 ⟨<-newObj (.view a (<-elemOf ty)),0,a7⟩))):=rfl
    rw[e]
    repeat' first
     |exact .pure _
     |exact arw _
     |exact aru _
     |exact jk.new _
     |(refine jk.bind ?_ fun _=> ?_)
     |split
     |dsimp only
  |_=>exact sK _
theorem agT {o:Oper} (hk:QW o.op=true) (d:Operand->Value) (P:Program) (w:World) (v:Next) (w':World) (h:(execOp d o).run P w=.ok v w'):(∃u,v=.value u)/\Below w.heap.size w w':=by
 have f: ∀{s:Sem Value},jk s->(do pure (Next.value (<-s)):Sem Next).run P w=.ok v w'->(∃u,v=.value u)/\Below w.heap.size w w':=fun {s} D h=>by
  rw[Sem.run_bind]at h;cases hr:s.run P w with
  |halt e I=>simp_all
  |ok u I=>
   rw[hr,Result.andThen_ok,Sem.run_pure]at h;cases h;exact⟨⟨u,rfl⟩,D P w u w' hr⟩
 obtain⟨l,J,g,m,p,q⟩:=o;simp only at hk;cases J<;>simp only[QW,ai]at hk
 case move x=>cases h;exact⟨⟨_,rfl⟩,Below.refl _ _⟩
 case assign x=>cases h;exact⟨⟨_,rfl⟩,Below.refl _ _⟩
 case pick x y z=>
  have e:execOp d ⟨l,.pick x y z,g,m,p,q⟩=(do pure (Next.value (<-(do pure (if<-asBool (d x)then d y else d z):Sem Value))):Sem Next):=by
   simp[execOp,bind_assoc]
  rw[e]at h;exact f ((art _).bind fun _=>.pure _) h
 case load t x=>exact f (arv t (d x)) h
 case index t x i=>exact f (axi t (d x) (d i)) h
 case extract x i=>exact f (anb (d x) i) h
 case box t x=>exact f (aGg t (d x)) h
 case alloc t=>exact f (axh t) h
 case call cc=>
  obtain⟨A,j,B⟩:=cc;cases A with
  |builtin b=>
   cases b<;>simp only[ai]at hk
   case len=>
    grind [execOp,builtin,resolve,invoke,aGh]
   case unsafeSliceData=>
    have e:execOp d ⟨l,.call {callee:=.builtin .unsafeSliceData,args:=j,argTypes:=B},g,m,p,q⟩=(do pure (Next.value (<-Builtin.unsafeSliceData_ B g (j.map d))):Sem Next):=by
     rfl
    grind [adP]
  |_=>simp at hk
theorem rq {ops:Array Oper} (h:pz ops=true) (i:Nat) (o:Oper) (d:ops[i]? =a6 o):uj o.op=false/\ ∀cs b,o.op≠ .select cs b:=by
 have:=List.all_eq_true.1 h o (by grind)
 grind [uj]
def sH (P:Program) (ops:Array Oper) (C:World->Prop) (o:Oper) (v:Value) (a:Act):Prop:=
 (Region.wanted o (yielded ops a.tmps)=true/\ ∀w,C w->(execOp a.eval o).run P w=.ok (.value v) w)\/(Region.wanted o (yielded ops a.tmps)=false/\v=undef)
def YN (P:Program) (C:World->Prop) (o:Oper):Prop:=(∀w,C w)\/ ∀e w v d,C w->(execOp e o).run P w=.ok v d->(∃u,v=.value u)/\C d
variable {ops:Array Oper} {C:World->Prop} {Q:Exit->Act->World->Prop}
theorem sH.of_same {o:Oper} {v:Value} {a d:Act} (i:sH P ops C o v a) (j:execOp d.eval o=execOp a.eval o)
  (f:Region.wanted o (yielded ops d.tmps)=Region.wanted o (yielded ops a.tmps)):sH P ops C o v d:=by
 rcases i with ⟨e,g⟩|⟨e,g⟩
 .exact .inl ⟨by rw[f];exact e,fun w l=>by simp_all⟩
 .exact .inr ⟨by rw[f];exact e,g⟩
theorem sH.wpOpIn {i:Nat} {o:Oper} {v:Value} {a:Act} (hd:pz ops=true) (hi:ops[i]? =a6 o) (e:sH P ops C o v a) {K:Act->World->Prop} {w:World} (f:C w) (h:K (a.put o.dst v) w):wpOpIn (FW rd) n P ops Q i K a w:=by
 unfold Go.wpOpIn;simp only[hi];rcases e with ⟨d,g⟩|⟨d,rfl⟩
 .rw[am d];refine⟨tY o w _, ?_⟩;rw[zG (rq hd i o hi).1,g w f];exact h
 .rw[aq (by rw[d];simp)]
  grind [tY]
theorem afG {j:Nat} {e g:Oper} {v:Value} (hd:pz ops=true) (hi: ∃i:Nat,ops[i]? =a6 e) (p:ops[j]? =a6 g) (B:e.apart ops g=true) (D:YN P C g) (M: ∀c a w,¬Q (.panic c) a w) {K:Act->World->Prop} {a:Act} {w:World} (N:C w)
  (l:sH P ops C e v a) (h:wpOpIn (FW rd) n P ops Q j K (a.put e.dst v) w):wpOpIn (FW rd) n P ops Q j (fun q w'=>C w'/\sH P ops C e v q/\K (q.put e.dst v) w') a w:=by
 obtain⟨y,O,z⟩:=Oper.apart_spec B;obtain⟨i,hi⟩:=hi;have I:=(rq hd i e hi).2;obtain⟨A,J⟩:=rq hd j g p;have S: ∀(a:Act),sH P ops C e v a-> ∀u,sH P ops C e v (a.put g.dst u):=fun a l u=>l.of_same (execOp_put e I a g.dst u z) (wanted_put e a g.dst u z);unfold wpOpIn at*;simp only[p]at*;rw[wanted_put g a e.dst v y]at h;split
 .rename_i m
  rw[am m]at h;unfold Oper.wpIn at*;refine⟨tY g w _, ?_⟩;have h:=h.2;rw[zG A,execOp_put g J a e.dst v y]at h;rw[zG A];have hk:(∀w,C w)\/ ∀x w',(execOp a.eval g).run P w=.ok x w'->(∃u,x=.value u)/\C w':=by
   rcases D with hk|hk
   all_goals grind
  generalize (execOp a.eval g).run P w=r at*;cases r with
  |ok x w'=>
   have L:(∀w,C w)\/((∃u,x=.value u)/\C w'):=by
    simp_all
   cases x<;>simp only[Oper.uponIn]at h ⊢
   case value u=>
    grind [Act.put_comm]
   case skip=>
    grind [Act.put_comm]
   case defer d=>
    rcases L with hk|hk
    .have U: ∀d,sH P ops C e v {a with defers:=d::a.defers}:=fun d=>l.of_same rfl rfl
     grind [Act.put_comm,Act.put_defers]
    simp_all
   case enter f args=>
    grind [Act.put_comm]
   case row row args=>
    grind [Act.put_comm]
   grind [Act.put_comm]
  |halt x w'=>
   cases x<;>simp only[Oper.uponIn]at h ⊢;simp_all
 .rename_i m
  rw[aq m]at h
  grind [tY,Act.put_comm]
theorem Oy {l:List Nat} {i:Nat}:XV l i=true↔i∈l:=by
 simp_all [XV]
theorem G9 {i:Nat} {p:Oper} {v:Value} (hd:pz ops=true) (hi:ops[i]? =a6 p) (K: ∀c a w,¬Q (.panic c) a w) (D:List Nat) (L: ∀j∈D,j≠i->G6 ops j D=true):
  ∀(q:Nat) (d:Array Bool) (a:Act) (w:World),C w->(∀j∈D,d.getD j true=false)->
   (∀j m,ops[j]? =a6 m->j∉D->d.getD j true=false->p.apart ops m=true/\YN P C m)->i∈D->
   i∈Region.ready .any ops d->sH P ops C p v a->
   wpAnyIn (FW rd) n P .any ops Q q (d.setIfInBounds i true) (a.put p.dst v) w->wpAnyIn (FW rd) n P .any ops Q (q+1) d a w:=by
 have M: ∀(d:Array Bool) (j:Nat),(∀j∈D,d.getD j true=false)->j∈Region.ready .any ops d->j≠i->j∉D:=fun d j u l f x=>by
  have g:=L j x f;unfold G6 at g;obtain⟨_,m,y,N⟩:=mem_ready.1 l;rw[y]at g;obtain⟨e,he,O⟩:=Array.any_eq_true'.1 g;simp only[ah]at O
  grind [Oy]
 intro q
 induction q with
 |zero=>
  intro d a w g u _ A B z H;refine⟨fun h=>(by simp_all),fun j l=> ?_⟩;by_cases f:j=i
  .subst f;exact z.wpOpIn hd hi g H
  .have:=ready_mono l f;rw[H.1]at this;cases this
 |succ q S=>
  intro d a w g u I A B z H;refine⟨fun h=>(by simp_all),fun j l=> ?_⟩;by_cases f:j=i
  .subst f;exact z.wpOpIn hd hi g H
  .have U:=H.2 j (ready_mono l f);have x:=M d j u l f;obtain⟨V,m,y,N⟩:=mem_ready.1 l;obtain⟨W,X⟩:=I j m y x V;have Y:=afG hd ⟨i,hi⟩ y W X K g z U;have Z: ∀k∈D,(d.setIfInBounds j true).getD k true=false:=fun k hk=>by
    rw[getD_set_ne true (fun e=>x (by rw[e];exact hk))];exact u k hk
   have ab: ∀k ok,ops[k]? =a6 ok->k∉D->(d.setIfInBounds j true).getD k true=false->p.apart ops ok=true/\YN P C ok:=fun k ok hk ad ae=>by
    refine I k ok hk ad ?_;by_cases hjk:j=k
    all_goals simp_all
   refine wpOpIn_mono (fun a' w' J=>S (d.setIfInBounds j true) a' w' J.1 Z ab A (ready_mono B (Ne.symm f)) J.2.1 ?_) Y;simp_all [Array.setIfInBounds_comm]
theorem KP {cl:Bool} {call:gZ R} {K:St->Option R} (o:Oper) (l:List Oper) (st:St):iU T cl call ops K (o::l) st=iU T cl call ops (iU T cl call ops K l) [o] st:=by
 simp only[iU]
theorem aeP {cl:Bool} {call:gZ R} {K:St->Option R} {o:Oper} (h:iU T cl call ops K [o] st=a6 r) (f:jG W0 b0 rd c st a ats):
  (Region.wanted o (yielded ops a.tmps)=true/\ ∃st1,jG W0 b0 rd c st1 a ats/\fH T cl call o st1 (fun v st=>K (st.put o.dst v))=a6 r)\/
  (Region.wanted o (yielded ops a.tmps)=false/\ ∃st1,jG W0 b0 rd c st1 (a.put o.dst undef) ats/\K st1=a6 r):=by
 simp only[iU]at h;have A: ∀(st:St),jG W0 b0 rd c st a ats->jG W0 b0 rd c (st.put o.dst (.tup [])) (a.put o.dst undef) ats:=fun st f=>f.put (by simp only[dh];exact⟨#[],rfl,by simp[bW]⟩);cases hg:o.guard with
 |none=>
  grind [Region.wanted]
 |some m=>
  obtain⟨j,p⟩:=m;rw[hg]at h;simp only at h;split at h
  .cases h
  .rename_i d hd
   have g:=J6 ops j d hd a.tmps;have e:=f.fr.getD d;have q:=bW.length _ _ f.fr;rw[Array.length_toList]at q;split at h
   .rename_i b i
    rw[i]at e;simp only[dh]at e;have u:=e.bool_inv;have B:d<a.tmps.size:=by
     grind
    have l:a.tmps[d]? =a6 (.bool b):=by
     simp_all
    rw[l]at g;simp only at g;have y:a.put (a6 d) (.bool b)=a:=by
     simp only[Act.put];obtain⟨D,I⟩:=Array.getElem?_eq_some_iff.1 l;have:a.tmps.setIfInBounds d (.bool b)=a.tmps:=by
      grind
     rw[this]
    have J:jG W0 b0 rd c (st.put (a6 d) (.val .bool b)) a ats:=by
     have:=f.put (dst:=a6 d) (z:=.val .bool b) (v:=.bool b) (by simp_all [dh]);rwa [y]at this
    cases b<;>cases p<;>(try simp only[aa,ac]at h)
    .grind [Region.wanted]
    .grind [Region.wanted]
    .grind [Region.wanted]
    grind [Region.wanted]
   .rename_i i
    rw[i]at e;simp only[dh]at e;obtain⟨L,u,_⟩:=e;have M:yielded ops a.tmps j=a7:=by
     rw[g];cases he:a.tmps[d]? with
     |none=>rfl
     |some x=>
      simp_all
    grind [Region.wanted]
   .cases h
theorem afB {e:Array Bool} {i:Nat} {pure:Bool} {f:Oper} (hi:ops[i]? =a6 f) (h:V5 ops e i pure=true): ∃D:List Nat,i∈D/\(∀j∈D,e.getD j true=false)/\(∀j∈D,j≠i->G6 ops j D=true)/\
  ∀j d,ops[j]? =a6 d->j∉D->e.getD j true=false->f.apart ops d=true/\(pure=true\/QW d.op=true):=by
 unfold V5 at h;rw[hi]at h;simp only[ah]at h;obtain⟨l,m,p⟩:=h;refine⟨_,Oy.1 l,fun j g=> ?_,fun j g u=> ?_,fun j d q v x=> ?_⟩
 .simp_all
 .have:=List.all_eq_true.1 m j g;simp_all
 .have:=List.all_eq_true.1 p j (List.mem_range.2 (Array.getElem?_eq_some_iff.1 q).1);simp_all [Oy]
theorem X3 {f:Op->Bool} {i:Nat} (h:ahb ops f i=true): ∃o,ops[i]? =a6 o/\f o.op=true:=by
 grind [ahb]
theorem ahZ {d:Op} (h:JO d=true):je d=true:=by
 cases d<;>simp_all [JO,je,lJ]
theorem Gz (hT:TOk P T) {cl:Bool} {call:gZ R} (L:oV P W0 n call) (hd:pz ops=true) {K:St->Option R} {Q:Act->World->Prop}:
  ∀(m:Nat) (g:Array Bool) (l:List Nat) (c:Cx) (st:St) (a:Act),wU ops m g=a6 l->iU T cl call ops K (l.filterMap fun i=>ops[i]?) st=a6 r->jG W0 b0 rd c st a ats->
   (∀c' U X,K U=a6 r->jG W0 b0 rd c' U X ats->c.Mono c'->Q X c'.w)->wpAnyIn (FW rd) n P .any ops (fun e a w=>e=.normal/\Q a w) m g a c.w
 |0,g,l,c,st,a,d,h,M,B=>by
  simp only[wU]at d;rw[cond_eq_ite]at d;split at d
  .rename_i he
   cases d;simp only[List.filterMap_nil,iU]at h;exact⟨by simpa using he,rfl,B c st a h M (Cx.Mono.refl c)⟩
  .cases d
 |m+1,g,l,c,st,a,d,h,M,B=>by
  have Y: ∀c (a:Act) (w:World),¬(Exit.panic c=.normal/\Q a w):=fun c a w h=>by cases h.1
  have take: ∀(i:Nat) (x:Bool) (q:List Nat),i∈Region.ready .any ops g->(if x then ahb ops JO i=true else ahb ops je i=true)->V5 ops g i x=true->wU ops m (g.setIfInBounds i true)=a6 q->
    iU T cl call ops K ((i::q).filterMap fun i=>ops[i]?) st=a6 r->wpAnyIn (FW rd) n P .any ops (fun e a w=>e=.normal/\Q a w) (m+1) g a c.w:=fun i x q Z av ag N h=>by
   obtain⟨p,V,hq,aj⟩: ∃p,ops[i]? =a6 p/\je p.op=true/\(x=true->JO p.op=true):=by
    grind [X3,ahZ]
   obtain⟨D,d1,d2,d3,d4⟩:=afB V ag;simp only[List.filterMap_cons,V]at h;rw[KP]at h;have ab: ∀j O,ops[j]? =a6 O->j∉D->g.getD j true=false->p.apart ops O=true/\YN P (fun w=>x=true\/IP c w) O:=fun j O ak al hl=>by
    obtain⟨e1,S⟩:=d4 j O ak al hl;refine⟨e1, ?_⟩;rcases S with S|S
    .exact .inl fun w=>.inl S
    .refine .inr fun ρ w v w' J hx=> ?_;obtain⟨hu,hb⟩:=agT S ρ P w v w' hx;exact⟨hu,J.imp (fun h=>h) fun J=>J.trans (hb.mono J.size)⟩
   have ad:x=true\/IP c c.w:=.inr (Below.refl _ _);rcases aeP h M with ⟨y,I,f,A⟩|⟨y,I,f,A⟩
   .have hy: ∃z u,iU T cl call ops K (q.filterMap fun i=>ops[i]?) (I.put p.dst z)=a6 r/\dh c z u/\sH P ops (fun w=>x=true\/IP c w) p u a:=by
     cases x with
     |true=>
      obtain⟨z,u,k1,k2,k3⟩:=ayU hT f.ok (aj rfl) f.hp f.fr A;exact⟨z,u,k1,k2,.inl ⟨y,fun w _=>k3 w⟩⟩
     |false=>
      obtain⟨z,u,k1,k2,k3⟩:=Dn hT f.ok hq f.hp f.fr A;exact⟨z,u,k1,k2,.inl ⟨y,fun w J=>k3 w (J.resolve_left (by simp))⟩⟩
    obtain⟨z,u,k1,k2,k3⟩:=hy;exact G9 hd V Y D d3 m g a c.w ad d2 ab d1 Z k3 (Gz hT L hd m _ q c (I.put p.dst z) (a.put p.dst u) N k1 (f.put k2) B)
   .exact G9 hd V Y D d3 m g a c.w ad d2 ab d1 Z (.inr ⟨y,rfl⟩) (Gz hT L hd m _ q c I (a.put p.dst undef) N A f B)
  simp only[wU]at d;split at d
  .rename_i W
   cases d;simp only[List.filterMap_nil,iU]at h;exact⟨fun _=>⟨rfl,B c st a h M (Cx.Mono.refl c)⟩,by rw[W];simp⟩
  .rename_i k rs W
   split at d
   .grind
   .split at d
    .grind
    .split at d
     .split at d
      .rename_i q N
       cases d;obtain⟨_,ok,ae,_⟩:=mem_ready.1 (show k∈Region.ready .any ops g by rw[W];simp);simp only[List.filterMap_cons,ae]at h;rw[KP]at h;refine wpAnyIn_all W (by simp) fun j hj=> ?_;obtain rfl:j=k:=by simpa using hj
       unfold wpOpIn;simp only[ae];rcases aeP h M with ⟨y,I,f,A⟩|⟨y,I,f,A⟩
       .rw[am y];exact UY hT L A f fun c' z u U k1 k2 k3 k4=>Gz hT L hd m _ q c' (U.put ok.dst z) (a.put ok.dst u) N k1 (k2.put k3) fun an ao au q1 q2 q3=>B an ao au q1 q2 (k4.trans q3)
       .rw[aq (by rw[y];simp)];exact⟨tY ok c.w _,Gz hT L hd m _ q c I (a.put ok.dst undef) N A f B⟩
      .cases d
     .cases d
theorem WY (hT:TOk P T) (i:P.follows .mixedOrders=true) {cl:Bool} {call:gZ R} (j:oV P W0 n call) {id:Nat} {l:List Oper} (hp:ahU ops=a6 l) {K:St->Option R} {Q:Exit->Act->World->Prop}
  (h:iU T cl call ops K l st=a6 r) (m:jG W0 b0 rd c st a ats) (p: ∀c' d f,K d=a6 r->jG W0 b0 rd c' d f ats->c.Mono c'->Q .normal f c'.w):
  (Code.region id ops true).wpIn (FW rd) n P Q a c.w:=by
 unfold ahU at hp;rw[cond_eq_ite]at hp;split at hp
 .rename_i hd
  split at hp
  .rename_i q u
   cases hp;have g:IP c {c.w with drawn:=c.w.drawn+1}:=⟨rfl,rfl,rfl,af _,fun _ _=>rfl⟩;have v:=Gz (Q:=fun a w=>Q .normal a w) hT j hd ops.size _ q (c.at_ {c.w with drawn:=c.w.drawn+1}) st a u h (m.ext g) fun c' d f k1 k2 k3=>p c' d f k1 k2 ((Cx.Le.ext g).mono.trans k3);exact Code.wpIn_mono (fun e a w x=>by simp_all) (wpIn_region_any i v)
  .cases hp
 .cases hp
end
end
section
open Option renaming some → a6, none → a7
open List renaming mem_cons_of_mem → aB
open Nat renaming lt_of_lt_of_le → bF
open Go.RowKit
def xB {R:Type} (P:Program) (W0:World) (l:pV R):Prop:=
 ∀(f:FuncId) (g:List cO) (st:St) (K:cO->St->Option R) (r:R),l (.call f g) st K=a6 r->
  ∀(b0:Nat) (rd:Option Nat) (c:Cx) (a:Act) (ats:List (Array Value)) (d:Array Value),jG W0 b0 rd c st a ats->bW c g d.toList->
   ∀i:Ending->World->Prop,(∀e z u j,K z j=a6 r->jG W0 b0 rd e j a ats->dh e z u->c.Mono e->i (.returned u) e.w)->
    (callFunc f d).run P c.w=.ok (.enter f d) c.w/\Calls P f d c.w i
section
variable {P:Program} {T:TT} {W0:World} {b0 n:Nat} {rd:Option Nat} {c:Cx} {R:Type} {r:R} {st:St} {a:Act} {ats:List (Array Value)}
def Ex.xt:Ex->Exit
 |.normal=>.normal
 |.exit i=>.exit i
 |.goto l=>.goto l
 |.ret=>.ret
section
variable {F:Fence} {b:Frame} {k:List Item} {cs:List Frame} {w:World} {Q:Exit->Act->World->Prop}
theorem tX {x:Code}:step P (lone (b.atR a (.code (.scope x)::k)) cs w)=.next (lone (b.atR a (.code x:: .inScope x::k)) cs w):=
 step_lone_go (by rfl)
theorem Xc {x:Code}:step P (lone (b.atR a (.inScope x::k)) cs w)=.next (lone (b.atR a k) cs w):=
 step_lone_go (by rfl)
theorem ail {x:Code} (h:x.wpIn F n P (fun e a w=>(∀l,e≠ .goto l)/\Q e a w) a w):(Code.scope x).wpIn F n P Q a w:=by
 intro b k cs v m p;have d:(lone (b.atR a (.code (.scope x)::k)) cs w).fenced P F:=fenced_calm m p rfl;obtain⟨e,g,i,⟨I,j⟩,f⟩:=h b (.inScope x::k) cs v m p;cases e with
 |normal=>exact⟨.normal,g,i,j,.head d tX (StepsIn.trans f (.one (fenced_calm m p rfl) Xc))⟩
 |exit q=>
  have u:exitTo q (.inScope x::k)=exitTo q k:=by simp[exitTo]
  exact⟨.exit q,g,i,j,fun y hk=>.head d tX (f.1 y (by rw[u];exact hk)),
   fun z hk=>let⟨A,B,D⟩:=f.2 z (by rw[u];exact hk);⟨A,B,.head d tX D⟩⟩
 |goto l=>simp_all
 |ret=>exact⟨_,g,i,j,.of_steps (.one d tX) f⟩
 |panic J=>exact⟨_,g,i,j,.of_steps (.one d tX) f⟩
 |outgrown=>exact⟨_,g,i,j,.of_steps (.one d tX) f⟩
end
theorem atf (d:c.Ok W0):c.Le {c with w:=c.w.alloc (.deferred (a6 [])),mks:=c.w.heap.size::c.mks}/\({c with w:=c.w.alloc (.deferred (a6 [])),mks:=c.w.heap.size::c.mks}:Cx).Ok W0:=by
 have f:=qw c.w (.deferred (a6 []));have j:c.Le {c with w:=c.w.alloc (.deferred (a6 [])),mks:=c.w.heap.size::c.mks}:=
  ⟨fun b g=>⟨⟨bF g.1 f.size,g.2.1,by
    intro p;rcases List.mem_cons.1 p with e|e
    .have:=g.1;omega
    .exact g.2.2 e⟩,f.block b g.1⟩,fun _ h=>h,fun id o _ i=>⟨o,i,o.like_refl _⟩,fun r l=>aB _ l,fun b L m=>⟨L,(f.block b (Array.getElem?_eq_some_iff.1 m).1).trans m⟩,f.size,rfl⟩
 refine⟨j,⟨d.bel.trans (f.mono d.size),fun id o i=>(d.obj id o i).le j rfl fun b q=>f.block b ((d.obj id o i).lt q).2,d.inj,fun r l=> ?_,fun b f=>(j.out b (d.bar b f)).1,d.phi⟩⟩;rcases List.mem_cons.1 l with e|e
 .subst e;exact⟨d.size,World.alloc_heap_new _ _⟩
 .exact⟨(d.mks r e).1,(f.block r (d.mark_lt e)).trans (d.mks r e).2⟩
theorem aC8 (g:c.Ok W0) {st:St} (i:c.hp=st.hp) (h2:c.nxt=st.nxt) {id n':Nat} (p:ed st.hp id=a7) (q:st.nxt<=id) (z:st.nxt<=n') {f:FuncId} {fr:List cO} {L:Loop} (u:bW c fr L.tmps.toList) (v:L.state=.ready) (hp:L.pending=a7) {d:Option Nat} (x: ∀k,d=a6 k->uB f k=a6 (L.assign,L.body)):
  ∃c',E9 W0 c st c' {st with hp:=(id,.lp f fr L.params.toList L.assign L.body d 0 a7)::st.hp,nxt:=n'}/\c'.w=c.w.alloc (.loop L)/\dh c' (.yld id) (.func (.yield c.w.heap.size) #[] #[])/\c'.mks=c.mks:=by
 have hk:=Dk i h2 p q;have e:=qw c.w (.loop L);have j: ∀b,dZ.blk (.lp f fr L.params.toList L.assign L.body d 0 a7) ⟨c.w.heap.size,undef⟩=a6 b->c.w.heap.size<=b:=fun b e=>by
  simp_all [dZ.blk]
 have m:=Cx.Le.push (o:=.lp f fr L.params.toList L.assign L.body d 0 a7) (l:=⟨c.w.heap.size,undef⟩) (nxt:=n') (w:=c.w.alloc (.loop L)) hk (by omega) e.size e.block j;have y:(c.push id (.lp f fr L.params.toList L.assign L.body d 0 a7) ⟨c.w.heap.size,undef⟩ n' (c.w.alloc (.loop L))).ORel W0.heap.size id (.lp f fr L.params.toList L.assign L.body d 0 a7):=by
  refine⟨x,by simp[Cx.push,upd_same];exact g.size,L, ?_,bW.le m _ _ u,rfl,rfl,rfl,v,hp⟩;simp only[Cx.push,upd_same];exact World.alloc_heap_new c.w _
 refine⟨_,⟨?_,rfl,rfl,rfl,g.push hk (by omega) e j y,m⟩,rfl, ?_,rfl⟩
 .simp[Cx.push,i]
 .simp only[dh];refine⟨rfl,.inl ⟨_,by simp[Cx.push,fF];rfl⟩,fun _ _ _ _ _ _ _ _ _=>by simp[Cx.push,upd_same]⟩
theorem JV (d:c.Ok W0) {id:Nat} {f:FuncId} {fr:List cO} {g:List Nat} {kH i:Code} {l:Option Nat} {k:Nat} {p:Option Ex} (v:ed c.hp id=a6 (.lp f fr g kH i l k p)) {L:Loop} (y:c.w.heap[(c.mu id).blk]? =a6 (.loop L)) (L':Loop)
  {o':dZ} (x:o'=.dead\/(∃q u,o'=.lp f fr g kH i l q u/\aoU q u L'/\L'.tmps=L.tmps/\L'.params=L.params/\L'.assign=L.assign/\L'.body=L.body)):
  ∃c',c'.hp=jW c.hp id o'/\c'.nxt=c.nxt/\c.Le c'/\c'.Ok W0/\c'.w=c.w.putObj (c.mu id).blk (.loop L')/\c'.mks=c.mks:=by
 have K:(c.mu id).blk<c.w.heap.size:=(Array.getElem?_eq_some_iff.1 y).1;obtain⟨M,N,O,z,S,U,V,W,e4⟩:=d.obj id _ v;rw[y]at z;have X:O=L:=by cases z;rfl
 subst X;have hk:(dZ.lp f fr g kH i l k p).like (c.mu id) o' (c.mu id):=by
  rcases x with rfl|⟨q,u,rfl,_⟩<;>simp[dZ.like]
 have A:c.w.heap.size<=(c.w.putObj (c.mu id).blk (.loop L')).heap.size:=by simp
 have m: ∀b,b<c.w.heap.size->(dZ.lp f fr g kH i l k p).blk (c.mu id)≠a6 b->(c.w.putObj (c.mu id).blk (.loop L')).heap[b]? =c.w.heap[b]? :=fun b _ Y=>
  World.putObj_heap_other fun e=>Y (by rw[e];rfl)
 have B: ∀b,o'.blk (c.mu id)=a6 b->(dZ.lp f fr g kH i l k p).blk (c.mu id)=a6 b\/c.w.heap.size<=b:=fun b m=>by
  rcases x with rfl|⟨q,u,rfl,_⟩
  .cases m
  .exact .inl m
 have D: ∀(b:Nat) (I:Loop),(dZ.lp f fr g kH i l k p).blk (c.mu id)=a6 b->c.w.heap[b]? =a6 (Obj.loop I)-> ∃Z:Loop,(c.w.putObj (c.mu id).blk (.loop L')).heap[b]? =a6 (Obj.loop Z):=fun b I m _=>by
  grind [dZ.blk,World.putObj_heap_same]
 have hw:Below W0.heap.size W0 (c.w.putObj (c.mu id).blk (.loop L')):=
  ⟨d.bel.os,d.bel.tape,d.bel.output,by omega,fun j hj=>(World.putObj_heap_other (by omega)).trans (d.bel.block j hj)⟩
 have J:=Cx.Le.put d v hk A m B D;refine⟨c.put id o' (c.mu id) (c.w.putObj (c.mu id).blk (.loop L')),rfl,rfl,J,Cx.Ok.put d v hk hw A m B D ?_,rfl,rfl⟩;rcases x with rfl|⟨q,u,rfl,h1,h2,h3,h4,h5⟩
 .trivial
 .refine⟨M,by simp only[Cx.put,upd_same];exact N,L', ?_,bW.le J _ _ (by rw[h2];exact S),by rw[h3];exact U,by rw[h4];exact V,by rw[h5];exact W,h1⟩;simp only[Cx.put,upd_same];exact World.putObj_heap_same K
end
end
section
open Option renaming some → a6, none → a7
open Go.RowKit
section
variable {T:TT} {cl:Bool} {R:Type} {r:R} {sg:FuncId->Option Sum}
theorem CS {dst:Option Nat} {o:dZ} {st:St} {K:Nat->St->Option R} (h:alloc cl dst o st K=a6 r): ∃i d,K i d=a6 r:=by
 unfold alloc at h
 grind
theorem aH4 {b:Bool} {k:Option R} (h:oN b k=a6 r):k=a6 r:=(dQ h).2
theorem aBH {d:BinOp} {t:TypeId} {x y:cO} {K:cO->Option R} (h:adp T d t x y K=a6 r): ∃z,K z=a6 r:=by
 unfold adp at h;simp only[oN,cond_eq_ite]at h
 grind
theorem awU {hp:iD} {d:BinOp} {t:TypeId} {x y:cO} {K:cO->Option R} (h:TG T hp d t x y K=a6 r): ∃z,K z=a6 r:=by
 unfold TG at h;simp only[cond_eq_ite]at h
 grind [aBH]
theorem aFV {d:UnOp} {x:cO} {K:cO->Option R} (h:aqZ d x K=a6 r): ∃z,K z=a6 r:=by
 unfold aqZ at h
 grind
theorem awV {hp:iD} {t:TypeId} {a:cO} {K:cO->Option R} (h:NZ T hp t a K=a6 r): ∃z,K z=a6 r:=by
 unfold NZ at h
 grind
theorem aBI {d:iD} {st:St} {a v:cO} {K:St->Option R} (h:adq d st a v K=a6 r): ∃z,K z=a6 r:=by
 unfold adq at h;simp only[cond_eq_ite]at h
 repeat' split at h
 all_goals first|cases h;done|exact⟨_,h⟩
theorem aq2 {st:St} {t:TypeId} {a v:cO} {K:St->Option R} (h:KO T st t a v K=a6 r): ∃z,K z=a6 r:=by
 unfold KO at h;simp only[cond_eq_ite]at h
 repeat' split at h
 all_goals first|cases h;done|exact⟨_,h⟩
theorem agv {s d:TypeId} {x:cO} {hp:iD} {K:cO->Option R} (h:CQ T s d x hp K=a6 r): ∃z,K z=a6 r:=by
 unfold CQ at h;simp only[oN,cond_eq_ite]at h
 grind
theorem aq1 {hp:iD} {t:TypeId} {x:cO} {lo hi d:Option cO} {K:cO->Option R} (h:KN T hp t x lo hi d K=a6 r): ∃z,K z=a6 r:=by
 unfold KN at h;simp only[oN,cond_eq_ite]at h
 grind
theorem Zj {hp:iD} {t:TypeId} {x:cO} {f:Nat} {K:cO->Option R} (h:wJ T hp t x f K=a6 r): ∃z,K z=a6 r:=by
 unfold wJ at h;simp only[cond_eq_ite]at h
 repeat' split at h
 all_goals first|cases h;done|exact⟨_,h⟩
theorem aq0 {t:TypeId} {x:cO} {f:Nat} {K:cO->Option R} (h:KJ T t x f K=a6 r): ∃z,K z=a6 r:=by
 unfold KJ at h
 repeat' split at h
 all_goals first|cases h;done|exact⟨_,h⟩
theorem Zk {hp:iD} {t:TypeId} {x i:cO} {K:cO->Option R} (h:wK T hp t x i K=a6 r): ∃z,K z=a6 r:=by
 unfold wK at h;simp only[oN,cond_eq_ite]at h
 repeat' split at h
 all_goals first|cases h;done|exact⟨_,h⟩
theorem aBJ {hp:iD} {t:TypeId} {x:cO} {K:cO->Option R} (h:adr T hp t x K=a6 r): ∃z,K z=a6 r:=by
 unfold adr at h;simp only[oN,cond_eq_ite]at h
 grind
theorem am3 {dst:Option Nat} {t:TypeId} {s x:cO} {st:St} {K:cO->St->Option R} (h:KH T cl dst t s x st K=a6 r): ∃z d,K z d=a6 r:=by
 unfold KH at h;simp only[oN,cond_eq_ite]at h
 repeat' split at h
 all_goals first|cases h;done|exact⟨_,_,h⟩|grind [CS]
theorem agt {dst:Option Nat} {t t':TypeId} {s x:cO} {st:St} {K:cO->St->Option R} (h:CP T cl dst t t' s x st K=a6 r): ∃z d,K z d=a6 r:=by
 unfold CP at h;simp only[oN,cond_eq_ite]at h
 repeat' split at h
 all_goals first|cases h;done|exact⟨_,_,h⟩|grind [CS]
theorem agu {o:Oper} {b:Builtin} {d:List TypeId} {args:List cO} {st:St} {K:cO->St->Option R} (h:mF T cl o b d args st K=a6 r): ∃z e,K z e=a6 r:=by
 unfold mF at h;simp only[oN,cond_eq_ite]at h
 grind [aBJ,am3,agt]
def zY (sg:FuncId->Option Sum) (call:gZ R):Prop:= ∀g s d e st (K:cO->St->Option R) r,sg g=a6 s->call (.fn g []) d e st K=a6 r-> ∃z f,K z f=a6 r
theorem aq3 {s:Sum} {args:List cO} {dst:Option Nat} {st:St} {K:cO->St->Option R} (h:s.call cl args dst st K=a6 r): ∃z d,K z d=a6 r:=by
 unfold Sum.call at h;simp only[cond_eq_ite]at h;split at h
 .split at h
  .rename_i x e
   cases hf:s.f x with
   |none=>simp_all [bU]
   |some y=>
    grind [bU,CS]
  .cases h
 .cases h
theorem aiJ {call:gZ R} (hx:zY sg call) {o:Oper} {st:St} {K:cO->St->Option R} (hp:yl sg o.op=true) (h:fH T cl call o st K=a6 r): ∃z d,K z d=a6 r:=by
 obtain⟨j,e,l,m,p,q⟩:=o;cases e with
 |call c=>
  simp only[fH]at h;simp only[yl]at hp;split at h
  .exact agu h
  .rename_i f i
   rw[i]at hp;cases f with
   |func g=>
    simp only at hp;cases hs:sg g with
    |none=>simp_all
    |some s=>exact hx g s _ _ _ _ _ hs h
   |_=>simp at hp
  .cases h
 |store t x y=>
  grind [fH,aq2,aBI]
 |_=>
  simp only[fH,oN,cond_eq_ite]at h
  repeat' split at h
  all_goals first
   |cases h;done
   |exact⟨_,_,h⟩
   |(obtain⟨_,_,h⟩:=CS h;exact⟨_,_,h⟩)
   |(obtain⟨_,_,h⟩:=CS h;obtain⟨_,_,h⟩:=CS h;exact⟨_,_,h⟩)
   |(obtain⟨_,h⟩:=awV h;exact⟨_,_,h⟩)
   |(obtain⟨_,h⟩:=awU h;exact⟨_,_,h⟩)
   |(obtain⟨_,h⟩:=aFV h;exact⟨_,_,h⟩)
   |(obtain⟨_,h⟩:=agv h;exact⟨_,_,h⟩)
   |(obtain⟨_,h⟩:=aq1 h;exact⟨_,_,h⟩)
   |(obtain⟨_,h⟩:=Zj h;exact⟨_,_,h⟩)
   |(obtain⟨_,h⟩:=aq0 h;exact⟨_,_,h⟩)
   |grind [Zk]
theorem Y2 {E:Env} {d:pV R}:zY E.sg (yV E d):=fun g s e f st K r i h=>by
 grind [yV,aq3]
theorem aES:zY (R:=R) sg (IV sg cl):=fun g s e f st K r d h=>by
 simp only[IV,d]at h;exact aq3 (dQ h).2
theorem anI {o:Op} (h:je o=true):yl sg o=true:=by
 cases o with
 |call c=>
  grind [je,yl]
 |_=>rfl
theorem Jz {call:gZ R} (hx:zY sg call) {ops:Array Oper} {d:List cO}: ∀(l:List Nat) {st:St} {K:St->Option R},AL T cl call ops d l st K=a6 r-> ∃e,K e=a6 r
 |[],st,K,h=>⟨st,h⟩
 |i::l,st,K,h=>by
  simp only[AL]at h;split at h
  .rw[cond_eq_ite]at h;split at h
   .rename_i f
    obtain⟨_,_,h⟩:=aiJ hx (anI f) h;exact Jz hx l (dQ h).2
   .exact Jz hx l (dQ h).2
  .cases h
theorem Zl {call:gZ R} (hx:zY sg call) {ops:Array Oper} (hp: ∀o∈ops.toList,yl sg o.op=true) {j:Nat} {log:List Nat} {st:St} {K:St->Option R} (h:wO T cl call ops j log st K=a6 r): ∃d,K d=a6 r:=by
 unfold wO at h;split at h
 .rename_i e f
  obtain⟨_,_,h⟩:=aiJ hx (hp e (by grind)) (dQ h).2
  grind [Jz]
 .cases h
theorem WQ {d e:Type} {o:Option d} {k:d->Option e} {y:e} (h:bU o k=a6 y): ∃x,o=a6 x/\k x=a6 y:=by
 cases o with
 |none=>simp[bU]at h
 |some x=>exact⟨x,rfl,h⟩
theorem Bc {k:Option R} {r:R}: ∀(l:List (Option Unit)),RY l k=a6 r->k=a6 r/\ ∀x∈l,x=a6 ()
 |[],h=>⟨h,fun _ d=>by cases d⟩
 |o::l,h=>by
  simp only[RY]at h;obtain⟨⟨⟩,f,e⟩:=WQ h;obtain⟨g,i⟩:=Bc l e
  grind
theorem TJ {ops:Array Oper} (hp: ∀o∈ops.toList,yl sg o.op=true) {m:gZ St} {p:gZ Unit} (e:zY sg m) (f:zY sg p): ∀(n:Nat) {R:Type} {r:R} {call:gZ R},zY sg call-> ∀(l:Array Bool) (log:List Nat) (st:St) (K:St->Option R),
  o8 T cl sg m p ops n call l log st K=a6 r-> ∃u,K u=a6 r
 |0,R,r,call,d,l,log,st,K,h=>by simp[o8]at h
 |n+1,R,r,call,d,l,log,st,K,h=>by
  have q: ∀{i:Nat} {g:Oper},ops[i]? =a6 g->yl sg g.op=true:=fun {i g} j=>hp g (by grind);simp only[o8]at h;split at h
  .exact⟨st,h⟩
  .split at h
   .split at h
    .rename_i j
     obtain⟨_,_,h⟩:=aiJ d (q j) (dQ h).2;exact TJ hp e f n d _ _ _ _ h
    .cases h
   .split at h
    .split at h
     .rename_i j
      obtain⟨_,_,h⟩:=aiJ (aES (sg:=sg)) (q j) (dQ h).2;exact TJ hp e f n d _ _ _ _ h
     .cases h
    .split at h
     .obtain⟨_,h⟩:=Zl d hp h;exact TJ hp e f n d _ _ _ _ h
     .rw[cond_eq_ite]at h;split at h
      .grind
      .obtain⟨_,h⟩:=Zl d hp h;obtain⟨_,h⟩:=TJ hp e f n d _ _ _ _ h;replace h:=(dQ h).2
       grind [Bc]
end
end
section
open Option renaming some → a6, none → a7
open Bool renaming and_eq_true → ah, false_eq_true → ai, and_true → aj, not_false → aF, true_and → aS, or_eq_true → bi, not_eq_true' → bu, not_eq_true → bG
open List renaming map_cons → ay, mem_cons_of_mem → aB, length_map → aJ, mem_cons_self → aU, all_cons → bn, cons_append → bz, mem_append_left → bJ
open Nat renaming le_refl → af, eq_of_beq_eq_true → ax
open Go.RowKit
section
variable {P:Program} {T:TT} {W0:World} {b0 n:Nat} {rd:Option Nat} {c:Cx} {st:St} {a:Act} {sg:FuncId->Option Sum} {cl:Bool} {ats:List (Array Value)} {ops:Array Oper}
def uM:(t:Ty)->t.den->List Value
 |.unit,_=>[]
 |.bool,x=>[.bool x]
 |.int k,x=>[.int k x]
 |.str,x=>[.string ⟨x.toArray⟩]
 |.list _,_=>[]
 |.pair a b,x=>uM a x.1++uM b x.2
theorem wW {w:World} {fr:Nat->Prop}: ∀(t:Ty) (x:t.den),t.rigid=true-> ∀cs,fV w fr t x cs↔cs=uM t x
 |.unit,x,_,cs=>by rfl
 |.bool,x,_,cs=>by rfl
 |.int k,x,_,cs=>by rfl
 |.str,x,_,cs=>by rfl
 |.list t,x,h,cs=>by simp[Ty.rigid]at h
 |.pair a b,x,h,cs=>by
  simp only[Ty.rigid,ah]at h;simp only[fV,uM,wW a x.1 h.1,wW b x.2 h.2];simp
def KC (t:Ty) (x:t.den):Value:=if t.isAgg then .agg (uM t x).toArray else(uM t x).headD undef
theorem VD.rigid {t:Ty} {x:t.den} (h:t.rigid=true) (v:Value):VD c t x v↔v=KC t x:=by
 cases ha:t.isAgg with
 |true=>
  rw[VD.agg ha];simp only[KC,ha,if_true,wW t x h];constructor
  .rintro ⟨cs,rfl,d⟩;rw[<-d]
  simp_all
 |false=>
  rw[VD.leaf ha,wW t x h];have: ∃u,uM t x=[u]:=by cases t<;>first|exact⟨_,rfl⟩|(simp[Ty.rigid]at h;done)|grind [Ty.isAgg]
  grind [KC]
def rv1:cO->Value
 |.val t x=>KC t x
 |_=>undef
def rv:cO->Value
 |.tup l=>.tuple (l.map rv1).toArray
 |v=>rv1 v
theorem akW {v:cO} (h:v.rigid=true) (u:Value):dh c v u↔u=rv1 v:=by
 cases v<;>simp only[cO.rigid,ai]at h;simp_all [dh,rv1,VD.rigid]
theorem akX: ∀(l:List cO),l.all cO.rigid=true-> ∀us,bW c l us↔us=l.map rv1
 |[],_,[]=>by simp[bW]
 |[],_,u::us=>by simp[bW]
 |v::l,_,[]=>by simp[bW]
 |v::l,h,u::us=>by
  simp only[bn,ah]at h;simp only[bW,akW h.1,akX l h.2,ay,List.cons.injEq]
theorem JU {v:cO} (h:v.rigidR=true) (u:Value):dh c v u↔u=rv v:=by
 cases v with
 |tup l=>
  simp only[cO.rigidR]at h;simp only[dh,rv,akX l h];constructor
  .rintro ⟨e,rfl,d⟩;rw[<-d]
  simp_all
 |val t x=>exact akW (v:=.val t x) h u
 |_=>simp[cO.rigidR,cO.rigid]at h
theorem J4 (id:Nat): ∀(rs:List (Ty×Bool)) y,(rs.all fun r=> !r.2&&r.1.rigid)=true->(qN id rs y).all cO.rigid=true
 |[],_,_=>rfl
 |(t,true)::rs,y,h=>by simp at h
 |(t,false)::rs,y,h=>by
  simp only[bn,aF,aS,ah]at h;simp only[qN,bn,cO.rigid,h.1,aS];exact J4 id rs y.2 h.2
theorem Vw: ∀(l:List cO),l.all cO.rigid=true->(OW l).rigidR=true
 |[],_=>rfl
 |[v],h=>by
  simp only[bn,List.all_nil,aj]at h;cases v<;>simp only[cO.rigid,ai]at h;exact h
 |v::d::l,h=>h
theorem bW.mk {c:Cx}: ∀(l:List cO) (xs:List Value),l.length=xs.length->(∀(i:Nat) (h:i<l.length) (e:i<xs.length),dh c l[i] xs[i])->bW c l xs
 |[],[],_,_=>by simp[bW]
 |[],_::_,h,_=>by simp at h
 |_::_,[],h,_=>by simp at h
 |v::l,x::xs,h,d=>by
  simp only[bW];exact⟨d 0 (by simp) (by simp),bW.mk l xs (by simpa using h) fun i f g=>by
   have:=d (i+1) (by simp;omega) (by simp;omega);simpa using this⟩
def xq (ops:Array Oper) (k:Nat):Option Nat:=(ops[k]?).bind (·.dst)
def gX (ops:Array Oper) (a:Act):List (Nat×Value)->Act
 |[]=>a
 |(k,v)::l=>(gX ops a l).put (xq ops k) v
theorem BQ (a:Act): ∀(q l:List (Nat×Value)),gX ops a (q++l)=gX ops (gX ops a l) q
 |[],l=>rfl
 |(k,v)::q,l=>by simp only[bz,gX];rw[BQ a q l]
theorem BR (a:Act): ∀l,(gX ops a l).defers=a.defers
 |[]=>rfl
 |(k,v)::l=>by rw[gX,put_defers,BR a l]
theorem wV (a:Act): ∀l,(gX ops a l).tmps.size=a.tmps.size
 |[]=>rfl
 |(k,v)::l=>by
  rw[gX];cases xq ops k with
  |none=>exact wV a l
  |some d=>simp only[Act.put,Array.size_setIfInBounds];exact wV a l
def aoS (ops:Array Oper) (x y:Oper):Prop:= ∀d,y.dst=a6 d->d∉x.looksAt ops/\x.dst≠a6 d
theorem Oe {x y:Oper} (h:Hz ops x y=true):aoS ops x y:=fun d hd=>by
 simp_all [Hz]
theorem zD (a:Act) {d:Option Nat} {v:Value}: ∀(l:List (Nat×Value)),(∀m∈l.map (·.1),∀e,xq ops m=a6 e->d≠a6 e)->gX ops (a.put d v) l=(gX ops a l).put d v
 |[],_=>rfl
 |(k,u)::l,h=>by
  rw[gX,gX,zD a l fun m f=>h m (aB _ f)];simp_all [Act.put_comm]
theorem Fv (a:Act) {o:Oper} (d: ∀cs b,o.op≠ .select cs b): ∀(l:List (Nat×Value)),(∀m∈l.map (·.1),∀e,xq ops m=a6 e->e∉o.looksAt ops)->execOp (gX ops a l).eval o=execOp a.eval o
 |[],_=>rfl
 |(k,u)::l,h=>by
  rw[gX,execOp_put (ops:=ops) o d _ _ _ (h k aU)];exact Fv a d l fun m f=>h m (aB _ f)
def jm (ops:Array Oper) (lA:Array Bool) (log:List Nat):List Nat->Prop
 |[]=>True
 |k::l=>jm ops lA log l/\lA.getD k true=false/\k∈log/\k∉l/\ ∃ok,ops[k]? =a6 ok/\lJ ok.op=true/\ok.guard=a7/\(∀d,ok.dst=a6 d->d∉ok.looksAt ops)/\
   (∀e∈ok.after,Region.binds .any e=true->lA.getD e.on false=true\/e.on∈l)/\
   (∀m∈l,∃f,ops[m]? =a6 f/\aoS ops f ok/\(vZ ops k m=false->f.apart ops ok=true))
def Jq (rd:Option Nat) (n:Nat) (P:Program) (c:Cx) (a:Act) (o:Oper) (v:Value):Prop:= ∀d,IP c d->o.quietAtIn (FW rd) n P a (IP (c.at_ d)) d v
theorem Jq.congr {a d:Act} {o:Oper} {v:Value} (h:execOp d.eval o=execOp a.eval o) (e:Jq rd n P c a o v):Jq rd n P c d o v:=fun f g=>by
 have:=e f g;simp_all [Oper.quietAtIn]
theorem Jq.of_run {a:Act} {o:Oper} {v:Value} (h: ∀w',IP c w'->(execOp a.eval o).run P w'=.ok (.value v) w'):Jq rd n P c a o v:=fun w' d=>by
 unfold Oper.quietAtIn;rw[h w' d];exact⟨rfl,rfl⟩
theorem Jq.ext {a:Act} {o:Oper} {v:Value} {w:World} (d:IP c w) (h:Jq rd n P c a o v):Jq rd n P (c.at_ w) a o v:=fun e f=>h e (Below.trans d (f.mono d.size))
theorem Jq.wpOp {a:Act} {i:Nat} {o:Oper} {v:Value} (hd:pz ops=true) (hi:ops[i]? =a6 o) (m:o.guard=a7) (h:Jq rd n P c a o v) {Q:Exit->Act->World->Prop} {K:Act->World->Prop} (l: ∀w',IP c w'->K (a.put o.dst v) w'):wpOpIn (FW rd) n P ops Q i K a c.w:=by
 unfold Go.wpOpIn;simp only[hi];rw[am (by simp[Region.wanted,m])];refine⟨tY o c.w _, ?_⟩;rw[zG (rq hd i o hi).1];have d:=h c.w (Below.refl _ _);unfold Oper.quietAtIn at d;generalize (execOp a.eval o).run P c.w=x at d ⊢
 match x,d with
 |.ok (.value u) w',d=>
  obtain⟨g,j⟩:=d;subst g j;exact l _ (Below.refl _ _)
 |.ok .skip w',d=>
  obtain⟨g,j⟩:=d;subst g j;exact l _ (Below.refl _ _)
 |.ok (.enter f A) w',d=>
  obtain⟨g,j,p⟩:=d;subst g;refine⟨j,CallsIn.mono p fun e B q=> ?_⟩;obtain⟨y,z⟩:=q;subst y;exact l _ z
def mV (rd:Option Nat) (n:Nat) (P:Program) (ops:Array Oper) (c:Cx) (a:Act):List (Nat×Value)->Prop
 |[]=>True
 |(k,v)::l=>mV rd n P ops c a l/\ ∃ok,ops[k]? =a6 ok/\Jq rd n P c (gX ops a l) ok v
theorem mV.ext {w:World} (d:IP c w) {a:Act}: ∀{l:List (Nat×Value)},mV rd n P ops c a l->mV rd n P ops (c.at_ w) a l
 |[],_=>trivial
 |(k,v)::l,h=>⟨mV.ext d h.1,let⟨ok,e,f⟩:=h.2;⟨ok,e,f.ext d⟩⟩
def ww (sg:FuncId->Option Sum) (cl:Bool) (o:Oper) (fr:List cO) (z:cO):Prop:=
 lJ o.op=true/\(∃e j,o.op=.call e/\e.callee=.value j)/\z.rigidR=true/\(∀d,o.dst=a6 d->z=fr.getD d .undef)/\
  ∃f g,lu o fr=f::g/\ ∀(l:Option Nat) (i:St) (K:cO->St->Option Unit),IV sg cl f g l i K=K z i
theorem RZ (hT:TOk P T) (g:pX (R:=Unit) P (IV sg cl)) {o:Oper} {z:cO} {e:List cO} (i:ww sg cl o e z) (j:lu o e=lu o st.fr) {a:Act} (l:jG W0 b0 rd c st a ats):dh c z (rv z)/\Jq rd n P c a o (rv z):=by
 obtain⟨m,⟨y,A,B,D⟩,f,_,I,J,p,K⟩:=i;rw[j]at p;refine⟨(JU f _).2 rfl,fun q u=> ?_⟩
 classical
 have h:fH T cl (IV sg cl) o st (fun d _=>if d=z then a6 ()else a7)=a6 ():=by
  simp_all [lu,fH]
 obtain⟨d,v,g1,g2,g3⟩:=aeQ (n:=n) hT g m h (l.ext u);have x:d=z:=by
  simp_all
 rw[x]at g2;rw[<-(JU f v).1 g2];exact g3 q (Below.refl _ _)
def NE (sg:FuncId->Option Sum) (cl:Bool) (ops:Array Oper) (fr:List cO) (l:List Nat):Prop:= ∀k∈l,∀ok,ops[k]? =a6 ok->je ok.op=false-> ∃z,ww sg cl ok fr z
theorem Oj {l:Array Bool} {m:Nat} (d:l.getD m false=true) (h2:l.getD m true=false):False:=by
 grind
theorem afF {lA:Array Bool} {j m:Nat} (f:j∈Region.ready .any ops lA) (l:lA.getD m true=false):vZ ops j m=false:=by
 obtain⟨_,g,i,p⟩:=mem_ready.1 f;unfold vZ;rw[i];cases d:g.after.any fun e=>Region.binds .any e&&Nat.beq e.on m with
 |false=>exact d
 |true=>
  obtain⟨e,q,d⟩:=Array.any_eq_true'.1 d;simp only[ah]at d
  grind [ax]
theorem jm.un {lA:Array Bool} {log:List Nat}: ∀{l:List Nat},jm ops lA log l-> ∀k∈l,lA.getD k true=false
 |k::l,h,m,d=>by
  rcases List.mem_cons.1 d with e|d
  .rw[e];exact h.2.1
  .exact jm.un h.1 m d
theorem jm.log {lA:Array Bool} {log:List Nat}: ∀{l:List Nat},jm ops lA log l-> ∀k∈l,k∈log
 |k::l,h,m,d=>by
  rcases List.mem_cons.1 d with e|d
  .rw[e];exact h.2.2.1
  .exact jm.log h.1 m d
theorem jm.mono {lA:Array Bool} {log d:List Nat} (hl: ∀k∈log,k∈d): ∀{l:List Nat},jm ops lA log l->jm ops lA d l
 |[],_=>trivial
 |k::l,h=>⟨jm.mono hl h.1,h.2.1,hl _ h.2.2.1,h.2.2.2⟩
theorem jm.set {lA:Array Bool} {log:List Nat} {j:Nat}: ∀{l:List Nat},jm ops lA log l->j∉l->jm ops (lA.setIfInBounds j true) log l
 |[],_,_=>trivial
 |k::l,h,d=>by
  obtain⟨f,g,i,m,ok,p,q,u,v,x,y⟩:=h;refine⟨jm.set f fun h=>d (aB _ h), ?_,i,m,ok,p,q,u,v,fun e z A=> ?_,y⟩
  .rw[getD_set_ne true (fun e=>d (by rw[e];exact aU))];exact g
  .exact(x e z A).imp getD_set_true fun h=>h
theorem zH {lA:Array Bool} {j:Nat} (d:j<lA.size):(lA.setIfInBounds j true).getD j false=true:=by simp[d]
theorem jm.take {lA:Array Bool} {log:List Nat} {k:Nat} (hk:k<lA.size): ∀{l:List Nat},jm ops lA log l->k∈l->jm ops (lA.setIfInBounds k true) log (l.erase k)
 |m::l,h,d=>by
  obtain⟨f,g,i,j,ok,p,q,u,v,B,y⟩:=h;by_cases e:m=k
  .simp_all [jm.set]
  .rw[List.erase_cons_tail (by simpa using e)];have z:k∈l:=(List.mem_cons.1 d).resolve_left fun h=>e h.symm;refine⟨jm.take hk f z, ?_,i,fun h=>j (List.mem_of_mem_erase h),ok,p,q,u,v,fun D I J=> ?_,fun x A=>y x (List.mem_of_mem_erase A)⟩
   .rw[getD_set_ne true (fun h=>e h.symm)];exact g
   grind [getD_set_true,zH]
theorem wI {k:Nat} {o:Oper} (h:ops[k]? =a6 o):xq ops k=o.dst:=by simp[xq,h]
theorem mV.put {a:Act} {c:Cx} (hd:pz ops=true) {d:Option Nat} {v:Value}: ∀{l:List (Nat×Value)},mV rd n P ops c a l->
  (∀m∈l.map (·.1),∃f,ops[m]? =a6 f/\(∀e,f.dst=a6 e->d≠a6 e)/\(∀e,d=a6 e->e∉f.looksAt ops))->mV rd n P ops c (a.put d v) l
 |[],_,_=>trivial
 |(k,u)::l,h,i=>by
  obtain⟨p,ok,g,q⟩:=h;refine⟨mV.put hd p fun m j=>i m (aB _ j),ok,g,q.congr ?_⟩;obtain⟨f,g1,g2,g3⟩:=i k aU;rw[g]at g1;cases g1;rw[zD a l fun m j e x=> ?_,execOp_put (ops:=ops) ok (rq hd k ok g).2 _ _ _ g3]
  grind [wI]
theorem X9 {a:Act} {c:Cx} (hd:pz ops=true) {lA:Array Bool} {log:List Nat} {k:Nat} {ok:Oper} (g:ops[k]? =a6 ok) (hk:k∈Region.ready .any ops lA):
  ∀{l:List (Nat×Value)},jm ops lA log (l.map (·.1))->mV rd n P ops c a l->k∈l.map (·.1)->
   ∃v d,Jq rd n P c a ok v/\d.map (·.1)=(l.map (·.1)).erase k/\mV rd n P ops c (a.put ok.dst v) d/\gX ops (a.put ok.dst v) d=gX ops a l
 |(m,u)::l,z,A,B=>by
  obtain⟨D,N,O,S,I,f,U,V,W,X,Y⟩:=z;obtain⟨i,Z,j,p⟩:=A;rw[f]at j;cases j;by_cases e:m=k
  .subst e;rw[g]at f;cases f;have ab: ∀x∈l.map (·.1),∃q,ops[x]? =a6 q/\q.apart ops ok=true:=fun x J=>by
    grind [afF,jm.un]
   refine⟨u,l,p.congr ?_,by simp,mV.put hd i fun x J=> ?_, ?_⟩
   .grind [Fv,rq,Oper.apart_spec,wI]
   .grind [Oper.apart_spec]
   grind [gX,wI,zD,Oper.apart_spec]
  .have K:k∈l.map (·.1):=(List.mem_cons.1 B).resolve_left fun h=>e h.symm;obtain⟨v,d,L,h2,M,y⟩:=X9 hd g hk D i K;refine⟨v,(m,u)::d,L, ?_,⟨M,I,f,by rw[y];exact p⟩,by rw[gX,gX,y]⟩;simp_all
theorem CO {d:Type} {f:d->d->Bool} (hf: ∀x y,f x y=true->x=y): ∀(a b:List d),yZ f a b=true->a=b
 |[],[],_=>rfl
 |[],_::_,h=>by simp[yZ]at h
 |_::_,[],h=>by simp[yZ]at h
 |x::l,y::m,h=>by
  simp only[yZ,ah]at h;rw[hf x y h.1,CO hf l m h.2]
theorem NY: ∀(t:Ty) (x y:t.den),Zi t x y=true->x=y
 |.unit,(),(),_=>rfl
 |.bool,x,y,h=>by simpa [Zi] using h
 |.int _,x,y,h=>by simpa [Zi,cZ] using h
 |.str,x,y,h=>by simpa [Zi,iG] using h
 |.list t,x,y,h=>CO (NY t) x y h
 |.pair a b,x,y,h=>by
  simp only[Zi,ah]at h;exact Prod.ext (NY a _ _ h.1) (NY b _ _ h.2)
theorem aqT {t u:Ty} {x:t.den} {y:u.den} (h:(match mJ t y with|some y=>Zi t x y|none=>false)=true): ∃e:u=t,x=cast (congrArg Ty.den e) y:=by
 grind [oO,NY]
theorem amZ {a b:Option (Int×Int)} (h:ags a b=true):a=b:=by
 cases a<;>cases b<;>simp_all [ags,cZ,Prod.ext_iff]
theorem mP {a b:Nat} (h:Nat.beq a b=true):a=b:=ax h
mutual
theorem aqX: ∀(a b:cO),WA a b=true->a=b
 |.undef,b,h=>by grind [WA]
 |.val t x,b,h=>by
  cases b<;>simp only[WA,ai]at h;obtain⟨e,h⟩:=aqT h;simp_all
 |.nils,b,h=>by grind [WA]
 |.nilp,b,h=>by grind [WA]
 |.nilfn,b,h=>by grind [WA]
 |.emp,b,h=>by grind [WA]
 |.tup l,b,h=>by
  cases b<;>simp only[WA,ai]at h;rw[uf l _ h]
 |.agg l,b,h=>by
  cases b<;>simp only[WA,ai]at h;rw[uf l _ h]
 |.cellp t x,b,h=>by
  cases b<;>simp only[WA,ai]at h;obtain⟨e,h⟩:=aqT h;simp_all
 |.lst t x n,b,h=>by
  cases b<;>simp only[WA,ai,ah]at h;obtain⟨j,d⟩:=h;split at d
  .rename_i z g
   obtain⟨e,p⟩:=oO g;have q:=NY (.list t) x z d
   grind
  .cases d
 |.ptr i o,b,h=>by
  cases b<;>simp only[WA,ai,ah]at h;simp_all
 |.slc i v w,b,h=>by
  cases b<;>simp only[WA,ai,ah]at h
  grind [mP,amZ]
 |.ep i v m o,b,h=>by
  cases b<;>simp only[WA,ai,ah]at h;rw[mP h.1,mP h.2.1,mP h.2.2.1,mP h.2.2.2]
 |.fn f l,b,h=>by
  cases b<;>simp only[WA,ai,ah]at h;rw[mP h.1,uf l _ h.2]
 |.mfn f l,b,h=>by
  cases b<;>simp only[WA,ai,ah]at h;rw[mP h.1,uf l _ h.2]
 |.mpv i,b,h=>by
  cases b<;>simp only[WA,ai]at h;rw[mP h]
 |.yld i,b,h=>by
  cases b<;>simp only[WA,ai]at h;rw[mP h]
 |.slf i,b,h=>by
  cases b<;>simp only[WA,ai]at h;rw[mP h]
 |.sd i v,b,h=>by
  cases b<;>simp only[WA,ai,ah]at h;simp_all
theorem uf: ∀(a b:List cO),Jy a b=true->a=b
 |[],[],_=>rfl
 |[],_::_,h=>by simp[Jy]at h
 |_::_,[],h=>by simp[Jy]at h
 |a::l,b::m,h=>by
  simp only[Jy,ah]at h;rw[aqX a b h.1,uf l m h.2]
end
theorem rU: ∀(B:List Nat) (fr:List cO),(rG ops B fr).length=fr.length
 |[],_=>rfl
 |i::B,fr=>by
  simp only[rG];split
  .rw[List.length_set];exact rU B fr
  .exact rU B fr
theorem ac4 {k d:Nat} {B:List Nat} {fr:List cO} (h:xq ops k=a6 d):rG ops (k::B) fr=(rG ops B fr).set d .undef:=by
 have e:(ops[k]?).bind (·.dst)=a6 d:=h;simp only[rG,e]
theorem ac3 {k:Nat} {B:List Nat} {fr:List cO} (h:xq ops k=a7):rG ops (k::B) fr=rG ops B fr:=by
 have d:(ops[k]?).bind (·.dst)=a7:=h;simp only[rG,d]
theorem Xm: ∀(B:List Nat) (fr:List cO) (i:Nat) (h:i<fr.length) (e:i<(rG ops B fr).length),(rG ops B fr)[i]=.undef\/((rG ops B fr)[i]=fr[i]/\ ∀k∈B,xq ops k≠a6 i)
 |[],fr,i,h,e=>.inr ⟨rfl,fun k hk=>by cases hk⟩
 |k::B,fr,i,h,e=>by
  have f:=rU (ops:=ops) B fr;have g:=Xm B fr i h (by rw[f];exact h);cases hd:xq ops k with
  |some d=>
   simp only[ac4 hd]
   grind
  |none=>
   simp_all [ac3]
theorem aDK (X:Act) (d:Option Nat) (v:Value) (i:Nat) (e:d≠a6 i) (h:i<(X.put d v).tmps.size) (f:i<X.tmps.size):(X.put d v).tmps[i]=X.tmps[i]:=by
 cases d with
 |none=>rfl
 |some d=>
  simp_all [Act.put]
theorem Yb (a:Act) (i:Nat): ∀(l:List (Nat×Value)),(∀k∈l.map (·.1),xq ops k≠a6 i)-> ∀(h:i<(gX ops a l).tmps.size) (d:i<a.tmps.size),(gX ops a l).tmps[i]=a.tmps[i]
 |[],_,h,d=>rfl
 |(k,v)::l,hk,h,d=>by
  have e:i<(gX ops a l).tmps.size:=by rw[wV];exact d
  rw[<-Yb a i l (fun m f=>hk m (aB _ f)) e d];exact aDK _ _ _ _ (hk k aU) h e
theorem al7 {c:Cx} {fr:List cO} {l:List (Nat×Value)} {B:List Nat} (h:bW c fr (gX ops a l).tmps.toList) (j: ∀k∈l.map (·.1),k∈B):bW c (rG ops B fr) a.tmps.toList:=by
 have g:=bW.length _ _ h;rw[Array.length_toList (xs:=(gX ops a l).tmps),wV]at g;refine bW.mk _ _ (by simp_all [rU]) fun i d f=> ?_;rw[rU]at d;have f:i<a.tmps.size:=by simpa using f
 rcases Xm (ops:=ops) B fr i d (by assumption)with e|⟨e,hk⟩
 .rw[e];simp[dh]
 .rw[e];have:=bW.get _ _ h i d (by simp_all [wV])
  grind [Yb]
theorem Qp {o:Oper} (h:lJ o.op=true): ∀cs b,o.op≠ .select cs b:=fun cs b e=>by simp_all [lJ]
theorem anJ {d:Op} (h:je d=true):lJ d=true:=by
 cases d<;>first|exact h|skip
 rename_i e
 obtain⟨f,g,i⟩:=e;cases f with
 |builtin b=>cases b<;>first|exact h|(simp[je]at h)
 |value v=>rfl
 |invoke x m=>simp[je]at h
def aoP (T:TT) (cl:Bool) {R:Type} (call:gZ R) (ops:Array Oper) (d:List cO) (st:St) (k:Nat):Prop:=∃ok,ops[k]? =a6 ok/\((je ok.op=true/\ ∃(r:R) (K:St->Option R),(fH T cl call ok st fun z s=>cond (sameAt ok.dst z st) (K s) a7)=a6 r)\/ (je ok.op=false/\lu ok d=lu ok st.fr/\Cb ok.dst d=Cb ok.dst st.fr))
theorem EG {R:Type} {r:R} (hT:TOk P T) {call:gZ R} {g:List cO} {K:St->Option R} (f:jG W0 b0 rd c st a ats): ∀(B:List Nat),
  AL T cl call ops g B st K=a6 r->K st=a6 r/\ ∀k∈B,aoP T cl call ops g st k
 |[],h=>⟨h,fun k hk=>by cases hk⟩
 |k::B,h=>by
  simp only[AL]at h;split at h
  .rename_i ok j
   cases hq:je ok.op with
   |true=>
    rw[hq]at h;simp only[aa]at h;have l:=h;obtain⟨z,u,g1,g2,g3⟩:=Dn hT f.ok hq f.hp f.fr h;replace g1:=dQ g1;obtain⟨g4,g5⟩:=EG hT f B g1.2;refine⟨g4,fun m d=> ?_⟩;rcases List.mem_cons.1 d with e|d
    .exact⟨ok,by rw[e];exact j,.inl ⟨hq,r,fun _=>AL T cl call ops g B st K,l⟩⟩
    .exact g5 m d
   |false=>
    rw[hq]at h;simp only[ac]at h;replace h:=dQ h;obtain⟨i,h⟩:=h;simp only[ah]at i;obtain⟨g4,g5⟩:=EG hT f B h;refine⟨g4,fun m d=> ?_⟩;rcases List.mem_cons.1 d with e|d
    .exact⟨ok,by rw[e];exact j,.inr ⟨hq,uf _ _ i.1,uf _ _ i.2⟩⟩
    .exact g5 m d
  .cases h
theorem ww.same {o:Oper} {fr e:List cO} {z:cO} (h:ww sg cl o fr z) (p:lu o fr=lu o e) (h2:Cb o.dst fr=Cb o.dst e):ww sg cl o e z:=by
 obtain⟨f,g,i,q,j,l,u,m⟩:=h;refine⟨f,g,i,fun d hd=> ?_,j,l,by simp_all,m⟩;simp_all [Cb]
theorem aeX {d:Nat} {z:cO} (h:z=st.fr.getD d .undef):st.put (a6 d) z=st:=by
 obtain⟨fr,e,f,nxt⟩:=st;simp only[St.put];have:fr.set d z=fr:=by
  subst h;apply List.ext_getElem
  all_goals grind
 rw[this]
theorem ayV (X:Act) (d:Option Nat) (v u:Value):(X.put d v).put d u=X.put d u:=by
 cases d with
 |none=>rfl
 |some d=>simp[Act.put]
theorem Xi (hT:TOk P T) (hd:pz ops=true) (N:pX (R:=Unit) P (IV sg cl)) {R:Type} {call:gZ R} {ab:List cO} {lA:Array Bool} {log:List Nat}: ∀(l q:List (Nat×Value)),jm ops lA log (l.map (·.1))->jG W0 b0 rd c st (gX ops (gX ops a l) q) ats->
  (∀k∈l.map (·.1),aoP T cl call ops ab st k)->NE sg cl ops st.fr (l.map (·.1))->(∀m∈q.map (·.1),∃i,ops[m]? =a6 i/\ ∀k∈l.map (·.1),∃ok,ops[k]? =a6 ok/\aoS ops ok i)->
  ∃f,f.map (·.1)=l.map (·.1)/\jG W0 b0 rd c st (gX ops (gX ops a f) q) ats/\mV rd n P ops c a f
 |[],q,_,B,_,_,_=>⟨[],rfl,B,trivial⟩
 |(k,v)::l,q,hs,B,O,hF,S=>by
  obtain⟨s1,s2,s3,s4,ok,p,U,s7,s8,s9,al⟩:=hs;have ad: ∀m∈(q++[(k,v)]).map (·.1),∃i,ops[m]? =a6 i/\ ∀x∈l.map (·.1),∃V,ops[x]? =a6 V/\aoS ops V i:=fun m g=>by
   grind
  obtain⟨f,e1,j,ae⟩:=Xi hT hd N l (q++[(k,v)]) s1 (by rw[BQ];exact B) (fun m g=>O m (aB _ g)) (fun m g=>hF m (aB _ g)) ad;rw[BQ]at j;have hX:gX ops (gX ops a f) [(k,v)]=(gX ops a f).put (xq ops k) v:=rfl;rw[hX]at j;have D:=wI p;have ag:execOp (gX ops ((gX ops a f).put (xq ops k) v) q).eval ok=execOp (gX ops a f).eval ok:=by
   rw[Fv _ (Qp U) q fun m g e he=> ?_,execOp_put (ops:=ops) ok (Qp U) _ _ _ (by rw[D];exact s8)];obtain⟨i,h1,I⟩:=S m g;obtain⟨W,y,J⟩:=I k aU;rw[p]at y;cases y;exact(J e (by grind [wI])).1
  have X: ∀u,gX ops ((gX ops a f).put (xq ops k) u) q=(gX ops (gX ops a f) q).put (xq ops k) u:=fun u=>zD _ q fun m g e he h=>by
   obtain⟨i,h1,I⟩:=S m g;obtain⟨W,y,J⟩:=I k aU;rw[p]at y;cases y;exact(J e (by grind [wI])).2 (by simp_all)
  have Y: ∀(z:cO) (u:Value),dh c z u->st.put ok.dst z=st->Jq rd n P c (gX ops ((gX ops a f).put (xq ops k) v) q) ok u->
    ∃L,L.map (·.1)=((k,v)::l).map (·.1)/\jG W0 b0 rd c st (gX ops (gX ops a L) q) ats/\mV rd n P ops c a L:=fun z u g2 ak g3=>by
   refine⟨(k,u)::f,by simp[e1], ?_,ae,ok,p,g3.congr ag.symm⟩;have:=j.put (dst:=ok.dst) g2;rw[ak,X v,D,ayV,<-D,<-X u]at this;exact this
  obtain⟨W,Z,a2⟩:=O k aU;rw[p]at Z;cases Z;rcases a2 with ⟨M,r,K,a3⟩|⟨M,_,_⟩
  .obtain⟨z,u,g1,g2,g3⟩:=Dn hT j.ok M j.hp j.fr a3;rw[cond_eq_ite]at g1;split at g1
   .rename_i A
    refine Y z u g2 ?_ (.of_run g3);cases hdst:ok.dst with
    |none=>rfl
    |some d=>
     rw[hdst]at A;exact aeX (aqX _ _ A)
   .cases g1
  .obtain⟨z,A⟩:=hF k aU ok p M;obtain⟨g2,g3⟩:=RZ (n:=n) hT N A rfl j;refine Y z _ g2 ?_ g3;cases hdst:ok.dst with
   |none=>rfl
   |some d=>exact aeX (A.2.2.2.1 d hdst)
theorem H6 (hT:TOk P T) (hd:pz ops=true) (U:pX (R:=Unit) P (IV sg cl)) {R:Type} {r:R} {call:gZ R} (V:oV P W0 n call) {lA:Array Bool} {log:List Nat} {l:List (Nat×Value)} {j:Nat} {K:St->Option R}
  (hF:NE sg cl ops st.fr (l.map (·.1))) (hj:j∈Region.ready .any ops lA) (B:jm ops lA log (l.map (·.1))) (al:j∉l.map (·.1)) (d:jG W0 b0 rd c st (gX ops a l) ats)
  (h:wO T cl call ops j log st K=a6 r) {next:Act->World->Prop} {Q:Exit->Act->World->Prop}
  (W: ∀c' q v f,K q=a6 r->f.map (·.1)=l.map (·.1)->jG W0 b0 rd c' q (gX ops v f) ats->mV rd n P ops c' v f->NE sg cl ops q.fr (l.map (·.1))->c.Mono c'->next v c'.w):wpOpIn (FW rd) n P ops Q j next a c.w:=by
 unfold wO at h;split at h
 .rename_i g X
  replace h:=dQ h;obtain⟨x,h⟩:=h;simp only[ah]at x;have Y:g.guard=a7:=by simpa using x.1
  unfold wpOpIn;simp only[X];rw[am (by simp[Region.wanted,Y])];have D: ∀k∈l.map (·.1),k∈log.filter fun i=> !vZ ops j i:=fun k hk=>List.mem_filter.2 ⟨jm.log B k hk,by grind [afF,jm.un]⟩;have an: ∀k∈l.map (·.1),∃ok,ops[k]? =a6 ok/\ok.apart ops g=true:=fun k hk=>by
   have Z:=x.2;unfold aty at Z
   grind
  have ab:jG W0 b0 rd c {st with fr:=rG ops (log.filter fun i=> !vZ ops j i) st.fr,stk:=st.fr::st.stk} a ((gX ops a l).tmps::ats):=
   ⟨d.hp,d.nxt,d.ok,al7 d.fr D,⟨d.fr,d.stk⟩,by have:=d.df;rwa [BR]at this,d.rd⟩
  refine UY hT V h ab fun c' z u ad k1 k2 k3 k4=> ?_;split at k1
  .rename_i fr y ae
   have p:=k2.stk;rw[ae]at p;simp only[EX]at p;have ag:jG W0 b0 rd c' {ad with fr:=fr,stk:=y} (gX ops a l) ats:=
    ⟨k2.hp,k2.nxt,k2.ok,p.1,p.2,by rw[BR];exact k2.df,k2.rd⟩
   have A:=ag.put (dst:=g.dst) k3;have ak:(gX ops a l).put g.dst u=gX ops (a.put g.dst u) l:=(zD a l fun m I e he hh=>by
    grind [Oper.apart_spec,wI]).symm
   rw[ak]at A;obtain⟨g1,g2⟩:=EG hT A _ k1;have J: ∀k∈l.map (·.1),aoP T cl call ops st.fr _ k:=fun k hk=>g2 k (List.mem_reverse.2 (D k hk));have L:NE sg cl ops _ (l.map (·.1)):=fun k hk ok M N=>by
    obtain⟨z,hz⟩:=hF k hk ok M N;obtain⟨ao,O,b2⟩:=J k hk;rw[M]at O;cases O;rcases b2 with ⟨S,_⟩|⟨_,b4,b5⟩
    .rw[N]at S;cases S
    .exact⟨z,hz.same b4 b5⟩
   obtain⟨f,e1,e2,e3⟩:=Xi (n:=n) hT hd U l [] B A J L (fun m I=>by cases I);exact W c' _ _ f g1 e1 e2 e3 L k4
  .cases k1
 .cases h
def WfH (h:iD):Prop:= ∀id f e g kH d k n p,ed h id=a6 (.lp f e g kH d (a6 k) n p)->uB f k=a6 (kH,d)
theorem jG.tidy {c:Cx} {st:St} {a:Act} (cl:Bool) (d:jG W0 b0 rd c st a ats): ∃c',jG W0 b0 rd c' (tidy cl st) a ats/\c.Mono c'/\c'.w=c.w:=by
 cases cl with
 |true=>exact⟨c,d,Cx.Mono.refl c,rfl⟩
 |false=>
  have g: ∀i,ed (nZ c.hp) i=ed c.hp i:=fun i=>zt i _;have q: ∀(o:dZ) (l:Loc),o.like l o l:=fun o l=>by
   cases o<;>simp[dZ.like]
  have e:c.Le {c with hp:=nZ c.hp}:=by
   refine⟨fun b f=>⟨⟨f.1,fun⟨j,o,u,m⟩=>f.2.1 ⟨j,o,by simp_all,m⟩,f.2.2⟩,rfl⟩,fun id hk=> ?_,fun id v _ h=>⟨v,by rw[<-g];exact h,q _ _⟩,fun _ h=>h,fun b L h=>⟨L,h⟩,af _,rfl⟩;rcases hk with ⟨o,h⟩|h
   .exact .inl ⟨o,by simp_all⟩
   .exact .inr h
  have x:({c with hp:=nZ c.hp}:Cx).Ok W0:=by
   refine⟨d.ok.bel,fun id o h=> ?_,fun i j o p b u m=>d.ok.inj i j o p b (by simp_all) (by simp_all),d.ok.mks,fun b f=>(e.out b (d.ok.bar b f)).1,d.ok.phi⟩;exact(d.ok.obj id o (by rw[<-g];exact h)).le e rfl fun b _=>rfl
  exact⟨{c with hp:=nZ c.hp},⟨by show nZ c.hp=nZ st.hp;rw[d.hp],d.nxt,x,bW.le e _ _ d.fr,EX.le e _ _ d.stk,d.df,d.rd⟩,e.mono,rfl⟩
theorem jG.wf {c:Cx} {st:St} {a:Act} (d:jG W0 b0 rd c st a ats):WfH st.hp:=fun id f e g kH i k n p h=>by
 rw[<-d.hp]at h;exact(d.ok.obj id _ h).1 k rfl
def WfO:dZ->Prop
 |.lp f _ _ kH bd (a6 k) _ _=>uB f k=a6 (kH,bd)
 |_=>True
theorem Pz: ∀(h:iD),vN h=true->WfH h-> ∀e∈h,WfO e.2
 |[],_,_,e,d=>by simp at d
 |(k,o)::h,g,m,e,d=>by
  simp only[vN,ah,bu]at g;rcases List.mem_cons.1 d with rfl|d
  .cases o with
   |lp f i j kH l ky n p=>
    cases ky with
    |none=>trivial
    |some q=>exact m k f i j kH l q n p (by simp[fF])
   |_=>trivial
  .refine Pz h g.2 (fun id f i j kH l q n p v=>m id f i j kH l q n p ?_) e d;rw[fF];by_cases hk:k=id
   .subst hk;have:=zq _ _ _ v;have u:=g.1;rw[List.any_eq_false]at u;exact absurd (by simp:Nat.beq k k=true) (u _ this)
   simp_all
theorem awR {a b:Ex} (h:aBE a b=true):a=b:=by
 cases a<;>cases b<;>simp only[aBE,ai]at h<;>first|rfl|rw[mP h]
theorem aqV {a b:Option Ex} (h:aqU a b=true):a=b:=by
 cases a<;>cases b<;>simp only[aqU,ai]at h
 .rfl
 .rw[awR h]
theorem avY {u:iD} {i:Nat} {a b x:dZ} (z:WfH u) (hb:WfO b) (d:eqO a b=true) (h:We u i a=a6 x):x=b:=by
 cases a with
 |box t l=>
  cases b<;>simp only[eqO,ai,ah]at d;cases h;rw[mP d.1,uf _ _ d.2]
 |arr t v y=>
  cases b<;>simp only[eqO,ai,ah]at d;cases h
  grind [oO,NY,mP]
 |dead=>
  cases b<;>simp only[eqO,ai]at d;cases h;rfl
 |mp k v l=>
  cases b<;>simp only[eqO,ai,ah,decide_eq_true_eq]at d;obtain⟨rfl,rfl,rfl⟩:=d;cases h;rfl
 |lp f fr ps kH bd ky n p=>
  cases b<;>simp only[eqO,ai,ah]at d
  rename_i g L M N O S m q
  obtain⟨A,U,V,e,W,X⟩:=d;split at e
  .rename_i k Y
   have B:=mP A;have D:=mP e;subst B D;simp only[We]at h;split at h
   .rename_i I
    replace h:=dQ h;obtain⟨j,h⟩:=h;simp only[ah]at j
    rename_i g2 _ _ Z ab k2 _ _
    have J:=mP j.1;have K:=mP j.2;subst J K;have w1:=z _ _ _ _ _ _ _ _ _ I
    grind [WfO,uf,CO,mP,aqV]
   .cases h
  .cases e
theorem V8 {f:iD} (g:WfH f): ∀(a b x:iD),(∀e∈b,WfO e.2)->eqH a b=true->V7 f a=a6 x->x=b
 |[],b,x,_,d,h=>by
  cases b with
  |nil=>cases h;rfl
  |cons _ _=>simp[eqH]at d
 |(i,o)::a,b,x,l,d,h=>by
  cases b with
  |nil=>simp[eqH]at d
  |cons e b=>
   obtain⟨j,q⟩:=e;simp only[eqH,ah]at d;simp only[V7]at h;split at h
   .rename_i y m
    split at h
    .rename_i z p
     cases h;rw[avY g (l _ aU) d.2.1 m,V8 g a b z (fun e d=>l e (aB _ d)) d.2.2 p,mP d.1]
    .cases h
   .cases h
theorem anP {d:iD} {a b m:St} (h:settle d a=a6 m) (e:WfH d) (h2:aqW a b=true) (f:vN b.hp=true) (hb:WfH b.hp):m=b:=by
 unfold settle at h;split at h
 .rename_i hp g
  cases h;unfold aqW at h2;simp only[ah]at h2;obtain⟨j,l,i,p⟩:=h2;have q:=V8 e _ _ _ (Pz _ f hb) i g;obtain⟨u,v,x,n1⟩:=a;obtain⟨y,z,A,B⟩:=b
  grind [uf,CO,mP]
 .cases h
theorem aii {e:iD} {i:Nat} {a x:dZ} (g:WfH e) (q:WfO a) (h:We e i a=a6 x):x=a:=by
 cases a with
 |lp f fr ps kH bd ky n p=>
  cases ky with
  |none=>simp[We]at h
  |some k=>
   simp only[We]at h;split at h
   .rename_i j
    replace h:=dQ h;obtain⟨d,h⟩:=h;simp only[ah]at d;have l:=mP d.1;have m:=mP d.2;subst l m;have u:=g _ _ _ _ _ _ _ _ _ j;simp_all [WfO]
   .cases h
 |_=>simp_all [We]
theorem V9 {d:iD} (f:WfH d): ∀(a x:iD),(∀e∈a,WfO e.2)->V7 d a=a6 x->x=a
 |[],x,_,h=>by cases h;rfl
 |(i,o)::a,x,g,h=>by
  simp only[V7]at h;split at h
  .rename_i y j
   split at h
   .rename_i z l
    cases h;rw[aii f (g _ aU) j,V9 f a z (fun e m=>g e (aB _ m)) l]
   .cases h
  .cases h
theorem afn {d:iD} {a m:St} (h:settle d a=a6 m) (e:WfH d) (f:vN a.hp=true) (g:WfH a.hp):m=a:=by
 unfold settle at h;split at h
 .rename_i hp i
  cases h;rw[V9 e _ _ (Pz _ f g) i]
 .cases h
theorem aez {e:iD} {L:List (Option St)} {m:St} (h:UN e L=a6 m) (f:WfH e): ∀x∈L,∃b,x=a6 b/\(WfH b.hp->m=b):=by
 unfold UN at h;split at h
 .rename_i a l
  replace h:=dQ h;obtain⟨g,h⟩:=h;split at h
  .rename_i hp i
   cases h;intro x j;have d:=List.all_eq_true.1 g x j;cases x with
   |none=>simp at d
   |some b=>
    simp only[ah]at d;refine⟨b,rfl,fun p=> ?_⟩;obtain⟨d,q⟩:=d;unfold aqW at d;simp only[ah]at d;obtain⟨v,y,u,z⟩:=d;have A:=V8 f _ _ _ (Pz _ q p) u i;obtain⟨B,D,I,n1⟩:=a;obtain⟨J,K,M,N⟩:=b
    grind [uf,CO,mP]
  .cases h
 .cases h
def adf (ops:Array Oper) (lA:Array Bool):Nat:=((List.range ops.size).filter fun i=> !lA.getD i true).length
theorem filter_lt {f:Type} {p q:f->Bool}: ∀(l:List f),(∀x∈l,q x=true->p x=true)->(∃x∈l,p x=true/\q x=false)->(l.filter q).length<(l.filter p).length
 |[],_,h=>by simp_all
 |y::l,h,d=>by
  have m:(l.filter q).length<=(l.filter p).length:=by
   clear d
   induction l with
   |nil=>simp
   |cons z l g=>
    grind
  obtain⟨x,d,i,j⟩:=d;simp only[List.filter_cons];rcases List.mem_cons.1 d with e|d
  .grind
  .have g:=filter_lt l (fun x d=>h x (aB _ d)) ⟨x,d,i,j⟩
   grind
theorem Ky {lA:Array Bool} {j:Nat} (l:lA.size=ops.size) (d:j∈Region.ready .any ops lA):adf ops (lA.setIfInBounds j true)<adf ops lA:=by
 obtain⟨f,m,g,_⟩:=mem_ready.1 d;have i:j<ops.size:=(Array.getElem?_eq_some_iff.1 g).1;refine filter_lt _ (fun x p h=> ?_) ⟨j,List.mem_range.2 i,by rw[f];rfl, ?_⟩
 .by_cases e:j=x
  all_goals simp_all
 simp
theorem al9 {lA:Array Bool} (h:adf ops lA=0):Region.ready .any ops lA=[]:=by
 simp_all [adf,Region.ready]
theorem jm.oldest {lA:Array Bool} {log:List Nat}: ∀{l:List Nat},jm ops lA log l->l≠[]-> ∃k∈l,k∈Region.ready .any ops lA
 |[],_,h=>absurd rfl h
 |[k],h,_=>by
  obtain⟨_,f,_,_,ok,g,_,_,_,i,_⟩:=h;simp_all [mem_ready]
 |k::m::l,h,_=>by
  obtain⟨x,d,e⟩:=jm.oldest h.1 (by simp);exact⟨x,aB _ d,e⟩
structure Lag (n:Nat) (sg:FuncId->Option Sum) (cl:Bool) (P:Program) (W0:World) (b0:Nat) (rd:Option Nat) (ats:List (Array Value)) (ops:Array Oper) (c:Cx) (st:St) (lE:Array Bool) (log:List Nat) (a:Act) (lA:Array Bool) (l:List (Nat×Value)):Prop where
 rel:jG W0 b0 rd c st (gX ops a l) ats
 pst:jm ops lA log (l.map (·.1))
 run:mV rd n P ops c a l
 sA:lA.size=ops.size
 sE:lE.size=ops.size
 sub: ∀j,lA.getD j false=true->lE.getD j false=true
 cov: ∀j,lE.getD j false=true->lA.getD j false=true\/j∈l.map (·.1)
 hE: ∀k∈l.map (·.1),lE.getD k false=true
 fit:NE sg cl ops st.fr (l.map (·.1))
theorem ZC {l:Array Bool} {j:Nat} (h:j<l.size):l.getD j true=l.getD j false:=by simp[h]
theorem Lag.ready {d:Array Bool} {log:List Nat} {lA:Array Bool} {l:List (Nat×Value)} (h:Lag n sg cl P W0 b0 rd ats ops c st d log a lA l) {j:Nat} (g:j∈Region.ready .any ops lA) (x:j∉l.map (·.1)):j∈Region.ready .any ops d:=by
 obtain⟨y,i,f,m⟩:=mem_ready.1 g;have p:j<ops.size:=(Array.getElem?_eq_some_iff.1 f).1;refine mem_ready.2 ⟨?_,i,f,fun e q u=>h.sub _ (m e q u)⟩;cases hg:d.getD j true with
 |false=>rfl
 |true=>
  rw[ZC (by rw[h.sE];exact p)]at hg;rcases h.cov j hg with v|v
  all_goals grind
theorem QX (hd:pz ops=true) {f:Array Bool} {log:List Nat} {Q:Act->World->Prop}
  (N:Region.ready .any ops f=[]-> ∀w,IP c w-> ∀a,jG W0 b0 rd (c.at_ w) st a ats->Q a w)
  (O: ∀(w:World),IP c w-> ∀(d:Nat) (a:Act) (lA:Array Bool) (l:List (Nat×Value)) (j:Nat),Lag n sg cl P W0 b0 rd ats ops (c.at_ w) st f log a lA l->adf ops lA<=d+1->j∈Region.ready .any ops lA->j∉l.map (·.1)->j∈Region.ready .any ops f->
   wpOpIn (FW rd) n P ops (fun e a w=>e=.normal/\Q a w) j (wpAnyIn (FW rd) n P .any ops (fun e a w=>e=.normal/\Q a w) d (lA.setIfInBounds j true)) a w):
  ∀(m d:Nat) (w:World),IP c w-> ∀(a:Act) (lA:Array Bool) (l:List (Nat×Value)),l.length=m->Lag n sg cl P W0 b0 rd ats ops (c.at_ w) st f log a lA l->adf ops lA<=d->
   wpAnyIn (FW rd) n P .any ops (fun e a w=>e=.normal/\Q a w) d lA a w:=by
 have J: ∀(w:World),IP c w-> ∀(a:Act) (lA:Array Bool) (l:List (Nat×Value)),Lag n sg cl P W0 b0 rd ats ops (c.at_ w) st f log a lA l->Region.ready .any ops lA=[]->Q a w:=fun w g a lA l h i=>by
  have S:l=[]:=by
   cases l with
   |nil=>rfl
   |cons x l=>
    obtain⟨k,_,hk⟩:=jm.oldest h.pst (by simp);simp_all
  subst S;refine N ?_ w g a h.rel;cases hrE:Region.ready .any ops f with
  |nil=>rfl
  |cons j rs=>
   obtain⟨q,u,K,U⟩:=mem_ready.1 (show j∈Region.ready .any ops f by rw[hrE];simp);have z:j<ops.size:=(Array.getElem?_eq_some_iff.1 K).1;have:j∈Region.ready .any ops lA:=mem_ready.2 ⟨by
    cases hg:lA.getD j true with
    |false=>rfl
    |true=>
     rw[ZC (by rw[h.sA];exact z)]at hg;exact(Oj (h.sub j hg) q).elim,u,K,fun e V W=>(h.cov _ (U e V W)).resolve_right (by simp)⟩
   simp_all
 intro m
 induction m using Nat.strongRecOn with
 |ind m A=>
  intro d w g a lA l y h X;cases d with
  |zero=>
   have i:=al9 (ops:=ops) (lA:=lA) (by omega);exact⟨i,rfl,J w g a lA l h i⟩
  |succ d=>
   refine⟨fun i=>⟨rfl,J w g a lA l h i⟩,fun j p=> ?_⟩;by_cases hjl:j∈l.map (·.1)
   .obtain⟨ad,u,B,ae⟩:=mem_ready.1 p;obtain⟨v,D,g1,g2,g3,g4⟩:=X9 hd B p h.pst h.run hjl;have z:j<ops.size:=(Array.getElem?_eq_some_iff.1 B).1;have Y:u.guard=a7:=by
     have: ∀(l:List Nat),jm ops lA log l->j∈l->u.guard=a7:=fun l=>by
      induction l with
      |nil=>intro _ h;cases h
      |cons k l A=>
       intro L y;rcases List.mem_cons.1 y with e|y
       .subst e;obtain⟨_,_,_,_,ok,h5,_,h7,_⟩:=L;simp_all
       .exact A L.1 y
     exact this _ h.pst hjl
    have Z:D.length<m:=by
     grind [aJ]
    refine g1.wpOp (c:=c.at_ w) hd B Y fun M I=> ?_;have ab:IP c M:=Below.trans g (I.mono g.size);refine A D.length Z d M ab _ _ D rfl ⟨by rw[g4];exact h.rel.ext I,by rw[g2];exact jm.take (by rw[h.sA];exact z) h.pst hjl,mV.ext I g3,by simpa using h.sA,h.sE,fun k hk=> ?_,fun k hk=> ?_,fun k hk=>h.hE k (by grind),fun k hk=>h.fit k (by grind)⟩ (by have:=Ky h.sA p;omega)
    .by_cases e:j=k
     .subst e;exact h.hE j hjl
     .rw[getD_set_ne false e]at hk;exact h.sub k hk
    .rcases h.cov k hk with q|q
     .exact .inl (getD_set_true q)
     grind [zH]
   .exact O w g d a lA l j h X p hjl (h.ready p hjl)
theorem am1 {fr:List cO} {d:Nat} {z:cO} {x:Operand} (h:x≠ .tmp d):iM (fr.set d z) x=iM fr x:=by
 cases x with
 |tmp t=>
  grind [iM]
 |_=>rfl
theorem DW {o:Oper} {dst:Option Nat} {z:cO} (h: ∀d,dst=a6 d->d∉o.looksAt ops):lu o (st.put dst z).fr=lu o st.fr:=by
 cases dst with
 |none=>rfl
 |some d=>
  have f: ∀x∈o.op.operands,x≠ .tmp d:=fun x f e=>h d rfl (by
   subst e;exact bJ _ (List.mem_filterMap.2 ⟨.tmp d,by simpa using f,rfl⟩))
  grind [lu,St.put,am1,Op.operands,Call.operands,List.map_congr_left]
theorem ah5 {o:Oper} {dst:Option Nat} {z:cO} (h: ∀d,dst=a6 d->o.dst≠a6 d):Cb o.dst (st.put dst z).fr=Cb o.dst st.fr:=by
 cases dst with
 |none=>rfl
 |some d=>
  cases ho:o.dst with
  |none=>rfl
  |some e=>
   have f:d≠e:=fun x=>h d rfl (by rw[ho,x]);simp_all [Cb,St.put]
theorem XY: ∀(rs:List (Ty×Bool)) y,(rs.all fun r=> !r.2&&r.1.rigid)=true->Au rs y=a7/\news rs=0/\(rs.all fun r=>r.1.rigid||(r.2&&r.1.elem.rigid))=true
 |[],_,_=>⟨rfl,rfl,rfl⟩
 |(t,true)::rs,y,h=>by simp at h
 |(t,false)::rs,y,h=>by
  simp only[bn,aF,aS,ah]at h;obtain⟨d,e,f⟩:=XY rs y.2 h.2;simp_all [Au,news]
theorem Xj {hp hp':iD}: ∀(d:List Ty) (args:List cO),args.all cO.calm=true->Cj hp d args=Cj hp' d args
 |[],[],_=>rfl
 |[],_::_,_=>rfl
 |_::_,[],_=>rfl
 |t::d,v::args,h=>by
  simp only[bn,ah]at h;have e:v.as hp t=v.as hp' t:=by cases v<;>simp only[cO.calm,ai]at h<;>first|rfl|simp_all
  have f:=Xj (hp:=hp) (hp':=hp') d args h.2;simp only[Cj,e,f]
theorem ah2 {R:Type} {r:R} {i:Nat} {e:Oper} {X:cO->St->Option R} (hi:ZI sg ops st.fr i=true) (A:ops[i]? =a6 e) (B: ∀d,e.dst=a6 d->d∉e.looksAt ops)
  (h:fH T cl (IV sg cl) e st X=a6 r): ∃z,X z st=a6 r/\lJ e.op=true/\ww sg cl e (st.put e.dst z).fr z:=by
 unfold ZI at hi;rw[A]at hi;simp only at hi;split at hi
 .rename_i g m j
  split at hi
  .rename_i s D
   simp only[ah]at hi;obtain⟨⟨p,q⟩,S⟩:=hi;obtain⟨U,I,V,W,Y,Z⟩:=e;cases I with
   |call c=>
    obtain⟨J,ab,ts⟩:=c;cases J with
    |value v=>
     have L:=j;simp only[lu,List.cons.injEq]at j;simp only[fH]at h;rw[j.1,j.2]at h;have M: ∀{R:Type} (dst:Option Nat) (l:St) (K:cO->St->Option R),IV sg cl (.fn g []) m dst l K=match Cj [] s.ps m with
       |some x=>bU (s.f x) fun y=>K (OW (qN 0 s.rs y)) l
       |none=>a7:=fun {R} dst l K=>by
      simp only[IV,D,p,q,Bool.and_self,aa,Sum.call];have u:=p;unfold MR at u;rw[Xj (hp:=l.hp) (hp':=[]) _ _ q];cases Cj [] s.ps m with
      |none=>simp
      |some x=>
       simp only;cases hf:s.f x with
       |none=>simp[bU]
       |some y=>
        obtain⟨n1,N,O⟩:=XY s.rs y u;simp[bU,n1,N,O]
     rw[M]at h;split at h
     .rename_i x hx
      cases hf:s.f x with
      |none=>rw[hf]at h;cases h
      |some y=>
       rw[hf]at h;refine⟨_,h,rfl,rfl,⟨_,v,rfl,rfl⟩,Vw _ (J4 0 s.rs y p),fun d hd=> ?_,.fn g [],m, ?_,fun dst l K=> ?_⟩
       .simp_all [QN,St.put]
       .rw[DW (ops:=ops) B];exact L
       simp_all [bU]
     .cases h
    |_=>simp[lu]at j
   |_=>simp[lu]at j
  .cases hi
 .cases hi
theorem yB (hT:TOk P T) (hd:pz ops=true) (L: ∀R:Type,pX (R:=R) P (IV sg cl)) {av:gZ St} (Y:oV P W0 n av) {aw:gZ Unit} (Z:oV P W0 n aw) (ab:zY sg av) (ad:zY sg aw): ∀(N:Nat) {R:Type} {r:R} {call:gZ R} (ae:oV P W0 n call) (hx:zY sg call) {K:St->Option R} {Q:Act->World->Prop}
  (O:Array Bool) (log:List Nat) (c:Cx) (st:St),o8 T cl sg av aw ops N call O log st K=a6 r->
  (∀c' p q,K p=a6 r->jG W0 b0 rd c' p q ats->c.Mono c'->Q q c'.w)-> ∀(x:Nat) (a:Act) (lA:Array Bool) (l:List (Nat×Value)),Lag n sg cl P W0 b0 rd ats ops c st O log a lA l->adf ops lA<=x->
   wpAnyIn (FW rd) n P .any ops (fun e a w=>e=.normal/\Q a w) x lA a c.w
 |0,R,r,call,ae,hx,K,Q,O,log,c,st,h,hQ,x,a,lA,l,f,S=>by simp[o8]at h
 |N+1,R,r,call,ae,hx,K,Q,O,log,c,st,h,hQ,x,a,lA,l,f,S=>by
  have az: ∀(w:World) (q:Act) (lA:Array Bool) (l y:List (Nat×Value)) (j:Nat) (c':Cx) (p:St) (a:Act),Lag n sg cl P W0 b0 rd ats ops (c.at_ w) st O log a lA l->j∈Region.ready .any ops lA->j∉l.map (·.1)->y.map (·.1)=l.map (·.1)->
    jG W0 b0 rd c' p (gX ops q y) ats->mV rd n P ops c' q y->NE sg cl ops p.fr (l.map (·.1))->Lag n sg cl P W0 b0 rd ats ops c' p (O.setIfInBounds j true) log q (lA.setIfInBounds j true) y:=fun w q lA l y j c' p a f A B D e2 e3 e4=>by
   obtain⟨_,oj,aX,_⟩:=mem_ready.1 A;have aI:j<ops.size:=(Array.getElem?_eq_some_iff.1 aX).1;refine⟨e2,by rw[D];exact jm.set f.pst B,e3,by simpa using f.sA,by simpa using f.sE,fun k hk=> ?_,fun k hk=> ?_,fun k hk=>getD_set_true (f.hE k (by simp_all)),by rw[D];exact e4⟩
   .by_cases e:j=k
    .subst e;exact zH (by rw[f.sE];exact aI)
    .rw[getD_set_ne false e]at hk ⊢;exact f.sub k hk
   .by_cases e:j=k
    .grind [zH]
    .rw[getD_set_ne false e]at hk ⊢;rw[D];exact f.cov k hk
  have aK: ∀(i:Nat) (g:Oper) (z:cO) (u:Value),i∈Region.ready .any ops O->ops[i]? =a6 g->lJ g.op=true->g.guard=a7->OD ops log i=true->
    o8 T cl sg av aw ops N call (O.setIfInBounds i true) (i::log) (st.put g.dst z) K=a6 r->dh c z u->Jq rd n P c (gX ops a l) g u->
    (je g.op=false-> ∃z,ww sg cl g (st.put g.dst z).fr z/\True)->(je g.op=false->ww sg cl g (st.put g.dst z).fr z)->
    wpAnyIn (FW rd) n P .any ops (fun e a w=>e=.normal/\Q a w) x lA a c.w:=fun i g z u ag I hq aY an g1 g2 g3 _ g4=>by
   obtain⟨aO,bI,aP,aZ⟩:=mem_ready.1 ag;rw[I]at aP;cases aP;have aI:i<ops.size:=(Array.getElem?_eq_some_iff.1 I).1;have bb:i∉l.map (·.1):=fun hm=>Oj (f.hE i hm) aO;have bd:lA.getD i true=false:=by
    cases hga:lA.getD i true with
    |false=>rfl
    |true=>
     rw[ZC (by rw[f.sA];exact aI)]at hga;exact(Oj (f.sub i hga) aO).elim
   have J:=an;unfold OD at J;rw[I]at J;simp only[ah]at J;obtain⟨aA,J⟩:=J;have aQ: ∀m∈l.map (·.1),∃om,ops[m]? =a6 om/\aoS ops om g/\(vZ ops i m=false->om.apart ops g=true):=fun m hm=>by
    have h3:=List.all_eq_true.1 J m (jm.log f.pst m hm);split at h3
    .rename_i om bK
     simp only[ah,bi]at h3
     grind [Oe]
    .cases h3
   refine yB hT hd L Y Z ab ad N ae hx (Q:=Q) (O.setIfInBounds i true) (i::log) c (st.put g.dst z) g1 hQ x a lA ((i,u)::l) ⟨?_, ?_,⟨f.run,g,I,g3⟩,f.sA,by simpa using f.sE,fun k hk=> ?_,fun k hk=> ?_,fun k hk=> ?_,fun k hk ok aV be=> ?_⟩ S
   .have:=f.rel.put (dst:=g.dst) g2;simp_all [gX,wI]
   .exact⟨jm.mono (fun k hk=>aB _ hk) f.pst,bd,aU,bb,g,I,hq,aY,fun d ak=>(Oe aA d ak).1,fun e he hb=>f.cov _ (aZ e he hb),aQ⟩
   .by_cases e:i=k
    .grind
    .rw[getD_set_ne false e];exact f.sub k hk
   .by_cases e:i=k
    .simp_all
    .rw[getD_set_ne false e]at hk;exact(f.cov k hk).imp (fun h=>h) fun h=>aB _ h
   .rcases List.mem_cons.1 hk with e|hk
    .grind [zH]
    .exact getD_set_true (f.hE k hk)
   .rcases List.mem_cons.1 hk with e|hk
    .grind
    .obtain⟨z',bf⟩:=f.fit k hk ok aV be;obtain⟨om,M,h2,_⟩:=aQ k hk;rw[aV]at M;cases M;exact⟨z',bf.same (DW (ops:=ops) fun d ak=>(h2 d ak).1).symm (ah5 fun d ak=>(h2 d ak).2).symm⟩
  simp only[o8]at h;split at h
  .rename_i ao
   exact QX (n:=n) (sg:=sg) (cl:=cl) hd (fun _ w U a hr=>hQ (c.at_ w) st a h hr (Cx.Le.ext U).mono) (fun w U x a lA l j _ _ _ _ A=>by simp_all) _ x c.w (Below.refl _ _) a lA l rfl f S
  .rename_i k rs ao
   split at h
   .rename_i i hf
    have au:=List.find?_some hf;simp only[ah]at au;replace au:=au.1;have ag:=List.mem_of_find?_eq_some hf;rw[<-ao]at ag;split at h
    .rename_i g I
     replace h:=dQ h;obtain⟨V,h⟩:=h;simp only[ah]at V;obtain⟨V,an⟩:=V;have hq:je g.op=true:=by
      grind [X3]
     obtain⟨z,u,g1,g2,g3⟩:=Dn hT f.rel.ok hq f.rel.hp f.rel.fr h;exact aK i g z u ag I (anJ hq) (by simpa using V) an g1 g2 (.of_run g3) (fun h0=>by simp_all) (fun h0=>by simp_all)
    .cases h
   .split at h
    .rename_i i hf
     have au:=List.find?_some hf;have ag:=List.mem_of_find?_eq_some hf;rw[<-ao]at ag;split at h
     .rename_i g I
      replace h:=dQ h;obtain⟨V,h⟩:=h;simp only[ah]at V;obtain⟨V,an⟩:=V;have aA: ∀d,g.dst=a6 d->d∉g.looksAt ops:=by
       have J:=an;unfold OD at J;rw[I]at J;simp only[ah]at J;exact fun d ak=>(Oe J.1 d ak).1
      obtain⟨z,g1,g2,g3⟩:=ah2 au I aA h;obtain⟨g4,g5⟩:=RZ (n:=n) hT (L Unit) g3 (DW (ops:=ops) aA) f.rel;exact aK i g z _ ag I g2 (by simpa using V) an g1 g4 g5 (fun _=>⟨z,g3,trivial⟩) (fun _=>g3)
     .cases h
    .split at h
     .refine QX (n:=n) (sg:=sg) (cl:=cl) hd (fun hr=>by simp_all) (fun w U x a lA l j f S A B W=> ?_) _ x c.w (Below.refl _ _) a lA l rfl f S;rw[ao]at W;obtain rfl:j=k:=by simpa using W
      refine H6 (c:=c.at_ w) hT hd (L Unit) ae f.fit A f.pst B f.rel h fun c' p q y k1 D k2 k3 k5 k4=> ?_;exact yB hT hd L Y Z ab ad N ae hx (Q:=Q) _ log c' p k1 (fun aG aH al v q2 q3=>hQ aG aH al v q2 ((Cx.Le.ext U).mono.trans (k4.trans q3))) x q _ y (az w q lA l y j c' p a f A B D k2 k3 k5) (by have:=Ky f.sA A;omega)
     .rw[cond_eq_ite]at h;split at h
      rotate_left
      .rename_i aW
       simp only[bi,bu,not_or,bG,Bool.not_eq_false]at aW;have hp: ∀o∈ops.toList,yl sg o.op=true:=fun o ho=>List.all_eq_true.1 aW.2 o ho;refine QX (n:=n) (sg:=sg) (cl:=cl) hd (fun hr=>by simp_all) (fun w U x a lA l j f S A B W=> ?_) _ x c.w (Below.refl _ _) a lA l rfl f S;rw[ao]at W;rcases List.mem_cons.1 W with rfl|bg
       .refine H6 (c:=c.at_ w) hT hd (L Unit) ae f.fit A f.pst B f.rel h fun c' p q y k1 D k2 k3 k5 k4=> ?_;exact yB hT hd L Y Z ab ad N ae hx (Q:=Q) _ log c' p k1 (fun aG aH al v q2 q3=>by
         replace v:=dQ v;obtain⟨q0,v⟩:=v;obtain⟨c3,X,m3,w3⟩:=q2.tidy cl;split at v
         .rename_i m hm
          replace v:=(Bc _ v).1;have:=afn hm f.rel.wf q0 X.wf;subst this;rw[<-w3];exact hQ c3 _ al v X ((Cx.Le.ext U).mono.trans (k4.trans (q3.trans m3)))
         .cases v) x q _ y (az w q lA l y j c' p a f A B D k2 k3 k5) (by have:=Ky f.sA A;omega)
       .obtain⟨_,M⟩:=Zl hx hp h;obtain⟨bM,M⟩:=TJ hp ab ad N hx _ _ _ _ M;replace M:=(dQ M).2;split at M
        .rename_i m hm
         obtain⟨hK,bt⟩:=Bc _ M;have bC:=bt _ (List.mem_map.2 ⟨j,bg,rfl⟩);refine H6 (c:=c.at_ w) hT hd (L Unit) Z f.fit A f.pst B f.rel bC fun c' p q y k1 D k2 k3 k5 k4=> ?_;exact yB hT hd L Y Z ab ad N Z ad (Q:=Q) _ log c' p k1 (fun aG aH al v q2 q3=>by
          replace v:=(dQ v).1;simp only[ah]at v;obtain⟨c3,X,m3,w3⟩:=q2.tidy cl;have:=anP hm f.rel.wf v.1 v.2 X.wf;subst this;rw[<-w3];exact hQ c3 _ al hK X ((Cx.Le.ext U).mono.trans (k4.trans (q3.trans m3)))) x q _ y (az w q lA l y j c' p a f A B D k2 k3 k5) (by have:=Ky f.sA A;omega)
        .cases M
      split at h
      .rename_i bP bD
       refine QX (n:=n) (sg:=sg) (cl:=cl) hd (fun hr=>by simp_all) (fun w U x a lA l j f S A B W=> ?_) _ x c.w (Below.refl _ _) a lA l rfl f S;rw[ao]at W;obtain⟨b,bF,bH⟩:=aez bD f.rel.wf _ (List.mem_map.2 ⟨j,W,rfl⟩);refine H6 (c:=c.at_ w) hT hd (L Unit) Y f.fit A f.pst B f.rel bF fun c' p q y k1 D k2 k3 k5 k4=> ?_;exact yB hT hd L Y Z ab ad N Y ab (Q:=Q) _ log c' p k1 (fun aG aH al v q2 q3=>by
        cases v;obtain⟨c3,X,m3,w3⟩:=q2.tidy cl;have:=bH X.wf;subst this;rw[<-w3];exact hQ c3 _ al h X ((Cx.Le.ext U).mono.trans (k4.trans (q3.trans m3)))) x q _ y (az w q lA l y j c' p a f A B D k2 k3 k5) (by have:=Ky f.sA A;omega)
      .cases h
theorem agU (hT:TOk P T) (q:P.follows .mixedOrders=true) (hd:pz ops=true) (u: ∀R:Type,pX (R:=R) P (IV sg cl)) {g:gZ St} (v:oV P W0 n g) {i:gZ Unit} (x:oV P W0 n i) (y:zY sg g) (z:zY sg i) {R:Type} {r:R} {call:gZ R} (A:oV P W0 n call) (hx:zY sg call) {id m:Nat} {K:St->Option R} {Q:Exit->Act->World->Prop}
  (h:o8 T cl sg g i ops m call (Array.replicate ops.size false) [] st K=a6 r) (B:jG W0 b0 rd c st a ats) (D: ∀c' d f,K d=a6 r->jG W0 b0 rd c' d f ats->c.Mono c'->Q .normal f c'.w):
  (Code.region id ops true).wpIn (FW rd) n P Q a c.w:=by
 have p:IP c {c.w with drawn:=c.w.drawn+1}:=⟨rfl,rfl,rfl,af _,fun _ _=>rfl⟩;have I:=B.ext p;have J:=yB (Q:=fun a w=>Q .normal a w) hT hd u v x y z m A hx _ [] (c.at_ {c.w with drawn:=c.w.drawn+1}) st h (fun c' d f k1 k2 k3=>D c' d f k1 k2 ((Cx.Le.ext p).mono.trans k3)) ops.size a
  (Array.replicate ops.size false) [] ⟨I,trivial,trivial,by simp,by simp,fun j l=>l,fun j l=>.inl l,(fun k hk=>by cases hk),(fun k hk=>by cases hk)⟩ (by
   grind [adf])
 exact Code.wpIn_mono (fun e a w L=>by simp_all) (wpIn_region_any q J)
end
end
section
open Option renaming some → a6, none → a7
open Bool renaming and_eq_true → ah
open Nat renaming le_trans → aK
open Go.RowKit
section
variable {P:Program} {T:TT} {W0:World} {b0:Nat} {rd:Option Nat} {R:Type} {r:R} {ats:List (Array Value)}
theorem aoM {F:Fence} {n:Nat} {Q:Exit->Act->World->Prop} {a:Act} {w:World} {e:Ex} {d:Code} (f:e.code=a6 d) (h:Q e.xt a w):d.wpIn F n P Q a w:=by
 cases e<;>simp only[Ex.code,Option.some.injEq,reduceCtorEq]at f<;>subst f
 .exact wpIn_exit h
 .exact wpIn_goto h
 .exact wpIn_ret h
theorem Um {n:Nat} {F:St->(Ex->St->Option R)->Option R} {K:Ex->St->Option R} {Q:Exit->Act->World->Prop} {code:Code} {kp:Option fZ}
  (hF: ∀(L:Ex->St->Option R) (M:Exit->Act->World->Prop) (c:Cx) (st:St) (a:Act),F st L=a6 r->jG W0 b0 rd c st a ats->b0<=c.w.heap.size->(∀e c' g B,L e g=a6 r->jG W0 b0 rd c' g B ats->c.Mono c'->M e.xt B c'.w)->code.wpIn (FW rd) n P M a c.w)
  {c:Cx} {st:St} {a:Act} (m:Nat) (h:iter kp F m st K=a6 r) (N:jG W0 b0 rd c st a ats) (hb:b0<=c.w.heap.size) (z: ∀e c' g B,K e g=a6 r->jG W0 b0 rd c' g B ats->c.Mono c'->Q e.xt B c'.w):
  (Code.loop code).wpIn (FW rd) n P Q a c.w:=by
 refine wpIn_loop_ghost (fun m a w=> ∃c' g,iter kp F m g K=a6 r/\jG W0 b0 rd c' g a ats/\c.Mono c'/\c'.w=w) m ⟨c,st,h,N,Cx.Mono.refl c,rfl⟩ ?_;rintro m a w ⟨O,S,J,U,f,rfl⟩;cases m with
 |zero=>simp[iter]at J
 |succ m=>
  simp only[iter]at J;refine hF _ _ O S a J U (aK hb f.size) fun e D I A d i j=> ?_;cases e with
  |normal=>
   simp only at d;simp only[Ex.xt,Exit.then];cases kp with
   |none=>exact⟨m,Nat.lt_succ_self m,D,I,d,i,f.trans j,rfl⟩
   |some k=>
    simp only at d;split at d
    .rename_i p q
     obtain⟨u,v,x,y⟩:=sG i q;exact⟨m,Nat.lt_succ_self m,u,p,d,v,(f.trans j).trans x,y⟩
    .cases d
  |ret=>
   simp only at d;simp only[Ex.xt,Exit.then];cases kp with
   |none=>exact z .ret D I A d i (f.trans j)
   |some k=>
    simp only at d;split at d
    .rename_i p q
     obtain⟨u,v,x,y⟩:=YH i q;rw[<-y];exact z .ret u p A d v ((f.trans j).trans x)
    .cases d
  |exit id=>
   simp only at d;simp only[Ex.xt,Exit.then];cases kp with
   |none=>exact z (.exit id) D I A d i (f.trans j)
   |some k=>
    simp only at d;split at d
    .rename_i p q
     obtain⟨u,v,x,y⟩:=sG i q;rw[<-y];exact z (.exit id) u p A d v ((f.trans j).trans x)
    .cases d
  |goto l=>
   simp only at d;simp only[Ex.xt,Exit.then];cases kp with
   |none=>exact z (.goto l) D I A d i (f.trans j)
   |some k=>
    simp only at d;split at d
    .rename_i p q
     obtain⟨u,v,x,y⟩:=sG i q;rw[<-y];exact z (.goto l) u p A d v ((f.trans j).trans x)
    .cases d
theorem Xq {n:Nat} {F:St->(Ex->St->Option R)->Option R} {K:Ex->St->Option R} {Q:Exit->Act->World->Prop} {code:Code} {kp:Option fZ}
  (hF: ∀(B:Ex->St->Option R) (D:Exit->Act->World->Prop) (c:Cx) (st:St) (a:Act),F st B=a6 r->jG W0 b0 rd c st a ats->b0<=c.w.heap.size->(∀e c' z A,B e z=a6 r->jG W0 b0 rd c' z A ats->c.Mono c'->D e.xt A c'.w)->code.wpIn (FW rd) n P D a c.w)
  {c:Cx} {st:St} {a:Act} (m:Nat) (h:iter kp (Fj F) m st (xh 999999 K)=a6 r) (M:jG W0 b0 rd c st a ats) (hb:b0<=c.w.heap.size) (u: ∀e c' z A,K e z=a6 r->jG W0 b0 rd c' z A ats->c.Mono c'->Q e.xt A c'.w):
  code.wpIn (FW rd) n P Q a c.w:=by
 cases m with
 |zero=>simp[iter]at h
 |succ m=>
  simp only[iter,Fj]at h;refine hF _ _ c st a h M hb fun e I J v d x y=> ?_;cases e with
  |normal=>
   simp only at d;cases kp with
   |none=>
    simp only[xh,beq_self_eq_true,aa]at d
    grind
   |some k=>
    simp only at d;split at d
    .rename_i f g
     obtain⟨i,j,p,q⟩:=sG x g;simp only[xh,beq_self_eq_true,aa]at d;rw[<-q];exact u .normal i f v d j (y.trans p)
    .cases d
  |ret=>
   simp only at d;cases kp with
   |none=>exact u .ret I J v d x y
   |some k=>
    simp only at d;split at d
    .rename_i f g
     obtain⟨i,j,p,q⟩:=YH x g;rw[<-q];exact u .ret i f v d j (y.trans p)
    .cases d
  |exit id=>
   simp only at d;rw[cond_eq_ite]at d;split at d
   .cases d
   .rename_i N
    have L:(id==999999)=false:=by
     simp_all
    cases kp with
    |none=>
     simp only[xh,L,ac]at d
     grind
    |some k=>
     simp only at d;split at d
     .rename_i f g
      obtain⟨i,j,p,q⟩:=sG x g;simp only[xh,L,ac]at d;rw[<-q];exact u (.exit id) i f v d j (y.trans p)
     .cases d
  |goto l=>
   simp only at d;cases kp with
   |none=>exact u (.goto l) I J v d x y
   |some k=>
    simp only at d;split at d
    .rename_i f g
     obtain⟨i,j,p,q⟩:=sG x g;rw[<-q];exact u (.goto l) i f v d j (y.trans p)
    .cases d
theorem CB {n:Nat} {f:FuncId} {args:Array Value} {w:World} {Rr:Ending->World->Prop} (h:Calls P f args w Rr):CallsIn (FW rd) n P f args w Rr:=(callsIn_wide (n:=n)).2 h
theorem aeY {n:Nat} {f:FuncId} {cl:Bool} {ex:pV R} (ag:xB P W0 ex) {fv:Operand} {p:Array Tmp} {kH q:Code} {K:Ex->St->Option R} {Q:Exit->Act->World->Prop} {c:Cx} {st:St} {a:Act} {g:FuncId} {U:List cO}
  (V:dh c (.fn g U) (a.eval fv))
  {ky:Option Nat} (ai: ∀k,ky=a6 k->uB f k=a6 (kH,q))
  (h:alloc cl (a6 (700000+p.toList.headD 0)) (.lp f st.fr p.toList kH q ky 0 a7) st (fun id st=>
    ex (.call g (.yld id::U)) {st with stk:=[.yld id]::st.stk} fun _ st=>match st.stk with
     |[.yld id]::stk=>match ed st.hp id with
      |some (.lp _ _ _ _ _ _ 0 a7)=>K .normal {st with stk:=stk,hp:=jW st.hp id .dead}
      |some (.lp _ _ _ _ _ _ 1 (a6 e))=>K e {st with stk:=stk,hp:=jW st.hp id .dead}
      |_=>a7
     |_=>a7)=a6 r)
  (j:jG W0 b0 rd c st a ats) (hb:b0<=c.w.heap.size) (hQ: ∀e c' ad a',K e ad=a6 r->jG W0 b0 rd c' ad a' ats->c.Mono c'->Q e.xt a' c'.w):
  (Code.rangeFunc fv p kH q).wpIn (FW rd) n P Q a c.w:=by
 obtain⟨id,n',h3,h4,h5,h⟩:=jY h;simp only[dh]at V;obtain⟨W,V,aj⟩:=V;refine wpIn_rangeFunc fun fn _=> ?_;obtain⟨v,d,aI,M,ak,al,an⟩: ∃(v:List Deferred) (d:Cx),d.hp=c.hp/\jG W0 b0 rd d st {a with defers:=v++a.defers} ats/\c.Mono d/\c.Le0 d/\
   ∃L:Loop,L.tmps=a.tmps/\L.params=p/\L.assign=kH/\L.body=q/\L.state=.ready/\L.pending=a7/\(Instr.enterLoop fn a.tmps p kH q rd).run P c.w=.ok (d.w.heap.size,v) (d.w.alloc (.loop L)):=by
  cases rd with
  |none=>
   obtain⟨X,ao⟩:=atf j.ok;refine⟨[mkD c.w.heap.size],{c with w:=c.w.alloc (.deferred (a6 [])),mks:=c.w.heap.size::c.mks},rfl,⟨j.hp,j.nxt,ao,bW.le X _ _ j.fr,EX.le X _ _ j.stk, ?_,fun l N=>by cases N⟩,X.mono,X.le0,{state:=.ready,pending:=a7,fn,tmps:=a.tmps,params:=p,assign:=kH,body:=q,defers:=c.w.heap.size},rfl,rfl,rfl,rfl,rfl,rfl, ?_⟩
   .obtain⟨ds,e1,e2,e3⟩:=j.df;refine⟨c.w.heap.size::ds,by simp[e1],List.nodup_cons.2 ⟨fun hm=> ?_,e2⟩,fun x hx=> ?_⟩
    .have:=j.ok.mark_lt (e3 _ hm).1;omega
    grind
   rfl
  |some l0=>
   obtain⟨L0,au⟩:=j.rd l0 rfl;exact⟨[],c,rfl,j,Cx.Mono.refl c,(Cx.Le.refl c).le0,{state:=.ready,pending:=a7,fn,tmps:=a.tmps,params:=p,assign:=kH,body:=q,defers:=L0.defers},rfl,rfl,rfl,rfl,rfl,rfl,run_enterLoop_inner au fn a.tmps p kH q⟩
 obtain⟨L,q1,q2,q3,q4,q5,q6,q7⟩:=an;subst q2 q3 q4;obtain⟨Y,hd,aJ,hy,_⟩:=aC8 M.ok (st:=st) M.hp M.nxt h3 h4 h5 (f:=f) (fr:=st.fr) (L:=L) (by rw[q1];exact M.fr) q5 q6 ai;have y:=M.did hd;have ae:c.Mono Y:=ak.trans hd.le.mono;have av:jG W0 b0 rd Y {st with stk:=[.yld id]::st.stk,hp:=(id,.lp f st.fr L.params.toList L.assign L.body ky 0 a7)::st.hp,nxt:=n'} {a with defers:=v++a.defers} (#[.func (.yield d.w.heap.size) #[] #[]]::ats):=
  ⟨y.hp,y.nxt,y.ok,y.fr,⟨by simpa [bW] using hy,y.stk⟩,y.df,y.rd⟩
 have aO:bW Y U W.toList:=bW.le hd.le _ _ (bW.le0 al _ _ aj);have aP:=ag g (.yld id::U) _ _ r h b0 rd Y {a with defers:=v++a.defers} (#[.func (.yield d.w.heap.size) #[] #[]]::ats) (#[.func (.yield d.w.heap.size) #[] #[]]++W) av (by simp_all [bW])
  (rangePost (FW rd) n P d.w.heap.size Q {a with defers:=v++a.defers}) (by
   intro c3 z u aw D i _ af;have O:=i.stk;split at D
   .rename_i I aQ ax
    rw[ax]at O;obtain⟨Z,O⟩:=O;simp only[bW,and_true]at Z;have J: ∀{o},ed aw.hp I=a6 o->ed c3.hp I=a6 o:=fun {o} ho=>by rw[i.hp];exact ho
    simp only[dh]at Z;split at D
    .rename_i f3 ay az aA aB aF A
     obtain⟨_,hB,L3,S,aG,e1,e2,e3,e4,e5⟩:=i.ok.obj I _ (J A);have B:=Z.2.2 _ _ _ _ _ _ _ _ (J A);have B:d.w.heap.size=(c3.mu I).blk:=by simpa using B
     obtain⟨c4,p1,p2,m,p4,p5,p6⟩:=JV i.ok (J A) S {L3 with state:=.exhausted,pending:=a7} (o':=.dead) (.inl rfl);refine⟨_,_,(by rw[B];exact run_endLoop S (by rw[e4];decide)), ?_⟩;rw[e5];simp only;rw[<-p5];refine hQ .normal c4 _ _ D ⟨by rw[p1,i.hp],by rw[p2,i.nxt],p4,bW.le m _ _ i.fr,EX.le m _ _ O, ?_, ?_⟩ ((ae.trans af).trans m.mono)
     .obtain⟨ds,w1,w2,w3⟩:=i.df
      grind
     .intro l N;obtain⟨Ll,ab⟩:=i.rd l N;exact m.lp l Ll ab
    .rename_i f3 ay az aA aB aF e0 A
     obtain⟨_,hB,L3,S,aG,e1,e2,e3,e4,e5,e6⟩:=i.ok.obj I _ (J A);have B:=Z.2.2 _ _ _ _ _ _ _ _ (J A);have B:d.w.heap.size=(c3.mu I).blk:=by simpa using B
     refine⟨_,_,(by rw[B];exact run_endLoop S (by rw[e4];decide)), ?_⟩;rw[e5];cases he0:e0.code with
     |none=>exact absurd he0 e6
     |some cd=>
      obtain⟨c4,p1,p2,m,p4,p5,p6⟩:=JV i.ok (J A) S {L3 with state:=.exhausted,pending:=a6 cd} (o':=.dead) (.inl rfl);simp only;refine aoM he0 ?_;rw[<-p5];refine hQ e0 c4 _ _ D ⟨by rw[p1,i.hp],by rw[p2,i.nxt],p4,bW.le m _ _ i.fr,EX.le m _ _ O, ?_, ?_⟩ ((ae.trans af).trans m.mono)
      .obtain⟨ds,w1,w2,w3⟩:=i.df
       grind
      .intro l N;obtain⟨Ll,ab⟩:=i.rd l N;exact m.lp l Ll ab
    .cases D
   .cases D)
 refine⟨d.w.heap.size,v,d.w.alloc (.loop L),{target:=.fn (.func g) W,args:= #[.func (.yield d.w.heap.size) #[] #[]]},d.w.alloc (.loop L),g,#[.func (.yield d.w.heap.size) #[] #[]]++W,d.w.alloc (.loop L),q7, ?_,fun _ _=>trivial, ?_,wu rd, ?_⟩
 .have aH:a.eval (.const (.func (.yield d.w.heap.size) #[] #[]))=.func (.yield d.w.heap.size) #[] #[]:=rfl;simp only[resolve,V];simp[go_sem,aH]
 .simp_all [invoke]
 simp_all [CB]
def YO {R:Type} (E:Env) (e:pV R) (g:YP) (f:FuncId) (c:Code) (L:dO):Prop:=
 ∀(r:R) (st:St) (v:L.V) (K:Ex->St->Option R),(∀i j d,Nz i j st=a6 d->WfH d.hp)->L.get st=a6 v->
  (bU (L.spec v) fun o=>dX o (fun a=>K (L.exA v) (L.stA st v a)) fun b=>K (L.exB v) (L.stB st v b))=a6 r->
  ∃m d,(match E.kp f (dN c)with|none=>d=st|some k=>Nz k.slots k.owns st=a6 d)/\iter (E.kp f (dN c)) (run E e g f c) m d K=a6 r
def afK {R:Type} (E:Env) (e:pV R) (g:YP) (f:FuncId) (c:Code) (L:dO):Prop:=
 ∀(r:R) (st:St) (v:L.V) (K:Ex->St->Option R),(∀i j d,Nz i j st=a6 d->WfH d.hp)->L.get st=a6 v->
  (bU (L.spec v) fun o=>dX o (fun a=>K (L.exA v) (L.stA st v a)) fun b=>K (L.exB v) (L.stB st v b))=a6 r->
  ∃m d,(match E.kp f (800000+dN c)with|none=>d=st|some k=>Nz k.slots k.owns st=a6 d)/\iter (E.kp f (800000+dN c)) (Fj (run E e g f c)) m d K=a6 r
def kS {R:Type} (E:Env) (d:pV R) (e:YP) (f:FuncId):Code->Prop
 |.seq a b=>(kS E d e f a/\ ∀L,E.lp f (800000+dN b)=a6 L->L.dep.ble E.dp=true->afK E d e f b L)/\kS E d e f b
 |.cond _ a b=>kS E d e f a/\kS E d e f b
 |.block _ c=>kS E d e f c
 |.scope c=>kS E d e f c
 |.loop c=>kS E d e f c/\ ∀L,E.lp f (dN c)=a6 L->L.dep.ble E.dp=true->YO E d e f c L
 |.rangeFunc _ _ kH g=>kS E d e f kH/\kS E d e f g/\(E.rf f (dN g)=true->uB f (dN g)=a6 (kH,g))
 |_=>True
theorem jy {E:Env} {d:pV R} {e:YP} {f:FuncId} (h: ∀id,E.lp f id=a7) (h2: ∀id,E.rf f id=false): ∀c:Code,kS E d e f c
 |.seq a b=>⟨⟨jy h h2 a,fun L g=>by simp_all⟩,jy h h2 b⟩
 |.cond _ a b=>⟨jy h h2 a,jy h h2 b⟩
 |.block _ c=>jy (E:=E) h h2 c
 |.scope c=>jy (E:=E) h h2 c
 |.loop c=>⟨jy h h2 c,fun L g=>by simp_all⟩
 |.rangeFunc _ _ a b=>⟨jy h h2 a,jy h h2 b,fun i=>by simp_all⟩
 |.skip|.label _|.region _ _ _|.exit _|.goto _|.ret|.refuse _=>trivial
def Xv (E:Env) (n:Nat):YP:=⟨fun j st=>ni E n (R:=cO) j st fun v _=>a6 v,ni E n,ni E n⟩
def eY (E:Env) (f:FuncId) (c:Code) (L:dO):Prop:=
 ∀(R:Type) (m:Nat),YO (R:=R) (E.at (m+L.dep)) (ni E (m+L.dep)) (Xv E (m+L.dep)) f c L
def xn (E:Env) (f:FuncId) (c:Code) (L:dO):Prop:=
 ∀(R:Type) (m:Nat),afK (R:=R) (E.at (m+L.dep)) (ni E (m+L.dep)) (Xv E (m+L.dep)) f c L
def eP (E:Env) (f:FuncId) (c:Code):Prop:= ∀(R:Type) (m:Nat),kS (R:=R) (E.at m) (ni E m) (Xv E m) f c
theorem kY {E:Env} {f:FuncId} (h: ∀id,E.lp f id=a7) (h2: ∀id,E.rf f id=false) (c:Code):eP E f c:=fun R m=>jy (E:=E.at m) h h2 c
theorem O3 (hT:TOk P T) (hm:P.follows .mixedOrders=true) {n:Nat} {E:Env} (ay:E.T=T) {f:FuncId} {ex:pV R} {W:YP} (ai:oV P W0 n (yV E ex)) (hq:pX (R:=R) P (Tc E W.q)) (az:xB P W0 ex) (hS:oV P W0 n (yV E W.s)) (hU:oV P W0 n (yV E W.u)) (aA: ∀R:Type,pX (R:=R) P (IV E.sg E.cl)):
  ∀(code:Code),kS E ex W f code-> ∀(K:Ex->St->Option R) (Q:Exit->Act->World->Prop) (c:Cx) (st:St) (a:Act),run E ex W f code st K=a6 r->jG W0 b0 rd c st a ats->b0<=c.w.heap.size->
   (∀e c' z A,K e z=a6 r->jG W0 b0 rd c' z A ats->c.Mono c'->Q e.xt A c'.w)->code.wpIn (FW rd) n P Q a c.w:=by
 subst ay;intro code
 induction code with
 |skip=>intro _ K Q c st a h d D p;exact wpIn_skip (p .normal c st a h d (Cx.Mono.refl c))
 |label l=>intro _ K Q c st a h d D p;exact wpIn_label (p .normal c st a h d (Cx.Mono.refl c))
 |region id ops aB=>
  intro _ K Q c st a h d D p;simp only[run]at h;have aj: ∃O,Io (E.kp f (600000+id)) st={st with fr:=O}/\bW c O a.tmps.toList:=by
   cases E.kp f (600000+id)with
   |none=>exact⟨st.fr,rfl,d.fr⟩
   |some k=>exact⟨_,rfl,C9 _ _ _ d.fr⟩
  obtain⟨O,e1,e2⟩:=aj;rw[e1]at h;replace d:jG W0 b0 rd c {st with fr:=O} a ats:=⟨d.hp,d.nxt,d.ok,e2,d.stk,d.df,d.rd⟩;generalize ({st with fr:=O}:St)=st at h d;cases aB with
  |true=>
   simp only[aa]at h;rw[cond_eq_ite]at h;split at h
   .rename_i ae
    simp only[ah]at ae;exact PM hT hm hq ae.1 h d fun c' z A j=>p .normal c' z A j
   .split at h
    .rename_i l aF
     exact WY hT hm ai aF h d fun c' z A j=>p .normal c' z A j
    .rw[cond_eq_ite]at h;split at h
     .rename_i ae
      simp only[ah]at ae;exact PM hT hm hq ae.1 h d fun c' z A j=>p .normal c' z A j
     replace h:=dQ h;exact agU hT hm h.1 aA hS hU Y2 Y2 ai Y2 h.2 d fun c' z A j=>p .normal c' z A j
  |false=>
   simp only[ac]at h;exact wpIn_region_list (OG hT ai ops ops.toList c st a h d fun c' z A j=>p .normal c' z A j)
 |seq x y ihx X=>
  intro M K Q c st a h d D p;replace ihx:=ihx M.1.1;replace X:=X M.2;simp only[run]at h;refine wpIn_seq (ihx _ _ c st a h d D fun e c' z A j B I=> ?_);cases e with
  |normal=>
   have ag:=aK D I.size;have aw: ∀e Y ab ad,K e ab=a6 r->jG W0 b0 rd Y ab ad ats->c'.Mono Y->Q e.xt ad Y.w:=fun e Y ab ad ak al an=>p e Y ab ad ak al (I.trans an);have ao: ∀(S:Option fZ) (m:Nat) (J:St),(match S with|none=>J=z|some k=>Nz k.slots k.owns z=a6 J)->iter S (Fj (run E ex W f y)) m J (xh 999999 K)=a6 r->y.wpIn (FW rd) n P Q A c'.w:=by
    intro S m J U h2;cases S with
    |none=>grind [Xq]
    |some k=>
     obtain⟨c1,Z,af,au⟩:=sG B U;rw[<-au];exact Xq X m h2 Z (aK ag af.size) fun e Y ab ad ak al an=>aw e Y ab ad ak al (af.trans an)
   simp only[aGn,cutAt]at j;split at j
   .rename_i L hL
    replace j:=dQ j;obtain⟨av,j⟩:=j;split at j
    .rename_i v V
     obtain⟨m,J,U,h2⟩:=M.1.2 L hL av r z v (xh 999999 K) (fun aG aH J ht=>let⟨c1,Z,_,_⟩:=sG B ht;Z.wf) V j;exact ao _ m J U h2
    .cases j
   .split at j
    .exact X _ _ c' z A j B ag aw
    .rename_i k hk
     split at j
     .rename_i J U
      exact ao (a6 k) bY J U j
     .cases j
  |exit id=>exact p (.exit id) c' z A j B I
  |goto l=>exact p (.goto l) c' z A j B I
  |ret=>exact p .ret c' z A j B I
 |cond cnd x y ihx X=>
  intro M K Q c st a h d D p;replace ihx:=ihx M.1;replace X:=X M.2;simp only[run]at h;have V:=eu d.fr cnd;split at h
  .rename_i b ag
   rw[ag]at V;simp only[dh]at V;have V:=V.bool_inv
   grind [wpIn_cond_true,wpIn_cond_false]
  .cases h
 |block id x N=>
  intro M K Q c st a h d D p;replace N:=N M;simp only[run]at h;refine wpIn_block (N _ _ c st a h d D fun e c' z A j B I=> ?_);cases e with
  |normal=>exact p .normal c' z A j B I
  |exit i=>
   simp only[xh]at j;simp only[Ex.xt,Exit.inBlock];rw[cond_eq_ite]at j;split at j
   .rename_i hi
    have hi:i=id:=by simpa using hi
    rw[am hi];exact p .normal c' z A j B I
   .rename_i hi
    have hi:i≠id:=by simpa using hi
    rw[aq hi];exact p (.exit i) c' z A j B I
  |goto l=>exact p (.goto l) c' z A j B I
  |ret=>exact p .ret c' z A j B I
 |loop x N=>
  intro M K Q c st a h d D p;replace N:=N M.1;have ao: ∀(S:Option fZ) (m:Nat) (J:St),(match S with|none=>J=st|some k=>Nz k.slots k.owns st=a6 J)->iter S (run E ex W f x) m J K=a6 r->(Code.loop x).wpIn (FW rd) n P Q a c.w:=by
   intro S m J U h2;cases S with
   |none=>grind [Um]
   |some k=>
    obtain⟨c1,Z,af,au⟩:=sG d U;rw[<-au];exact Um N m h2 Z (aK D af.size) fun e c' z A j B I=>p e c' z A j B (af.trans I)
  simp only[run]at h;split at h
  .rename_i L hL
   replace h:=dQ h;obtain⟨av,h⟩:=h;split at h
   .rename_i v V
    obtain⟨m,J,U,h2⟩:=M.2 L hL av r st v K (fun aG aH J ht=>let⟨c1,Z,_,_⟩:=sG d ht;Z.wf) V h
    grind
   .cases h
  grind
 |exit id=>intro _ K Q c st a h d D p;exact wpIn_exit (p (.exit id) c st a h d (Cx.Mono.refl c))
 |goto l=>intro _ K Q c st a h d D p;exact wpIn_goto (p (.goto l) c st a h d (Cx.Mono.refl c))
 |ret=>intro _ K Q c st a h d D p;exact wpIn_ret (p .ret c st a h d (Cx.Mono.refl c))
 |scope x N=>
  intro M K Q c st a h d D p;replace N:=N M;simp only[run]at h;refine ail (N _ _ c st a h d D fun e c' z A j B I=> ?_);cases e with
  |normal=>exact⟨(fun l e=>by cases e),p .normal c' z A j B I⟩
  |exit i=>exact⟨(fun l e=>by cases e),p (.exit i) c' z A j B I⟩
  |goto l=>simp[asb]at j
  |ret=>exact⟨(fun l e=>by cases e),p .ret c' z A j B I⟩
 |rangeFunc fv ps kH bd _ _=>
  intro M K Q c st a h d D p;simp only[run]at h;split at h
  .rename_i g aO aI
   have aJ: ∀k,(bif E.rf f (dN bd)then a6 (dN bd)else a7)=a6 k->uB f k=a6 (kH,bd):=fun k hk=>by
    cases hrf:E.rf f (dN bd)with
    |false=>simp_all
    |true=>rw[hrf]at hk;cases hk;exact M.2.2 hrf
   have aj: ∃O,Io (E.kp f (500000+dN bd)) st={st with fr:=O}/\bW c O a.tmps.toList:=by
    cases E.kp f (500000+dN bd)with
    |none=>exact⟨st.fr,rfl,d.fr⟩
    |some k=>exact⟨_,rfl,C9 _ _ _ d.fr⟩
   obtain⟨O,e1,e2⟩:=aj;rw[e1]at h;have ax:=eu d.fr fv;rw[aI]at ax;exact aeY (st:={st with fr:=O}) az ax aJ h ⟨d.hp,d.nxt,d.ok,e2,d.stk,d.df,d.rd⟩ D p
  .cases h
 |refuse s=>simp_all [run]
end
end
section
open Option renaming some → a6, none → a7
open Nat renaming le_refl → af
open Go.RowKit
section
variable {P:Program} {T:TT} {W0:World} {b0:Nat} {rd:Option Nat} {R:Type} {r:R} {c:Cx} {ats:List (Array Value)}
theorem acb (i:c.Ok W0) {x:cO} {e:Ty} {j:List e.den} {u:Value} (h:x.as c.hp (.list e)=a6 j) (hx:dh c x u) {a:Option Addr} {m cp:Nat} (q:u=.slice a m cp):m<=cp:=by
 subst q;cases x with
 |val f z=>
  simp only[cO.as]at h;have e:=jo h;subst e
  grind [dh,qH]
 |nils=>
  simp_all [dh]
 |lst f z b=>
  grind [dh,qH]
 |emp=>
  simp_all [dh]
 |slc id ver y=>
  simp only[cO.as,DY]at h;split at h
  .rename_i f v B g
   replace h:=dQ h;obtain⟨d,h⟩:=h;have d:v=ver:=by simpa using d
   subst d;simp only[dh]at hx;have D:=(hx.2.2 _ _ _ g).2 rfl;obtain⟨_,I,J,A,K,L⟩:=i.obj id _ g;obtain⟨M,N,d,O,S⟩:=uC A;cases y with
   |none=>
    simp_all [jU]
   |some p=>
    grind [jU]
  .cases h
 |agg l=>simp[cO.as,Ty.isAgg]at h
 |_=>simp[cO.as]at h
def aoX (c cb:Cx):Prop:= ∀b,b<c.w.heap.size->cb.free b/\cb.w.heap[b]? =c.w.heap[b]?
theorem H8 (f:c.Ok W0) {cb:Cx} (d:aoX c cb) {x:cO} {e:Ty} {g:List e.den} {u:Value} (h:x.as c.hp (.list e)=a6 g) (hx:dh c x u):VD cb (.list e) g u:=by
 obtain⟨a,cp,l,i,m,p⟩:=acd f h hx;have q:=acb f h hx i;refine(VD.leaf rfl).2 ⟨a,cp,l,by rw[i],q,gV.mono (fV.mono (fun b v=>d b v.1) e) _ _ m,p.imp id fun⟨b,off,y,j,z⟩=>⟨b,off,y,(d b j).1,z.of_block (d b j).2⟩⟩
theorem al3 (j:c.Ok W0) {cb:Cx} (f:aoX c cb) {v i:cO} {u:Value} (h:Xk c.hp v=a6 i) (d:dh c v u):dh cb i u:=by
 cases v with
 |val t x=>
  simp only[Xk,Option.some.injEq]at h;subst h;simp only[dh]at d ⊢;exact⟨fun e=>let⟨cs,l,m⟩:=d.1 e;⟨cs,l,fV.mono (fun b g=>f b g.1) t x _ m⟩,fun e=>fV.mono (fun b g=>f b g.1) t x _ (d.2 e)⟩
 |nils=>
  grind [Xk,dh]
 |slc id ver p=>
  simp only[Xk]at h;split at h
  .rename_i t w q y
   rw[cond_eq_ite]at h;split at h
   .rename_i z
    cases h;simp only[dh];refine H8 j f (x:=.slc id ver p) ?_ d;simp_all [cO.as,DY,iw]
   .cases h
  .cases h
 |_=>simp[Xk]at h
theorem Sr (f:c.Ok W0) {cb:Cx} (g:aoX c cb): ∀(l e:List cO) (us:List Value),Sm c.hp l=a6 e->bW c l us->bW cb e us
 |[],e,[],h,_=>by simp_all [Sm,bW]
 |v::l,e,u::us,h,d=>by
  simp only[Sm]at h;split at h
  .rename_i p i
   split at h
   .rename_i j m
    cases h;simp only[bW]at d ⊢;exact⟨al3 f g i d.1,Sr f g l j us m d.2⟩
   .cases h
  .cases h
 |[],_,_::_,_,d=>by simp[bW]at d
 |_::_,_,[],_,d=>by simp[bW]at d
def Cx.base (c:Cx) (w:World) (d:Nat->Prop):Cx:=⟨c.mu,[],c.nxt,w,[],d⟩
theorem aws {w:World} {d:Nat->Prop} (e:Phi w) (hb: ∀b,d b->b<w.heap.size):(c.base w d).Ok w:=
 ⟨Below.refl _ _,fun id o h=>by simp[Cx.base,ed]at h,fun i j o p b h=>by simp[Cx.base,ed]at h,fun r f=>by simp[Cx.base]at f,fun b h=>⟨hb b h,(by rintro ⟨i,o,h,_⟩;simp[Cx.base,ed]at h),by simp[Cx.base]⟩,e⟩
theorem al6 {w:World} {d:Nat->Prop} {b:Nat}:(c.base w d).free b↔b<w.heap.size/\ ¬d b:=by
 constructor
 .intro h;exact⟨h.1,h.2.2.2⟩
 .rintro ⟨e,f⟩;exact⟨e,(by rintro ⟨i,o,h,_⟩;simp[Cx.base,ed]at h),by simp[Cx.base],f⟩
theorem ao6 {w:World} {d:Nat->Prop} (e:Phi w) (hb: ∀b,d b->b<w.heap.size) {nx:Nat} (f:nx=c.nxt):jG w 0 a7 (c.base w d) ⟨[],[],[],nx⟩ ⟨#[],[]⟩ []:=
 ⟨rfl,f.symm,aws e hb,by simp[bW],trivial,⟨[],rfl,List.nodup_nil,fun r g=>by simp at g⟩,fun l i=>by cases i⟩
theorem ORel.le0 {B:Nat} {c c':Cx} {id:Nat} {o:dZ} (h:c.ORel B id o) (hl:c.Le0 c') (d:c'.mu id=c.mu id) (hb: ∀b,o.blk (c.mu id)=a6 b->c'.w.heap[b]? =c.w.heap[b]?):c'.ORel B id o:=by
 cases o with
 |box e cs=>
  obtain⟨g,q,i,j,l⟩:=h;refine⟨by rw[d];exact g,q,by rw[d,hb _ rfl];exact i,bW.le0 hl _ _ j,l⟩
 |arr t ver y=>
  obtain⟨m,e,u,g,i,j⟩:=h;refine⟨m,e,u, ?_,gV.mono (fV.mono hl.free t) _ _ i,j⟩;rw[d];exact Dl g fun b v=>hb b v
 |lp f fr ps kH bd ky n p=>
  obtain⟨m,g,L,i,j,l⟩:=h;exact⟨m,by rw[d];exact g,L,by rw[d,hb _ rfl];exact i,bW.le0 hl _ _ j,l⟩
 |dead=>trivial
 |mp kk vk z=>
  obtain⟨g,x,cl,i,j⟩:=h;exact⟨by rw[d];exact g,x,cl,by rw[d,hb _ rfl];exact i,j⟩
theorem Cx.Le0.trans {a b c:Cx} (h:a.Le0 b) (k:b.Le0 c):a.Le0 c:=
 ⟨fun x e=>⟨(k.out x (h.out x e).1).1,(k.out x (h.out x e).1).2.trans (h.out x e).2⟩,fun i d=>k.ref i (h.ref i d),fun i o d f=>by
  obtain⟨g,j,l⟩:=k.obj i o (h.ref i d) f;obtain⟨m,p,q⟩:=h.obj i g d j
  grind [dZ.like_trans],k.bar.trans h.bar⟩
theorem V6 {n:Nat} {fn:Func} {tmps:Array Value} {Rr:Ending->World->Prop}: ∀(l:List Nat) (c:Cx),c.Ok W0->l.Nodup->(∀r∈l,r∈c.mks)->
  ∃c',c'.hp=c.hp/\c'.nxt=c.nxt/\c.Le0 c'/\c'.Ok W0/\(∀r∈c.mks,r∉l->r∈c'.mks)/\(∀(b:Nat) (L:Loop),c.w.heap[b]? =a6 (Obj.loop L)-> ∃L':Loop,c'.w.heap[b]? =a6 (Obj.loop L'))/\c.w.heap.size<=c'.w.heap.size/\c'.bar=c.bar/\
   (LeavesIn (FW a7) n P fn tmps Rr [] .returning c'.w->LeavesInM (FW a7) n P fn tmps Rr (l.map mkD) .returning c.w)
 |[],c,f,_,_=>⟨c,rfl,rfl,(Cx.Le.refl c).le0,f,fun r m _=>m,fun b L y=>⟨L,y⟩,af _,rfl,fun h=>h⟩
 |d::l,c,f,B,z=>by
  obtain⟨X,D⟩:=List.nodup_cons.1 B;have hd:=z d (by simp);have v:=f.mks d hd;have Y:=f.mark_lt hd
  let i:Cx:={c with w:=c.w.putObj d (.deferred a7),mks:=c.mks.filter fun r=>r !=d}
  have p: ∀b,b≠d->i.w.heap[b]? =c.w.heap[b]? :=fun b g=>World.putObj_heap_other g;have x:c.Le0 i:=⟨fun b g=>⟨⟨by simpa [i] using g.1,g.2.1,(fun I=>g.2.2 (List.mem_filter.1 I).1)⟩,p b fun e=>g.2.2 (e▸hd)⟩,fun _ h=>h,fun id o _ q=>⟨o,q,o.like_refl _⟩,rfl⟩;have J:i.Ok W0:=by
   refine⟨⟨f.bel.os,f.bel.tape,f.bel.output,by simpa [i] using f.bel.size,fun j K=>(p j (by have:=v.1;omega)).trans (f.bel.block j K)⟩,fun id o q=>ORel.le0 (f.obj id o q) x rfl fun b g=>p b fun e=> ?_,f.inj,fun r m=> ?_,fun b g=>(x.out b (f.bar b g)).1,f.phi⟩
   .subst e;exact(f.obj id o q).no_mark g v.2
   .obtain⟨A,u⟩:=List.mem_filter.1 m;have u:r≠d:=by simpa using u
    exact⟨(f.mks r A).1,(p r u).trans (f.mks r A).2⟩
  obtain⟨M,N,O,S,U,Z,e6,e7,V,W⟩:=V6 (n:=n) (fn:=fn) (tmps:=tmps) (Rr:=Rr) l i J D fun r m=>List.mem_filter.2 ⟨z r (by simp[m]),by
   grind⟩
  refine⟨M,N,O,x.trans S,U,fun r m u=> ?_,fun b L y=> ?_, ?_,V,fun h=> ?_⟩
  .grind
  .grind
  .have:c.w.heap.size=i.w.heap.size:=by simp[i]
   omega
  .exact⟨by simp,.inl ⟨d,_,rfl,run_takeDeferred v.2,W h⟩⟩
theorem asw {t:TypeId} {v u:Value} {w w':World} (h:(Instr.loadAt t v).run P w=.ok u w'):(do loadVar t (<-asAddr v):Sem Value).run P w=.ok u w':=by
 unfold Instr.loadAt at h;cases v<;>try (simp[Instr.sureAddr,stuck,Sem.run_bind,Result.andThen]at h;done)
 rename_i p
 cases p<;>first|exact h|simp_all [Instr.sureAddr]
def OX (tmps:Array Value):ResultVar->Sem Value
 |.tmp t=>pure (tmps.getD t undef)
 |.cell a t=>do loadVar t (<-asAddr (tmps.getD a undef))
theorem BU (hT:TOk P T) (e:c.Ok W0) {st:St} {tmps:Array Value} (f:c.hp=st.hp) (d:bW c st.fr tmps.toList): ∀(l:List ResultVar) (K:List cO->Option R),ve T st l K=a6 r->
  ∃vs us,K vs=a6 r/\bW c vs us/\(l.mapM (OX tmps)).run P c.w=.ok us c.w
 |[],K,h=>⟨[],[],h,by simp[bW],rfl⟩
 |.tmp t::l,K,h=>by
  simp only[ve]at h;obtain⟨vs,us,g,i,j⟩:=BU hT e f d l _ h;refine⟨_,tmps.getD t undef::us,g,by simp only[bW];exact⟨d.getD t,i⟩, ?_⟩;simp_all [OX]
 |.cell a t::l,K,h=>by
  simp only[ve]at h;rw[<-f]at h;obtain⟨z,u,g,i,j⟩:=atP hT e h (d.getD a);obtain⟨vs,us,m,p,q⟩:=BU hT e f d l _ g;refine⟨_,u::us,m,by simp_all [bW], ?_⟩;have v:=asw (j c.w (Below.refl _ _))
  grind [Sem.run_bind,OX,Result.andThen_ok,Sem.run_pure]
def QP:List Value->Value
 |[v]=>v
 |vs=>.tuple vs.toArray
theorem Dq {vs:List cO} {us:List Value} (h:bW c vs us):dh c (OW vs) (QP us):=by
 match vs,us,h with
 |[],[],h=>simp only[OW,QP,dh];simp_all
 |[v],[u],h=>simpa [OW,QP,bW] using h
 |v::d::vs,u::e::us,h=>simp only[OW,QP,dh];simp_all
 |[],_::_,h=>simp[bW]at h
 |_::_,[],h=>simp[bW]at h
 |[_],_::_::_,h=>simp[bW]at h
 |_::_::_,[_],h=>simp[bW]at h
theorem ae8 {fn:Func} {tmps:Array Value} {us:List Value} {w:World} (h:(fn.results.toList.mapM (OX tmps)).run P w=.ok us w):(results fn tmps).run P w=.ok (QP us) w:=by
 have e:results fn tmps=(do let d<-fn.results.mapM (OX tmps);pure (if h:d.size=1 then d[0]else .tuple d)):=rfl;have f:(fn.results.mapM (OX tmps)).run P w=.ok us.toArray w:=by
  simp_all [Array.mapM_eq_mapM_toList]
 rw[e,Sem.run_bind,f]
 match us with
 |[]=>rfl
 |[v]=>rfl
 |v::g::d=>rfl
end
end
section
open Option renaming some → a6, none → a7
open Bool renaming and_eq_true → ah
open Nat renaming eq_of_beq_eq_true → ax, lt_of_lt_of_le → bF
open Go.RowKit
def J8 (P:Program):Prop:= ∀(f:FuncId) (fn:Func) (c:Code),P.funcs[f]? =a6 fn->fn.body=a6 c->(fn.name== "runtime.NumGoroutine")=false
def Ff {R:Type} (P:Program) (W0:World) (v:pV R):Prop:=
 ∀(id:Nat) (i:List cO) (st:St) (K:cO->St->Option R) (r:R),v (.yield id i) st K=a6 r->
  ∀(b0:Nat) (rd:Option Nat) (c:Cx) (a:Act) (ats:List (Array Value)) (j:Array Value),jG W0 b0 rd c st a ats->bW c i j.toList->
   (∃f x y kH d A k p,ed st.hp id=a6 (.lp f x y kH d A k p))/\
   ∀l:Ending->World->Prop,(∀e z u m,K z m=a6 r->jG W0 b0 rd e m a ats->dh e z u->c.Mono e->l (.returned u) e.w)->
    ∀n,∃g q kH d,(Instr.yield (c.mu id).blk j).run P c.w=.ok (.round (c.mu id).blk g q kH d) c.w/\RoundIn (FW rd) n P (c.mu id).blk g q kH d c.w l
def GX {R:Type} (g:FuncId) (s:Sum) (cl:Bool):gZ R:=fun d e f st K=>match d with
 |.fn g' i=>if g'=g then s.call cl (e++i) f st K else a7
 |_=>a7
def DN (P:Program) (g:FuncId):Prop:= ∀(w:World) (b:Nat),w.shape? b=a6 (Xn,2)->w.frozen? ⟨b,0,a7⟩=false->
 (callFunc g #[.pointer (a6 ⟨b,0,a7⟩)]).run P w=.ok (.enter g #[.pointer (a6 ⟨b,0,a7⟩)]) w/\
 (w.cell? ⟨b,0,a7⟩=a6 (.pointer (a6 ⟨b,0,a7⟩))->Calls P g #[.pointer (a6 ⟨b,0,a7⟩)] w fun e d=>e=.returned (.tuple #[])/\d=w)/\
 (w.cell? ⟨b,0,a7⟩=a6 (.pointer a7)->Calls P g #[.pointer (a6 ⟨b,0,a7⟩)] w fun e d=>e=.returned (.tuple #[])/\d=w.setCell ⟨b,0,a7⟩ (.pointer (a6 ⟨b,0,a7⟩)))
def Px {R:Type} (g:FuncId) (s:gu) (cl:Bool):gZ R:=fun d e i st K=>match d with
 |.fn g' f=>if g'=g then s.call cl (e++f) st K else a7
 |_=>a7
structure yU (P:Program) (E:Env):Prop where
 T:TOk P E.T
 x: ∀(R:Type) (W0:World) (n:Nat) (g:FuncId) (s:gu),E.sb g=a6 s->oV (R:=R) P W0 n (Px g s E.cl)
 b: ∀g,E.bf g=true->DN P g
 v: ∀(R:Type) (W0:World) (n:Nat) (g:FuncId) (s:Sum),E.sg g=a6 s->oV (R:=R) P W0 n (GX g s E.cl)
 q: ∀(R:Type) (g:FuncId) (s:Sum),E.sg g=a6 s->(s.rs.all fun r=> !r.2&&r.1.rigid)=true->pX (R:=R) P (GX g s E.cl)
section
variable {P:Program} {T:TT} {W0:World} {b0:Nat} {rd:Option Nat} {R:Type} {r:R} {c:Cx} {ats:List (Array Value)}
theorem xE (e:J8 P) {f:FuncId} {fn:Func} {d:Code} (hf:P.funcs[f]? =a6 fn) (hb:fn.body=a6 d) (args:Array Value) (w:World):(callFunc f args).run P w=.ok (.enter f args) w:=by
 have g:=e f fn d hf hb;simp_all [callFunc]
theorem uS {g:FuncId} {vs args:Array Value} {w:World}:(do let d<-Deferred.ofValue (.func (.func g) #[] vs) args;invoke d.target d.args:Sem Next).run P w=(callFunc g (args++vs)).run P w:=by
 grind [Deferred.ofValue,invoke]
theorem Uj {g:FuncId} {vs args:Array Value} {w:World}:(do let d<-Deferred.ofValue (.func (.func g) vs #[]) args;invoke d.target d.args:Sem Next).run P w=(callFunc g (vs++args)).run P w:=by
 rfl
theorem ZG {l:Nat} {args:Array Value} {w:World}:(do let d<-Deferred.ofValue (.func (.yield l) #[] #[]) args;invoke d.target d.args:Sem Next).run P w=(Instr.yield l args).run P w:=by
 grind [Deferred.ofValue,invoke]
theorem bW.append_arr {l m:List cO} {xs d:Array Value} (h:bW c l xs.toList) (k:bW c m d.toList):bW c (l++m) (xs++d).toList:=by
 simp_all [bW.append]
theorem XM: ∀(h:iD) (i:Nat) (o:dZ),ed h i=a6 o->jW h i o=h
 |[],_,_,_=>rfl
 |(k,p)::h,i,o,d=>by
  rw[fF]at d;simp only[jW];by_cases e:k=i
  .simp_all
  .rw[aq e]at d;have f:(k==i)=false:=by simpa using e
   simp[f,XM h i o d]
theorem ada {g:FuncId} (hT:TOk P T) (hg:DN P g) {args:List cO} {st:St} {K:cO->St->Option R} (h:SI T args st K=a6 r) {a:Act} (d:jG W0 b0 rd c st a ats) {us:Array Value} (y:bW c args us.toList)
  (Rr:Ending->World->Prop) (M: ∀c' z u N,K z N=a6 r->jG W0 b0 rd c' N a ats->dh c' z u->c.Mono c'->Rr (.returned u) c'.w):
  (callFunc g us).run P c.w=.ok (.enter g us) c.w/\Calls P g us c.w Rr:=by
 unfold SI at h;split at h<;>try (cases h;done)
 rename_i id
 split at h<;>try (cases h;done)
 rename_i t i l m v f
 replace h:=dQ h;obtain⟨O,h⟩:=h;simp only[ah]at O;obtain⟨D,hk,j⟩:=O;have D:i=id:=ax D;subst D;have ht:=hT.bldr hk j;rw[<-d.hp]at f;obtain⟨hB,I,S,x,ag⟩:=d.ok.obj i _ f;obtain⟨us⟩:=us
 match us,y with
 |[u],y=>
  simp only[bW,dh,and_true]at y;have hu:=y.2.2 _ _ f;subst hu;obtain⟨I⟩:=I
  match I,x with
  |[p,q],x=>
   simp only[bW,and_true]at x;have A:=x.1;simp only[dh]at A;have A:=A.2.2 _ _ f;rw[ht]at S;have B:c.w.heap[(c.mu i).blk]? =a6 (.cells #[p,q] Xn (0,0)):=S;have U:c.w.cell? ⟨(c.mu i).blk,0,a7⟩=a6 p:=by simp[World.cell?,B]
   obtain⟨h1,h2,h3⟩:=hg c.w (c.mu i).blk (by simp[World.shape?,B]) (by simp[World.frozen?,B]);refine⟨h1, ?_⟩;have V: ∀c',dh c' (.tup []) (.tuple #[]):=fun c'=>by simp only[dh];exact⟨#[],rfl,by simp[bW]⟩
   rcases A with e|e
   .subst e;refine(h3 U).mono ?_;rintro e w' ⟨rfl,rfl⟩;have ai:(c.mu i).blk<c.w.heap.size:=(Array.getElem?_eq_some_iff.1 B).1;have aj:(c.w.setCell ⟨(c.mu i).blk,0,a7⟩ (.pointer (a6 ⟨(c.mu i).blk,0,a7⟩))).heap[(c.mu i).blk]? =a6 (.cells #[.pointer (a6 ⟨(c.mu i).blk,0,a7⟩),q] Xn (0,0)):=by
     grind [World.setCell]
    have W: ∀b,(c.mu i).blk≠b->(c.w.setCell ⟨(c.mu i).blk,0,a7⟩ (.pointer (a6 ⟨(c.mu i).blk,0,a7⟩))).heap[b]? =c.w.heap[b]? :=fun b j=>by
     grind [World.setCell]
    have X:(c.w.setCell ⟨(c.mu i).blk,0,a7⟩ (.pointer (a6 ⟨(c.mu i).blk,0,a7⟩))).heap.size=c.w.heap.size:=by simp[World.setCell]
    have Y: ∀(b:Nat) (L:Loop),(dZ.box t [.slf i,.slc l m v]).blk (c.mu i)=a6 b->c.w.heap[b]? =a6 (Obj.loop L)-> ∃L':Loop,(c.w.setCell ⟨(c.mu i).blk,0,a7⟩ (.pointer (a6 ⟨(c.mu i).blk,0,a7⟩))).heap[b]? =a6 (Obj.loop L'):=fun b L j hL=>absurd hL ((d.ok.obj i _ f).no_loop (by simp) j);have Z: ∀b,b<c.w.heap.size->(dZ.box t [.slf i,.slc l m v]).blk (c.mu i)≠a6 b->(c.w.setCell ⟨(c.mu i).blk,0,a7⟩ (.pointer (a6 ⟨(c.mu i).blk,0,a7⟩))).heap[b]? =c.w.heap[b]? :=fun b _ ae=>W b fun e=>ae (by simp[dZ.blk,e]);have ab: ∀b,(dZ.box t [.slf i,.slc l m v]).blk (c.mu i)=a6 b->(dZ.box t [.slf i,.slc l m v]).blk (c.mu i)=a6 b\/c.w.heap.size<=b:=fun b j=>.inl j;have af:Below W0.heap.size W0 (c.w.setCell ⟨(c.mu i).blk,0,a7⟩ (.pointer (a6 ⟨(c.mu i).blk,0,a7⟩))):=
     ⟨d.ok.bel.os,d.ok.bel.tape,d.ok.bel.output,by omega,fun b j=>(W b (by omega)).trans (d.ok.bel.block b j)⟩
    have ad:=dZ.like_refl (.box t [.slf i,.slc l m v]) (c.mu i);have J:=Cx.Le.put d.ok f ad (Nat.le_of_eq X.symm) Z ab Y;have hd:E9 W0 c st (c.put i (.box t [.slf i,.slc l m v]) (c.mu i) (c.w.setCell ⟨(c.mu i).blk,0,a7⟩ (.pointer (a6 ⟨(c.mu i).blk,0,a7⟩)))) st:=by
     refine⟨by simp only[Cx.put];rw[XM _ _ _ f,d.hp],d.nxt,rfl,rfl,Cx.Ok.put d.ok f ad af (Nat.le_of_eq X.symm) Z ab Y ?_,J⟩;refine⟨by simp only[Cx.put,upd_same];exact hB,#[.pointer (a6 ⟨(c.mu i).blk,0,a7⟩),q], ?_, ?_, ?_⟩
     .simp_all [Cx.put,upd_same]
     .simp only[bW,and_true];refine⟨?_,dh.le J _ _ x.2⟩;simp only[dh];exact⟨rfl,.inl ⟨_,Cx.put_get f⟩,fun _ _ _=>.inr (by simp[Cx.put,upd_same])⟩
     simp_all
    exact M _ (.tup []) (.tuple #[]) st h (d.did hd) (V _) J.mono
   .subst e;refine(h2 U).mono ?_;rintro e w' ⟨rfl,rfl⟩;exact M c (.tup []) (.tuple #[]) st h d (V _) (Cx.Mono.refl c)
theorem nM {E:Env} (M:yU P E) {S:pV R} (X:xB P W0 S) (hy:Ff P W0 S) (n:Nat):oV P W0 n (yV E S):=by
 intro b0 rd fv J U st K r h c a ats Y l j i m o next Q q
 cases fv with
 |fn g V=>
  simp only[yV]at h;split at h
  .rename_i s N
   exact M.v R W0 n g s N b0 rd (.fn g V) J U st K r (by simp_all [GX]) c a ats Y l j i m o next Q q
  split at h
  .rename_i s N
   exact M.x R W0 n g s N b0 rd (.fn g V) J U st K r (by simp_all [Px]) c a ats Y l j i m o next Q q
  .rw[cond_eq_ite]at h;split at h
   .rename_i ad
    simp only[dh]at i;obtain⟨L,rfl,W⟩:=i;obtain⟨O,y⟩:=ada M.T (M.b g ad) h j (us:=l++L) (bW.append_arr m W)
     (fun e d=>match e with
      |.returned v=>next (a.put o.dst v) d
      |.panicked A=>Q (.panic A) a d
      |.outgrown=>LetsOut Q) (fun B z u D k1 k2 k3 k4=>q B z u D k1 k2 k3 k4)
    rw[uS,O];exact⟨wu rd,(CB y).mono fun e d I=>by cases e<;>exact I⟩
   simp only[dh]at i;obtain⟨L,rfl,W⟩:=i;obtain⟨O,y⟩:=X g (J++V) st K r h b0 rd c a ats (l++L) j (bW.append_arr m W)
    (fun e d=>match e with
     |.returned v=>next (a.put o.dst v) d
     |.panicked A=>Q (.panic A) a d
     |.outgrown=>LetsOut Q) (fun B z u D k1 k2 k3 k4=>q B z u D k1 k2 k3 k4)
   rw[uS,O];exact⟨wu rd,(CB y).mono fun e d I=>by cases e<;>exact I⟩
 |mfn g Z=>
  simp only[yV]at h;simp only[dh]at i;obtain⟨L,rfl,ab⟩:=i;split at h
  .rename_i s N
   have h0:=M.x R W0 n g s N b0 rd (.fn g []) (Z++J) U st K r (by simp_all [Px]) c a ats (.func (.func g) #[] #[]) (L++l) j (by simp only[dh];exact⟨#[],rfl,by simp[bW]⟩) (bW.append_arr ab m) o next Q q
   grind [Uj]
  obtain⟨O,y⟩:=X g (Z++J) st K r h b0 rd c a ats (L++l) j (bW.append_arr ab m)
   (fun e d=>match e with
    |.returned v=>next (a.put o.dst v) d
    |.panicked A=>Q (.panic A) a d
    |.outgrown=>LetsOut Q) (fun B z u D k1 k2 k3 k4=>q B z u D k1 k2 k3 k4)
  rw[Uj,O];exact⟨wu rd,(CB y).mono fun e d I=>by cases e<;>exact I⟩
 |yld id=>
  simp only[yV]at h;obtain⟨⟨f,fr,ps,kH,bd,ky,k,p,hg⟩,y⟩:=hy id J st K r h b0 rd c a ats l j m;simp only[dh]at i;have:=i.2.2 f fr ps kH bd ky k p (by rw[j.hp];exact hg);subst this;obtain⟨g,ae,kH,bd,h3,h4⟩:=y
    (fun e d=>match e with
     |.returned v=>next (a.put o.dst v) d
     |.panicked A=>Q (.panic A) a d
     |.outgrown=>LetsOut Q) (fun B z u D k1 k2 k3 k4=>q B z u D k1 k2 k3 k4) (n-1)
  rw[ZG,h3];exact⟨wu rd,h4.mono fun e d I=>by cases e<;>exact I⟩
 |_=>simp[yV]at h
theorem Fh {E:Env} (B:yU P E) {p:pV cO} (D: ∀W0,xB P W0 p):pX (R:=R) P (Tc E fun j st=>p j st fun v _=>a6 v):=by
 intro W0 b0 rd I J L st K r h c a ats M l d m x;cases I with
 |fn g N=>
  cases N with
  |nil=>
   simp only[Tc]at h;split at h
   .rename_i s O
    rw[cond_eq_ite]at h;split at h
    .rename_i S
     exact B.q R g s O S W0 b0 rd (.fn g []) J L st K r (by simp_all [GX]) c a ats M l d m x
    .cases h
   .split at h
    .rename_i U V
     split at h
     .rename_i v W
      rw[cond_eq_ite]at h;split at h
      .rename_i y
       simp only[dh]at m;obtain⟨X,rfl,Y⟩:=m;have Z:X= #[]:=by
        have:=bW.length _ _ Y
        grind
       subst Z;refine⟨v,rv v,h,(JU y _).2 rfl,fun i f=>.inl ⟨g,l, ?_⟩⟩;have ab:jG i 0 a7 (c.base i fun _=>False) ⟨[],[],[],st.nxt⟩ ⟨#[],[]⟩ []:=ao6 (Phi.below f d.ok.phiw) (fun b h=>h.elim) d.nxt.symm;have ad:aoX c (c.base i fun _=>False):=fun b A=>⟨al6.2 ⟨bF A f.size,fun h=>h⟩,f.block b A⟩;obtain⟨h1,h2⟩:=D i g U _ _ v W 0 a7 _ _ [] l ab (Sr d.ok ad _ _ _ (by rw[d.hp];exact V) x)
        (fun e ae=>e=.returned (rv v)/\IP c ae) (fun c' z u af k1 k2 k3 k4=>by
         simp only[Option.some.injEq]at k1;subst k1;refine⟨by rw[(JU y u).1 k3], ?_⟩;exact f.trans (k2.ok.bel.mono f.size))
       refine⟨?_,h2⟩;rw[uS,Array.append_empty];exact h1
      .cases h
     .cases h
    .cases h
  |cons _ _=>simp[Tc]at h
 |_=>simp[Tc]at h
theorem Jc: ∀k,bW c (List.replicate k (.tup [])) (List.replicate k undef)
 |0=>by simp[bW]
 |k+1=>by
  simp only[List.replicate_succ,bW,dh];exact⟨⟨#[],rfl,by simp[bW]⟩,Jc k⟩
theorem ab2 {l:Nat} {Rr:Ending->World->Prop} {e:Ex} {a:Act} {w:World} (h: ∃v w',(Instr.endRound l e.code).run P w=.ok v w'/\Rr (.returned v) w'):roundPost P l Rr e.xt a w:=by
 cases e<;>exact h
theorem Jl: ∀(d:List Nat) (fr args:List cO) (f:List Value) (tmps:Array Value),bW c fr tmps.toList->bW c args f->bW c (yK fr d args) ((d.zip f).foldl (fun tmps (t,a)=>tmps.setIfInBounds t a) tmps).toList
 |[],fr,args,f,tmps,h,_=>by simp_all [yK]
 |p::d,fr,[],[],tmps,h,_=>by assumption
 |p::d,fr,v::args,u::f,tmps,h,e=>by
  simp only[bW]at e;simp only[yK,List.zip_cons_cons,List.foldl_cons];refine Jl d _ args f _ ?_ e.2;simp_all [bW.set]
 |p::d,fr,[],_::_,tmps,h,e=>by simp[bW]at e
 |p::d,fr,_::_,[],tmps,h,e=>by simp[bW]at e
end
end
section
open Option renaming some → a6, none → a7
open Bool renaming and_eq_true → ah
open Nat renaming le_refl → af, le_trans → aK
open Go.RowKit
section
variable {P:Program} {T:TT} {W0:World} {b0:Nat} {rd:Option Nat} {R:Type} {r:R} {c:Cx} {ats:List (Array Value)}
def vG (P:Program) (E:Env):Prop:= ∀(f:FuncId) (fn:Func) (c:Code),P.funcs[f]? =a6 fn->fn.body=a6 c->eP E f c
def afM (E:Env):Prop:= ∀f k kH d,uB f k=a6 (kH,d)->eP E f kH/\eP E f d
theorem uA {E:Env} {g:pV R} {i:YP} {f:FuncId} {k:Nat} {x y:Code}: ∀c:Code,kS E g i f c->JR c k=a6 (x,y)->kS E g i f x/\kS E g i f y
 |.rangeFunc _ _ kH j,d,h=>by
  simp only[JR]at h;split at h
  .cases h;exact⟨d.1,d.2.1⟩
  .split at h
   .rename_i z e;cases h;exact uA kH d.1 e
   .exact uA j d.2.1 h
 |.seq a b,d,h=>by
  simp only[JR]at h;split at h
  .rename_i z e;cases h;exact uA a d.1.1 e
  .exact uA b d.2 h
 |.cond _ a b,d,h=>by
  simp only[JR]at h;split at h
  .rename_i z e;cases h;exact uA a d.1 e
  .exact uA b d.2 h
 |.block _ c,d,h=>uA c d h
 |.loop c,d,h=>uA c d.1 h
 |.scope c,d,h=>uA c d h
 |.skip,_,h|.label _,_,h|.region _ _ _,_,h|.exit _,_,h|.goto _,_,h|.ret,_,h|.refuse _,_,h=>by simp[JR]at h
theorem ayY {P:Program} {E:Env} (h:vG P E): ∀f k kH e,aDU P f k=a6 (kH,e)->eP E f kH/\eP E f e:=fun f k kH e d=>by
 unfold aDU at d;split at d
 .rename_i fn g
  split at d
  .rename_i c i
   exact⟨fun R m=>(uA c (h f fn c g i R m) d).1,fun R m=>(uA c (h f fn c g i R m) d).2⟩
  .cases d
 .cases d
theorem acM {P:Program} {E:Env} (h:yU P E): ∀R:Type,pX (R:=R) P (IV E.sg E.cl):=fun R W0 b0 rd x f i st K r d c a ats j l m p u=>by
 unfold IV at d;split at d
 .rename_i g
  split at d
  .rename_i s v
   replace d:=dQ d;obtain⟨e,d⟩:=d;simp only[ah]at e;exact h.q R g s v e.1 W0 b0 rd (.fn g []) f i st K r (by simp_all [GX]) c a ats j l m p u
  .cases d
 .cases d
theorem yU.at {P:Program} {E:Env} (h:yU P E) (n:Nat):yU P (E.at n):=⟨h.T,h.x,h.b,h.v,h.q⟩
theorem atK {st:St} {K:St->Option R} (h:pop st K=a6 r): ∃fr stk,st.stk=fr::stk/\K {st with fr:=fr,stk:=stk}=a6 r:=by
 grind [pop]
theorem Fg {v:cO} {u:Value} {e c1:Cx} {st st1:St} {a:Act} {B:Nat} (m:jG W0 b0 rd e st a ats) (D:c1.Ok W0) (I:c1.hp=st1.hp) (J:c1.nxt=st1.nxt) (M:st1.fr=[]) (N:EX c1 st1.stk (a.tmps::ats))
  (f:e.Mono c1) (O:dh c1 v u) {K:cO->St->Option R} (h:(match gc B v st1 with|some p=>pop p (K v)|none=>a7)=a6 r):
  ∃c' q,K v q=a6 r/\jG W0 b0 rd c' q a ats/\dh c' v u/\e.Mono c'/\c'.w=c1.w:=by
 have g:jG W0 0 a7 c1 st1 ⟨#[],[]⟩ (a.tmps::ats):=⟨I,J,D,by rw[M];simp[bW],N,⟨[],rfl,List.nodup_nil,fun r g=>by simp at g⟩,fun l i=>by cases i⟩;split at h
 .rename_i p S
  obtain⟨U,d,V,y,W,ab,_⟩:=g.gc O S;obtain⟨fr,stk,X,h⟩:=atK h;have j:=d.stk;rw[X]at j;refine⟨U,_,h,⟨d.hp,d.nxt,d.ok,j.1,j.2, ?_,fun l i=> ?_⟩,V,f.trans y,W⟩
  .obtain⟨Y,Z,h3,z⟩:=m.df;exact⟨Y,Z,h3,fun x A=>⟨y.mks x (f.mks x (z x A).1),(z x A).2⟩⟩
  .obtain⟨L,hL⟩:=m.rd l i;obtain⟨L1,ad⟩:=f.lp l L hL;simp_all
 .cases h
theorem am4 (hT:TOk P T) (hm:P.follows .mixedOrders=true) (ad:J8 P) {E:Env} (ae:E.P=P) (Y:E.T=T) (z:yU P E) (ag:vG P E) (aw:afM E) {m:Nat} (g: ∀(R:Type) (W0:World),xB P W0 (ni E m (R:=R))/\Ff P W0 (ni E m (R:=R))):
  xB P W0 (ni E (m+1) (R:=R)):=by
 intro f I st K r h b0 rd c a ats J d ai S hR;simp only[ni]at h;rw[ae]at h;split at h
 .cases h
 .rename_i fn U
  split at h
  .cases h
  .rename_i Z p
   rw[cond_eq_ite]at h;split at h
   .rename_i aj
    have aj:I.length<=fn.ntmps:=by simp_all
    have ax:I.length=J.size:=by simpa using bW.length _ _ ai
    refine⟨xE ad U p J c.w, ?_⟩;refine(callsIn_wide (n:=0)).1 (callsIn_of_wp_marks (F:=Fence.wide) (n:=0) U p trivial ?_);have ak:jG W0 c.w.heap.size a7 c {fr:=I++List.replicate (fn.ntmps-I.length) (.tup []),stk:=st.fr::st.stk,hp:=st.hp,nxt:=st.nxt} {tmps:=J++Array.replicate (fn.ntmps-J.size) undef,defers:=[]} (a.tmps::ats):=by
     refine⟨d.hp,d.nxt,d.ok, ?_,⟨d.fr,d.stk⟩,⟨[],rfl,List.nodup_nil,fun r d=>by simp at d⟩,fun l hl=>by cases hl⟩
     grind [bW.append_arr,Array.toList_replicate,Jc]
    refine O3 (rd:=a7) hT hm (n:=0) (E:=E.at m) Y (nM (E:=E.at m) (z.at m) (g R W0).1 (g R W0).2 0) (Fh (E:=E.at m) (z.at m) fun W=>(g cO W).1) (g R W0).1 (nM (E:=E.at m) (z.at m) (g St W0).1 (g St W0).2 0) (nM (E:=E.at m) (z.at m) (g Unit W0).1 (g Unit W0).2 0) (acM (E:=E.at m) (z.at m)) Z (ag f fn Z U p R m) _ _ c _ _ h ak (af _) fun e V A X M q y=> ?_;have ab:(ve E.T A fn.results.toList fun B=>
       let v:=match B with
        |[v]=>v
        |B=>.tup B
       match gc (bif E.cl then st.nxt else 1000000*A.stk.length) v {A with fr:=[]}with
       |some al=>pop al (K v)
       |none=>a7)=a6 r->LeavesInM Fence.wide 0 P fn X.tmps S X.defers .returning V.w:=by
     intro h2;obtain⟨ds,d1,d2,d3⟩:=q.df;obtain⟨c2,e1,e2,N,e4,e5,e6,e7,an,e8⟩:=V6 (n:=0) (P:=P) (fn:=fn) (tmps:=X.tmps) (Rr:=S) ds V q.ok d2 fun x O=>(d3 x O).1;rw[d1];refine e8 ?_;rw[Y]at h2;obtain⟨B,us,h3,h4,h5⟩:=BU hT e4 (e1.trans q.hp) (bW.le0 N _ _ q.fr) _ _ h2;have ao:c.Mono c2:=by
      refine⟨fun x O=>e5 x (y.mks x O) fun hd=> ?_,fun b L hL=> ?_,aK y.size e7,an.trans y.bar,fun b p=>⟨(N.out b (y.out b p).1).1,(N.out b (y.out b p).1).2.trans (y.out b p).2⟩⟩
      .have h6:=(d3 x hd).2;have h7:=d.ok.mark_lt O;omega
      .obtain⟨L1,au⟩:=y.lp b L hL;exact e6 b L1 au
     obtain⟨c3,ay,k1,k2,k3,k4,k5⟩:=Fg (v:=OW B) (u:=QP us) d e4 (st1:={A with fr:=[]}) (e1.trans q.hp) (e2.trans q.nxt) rfl (by
      have: ∀(D:List (List cO)) (j:List (Array Value)),EX V D j->EX c2 D j:=fun D=>by
       induction D with
       |nil=>intro j h;cases j with
        |nil=>trivial
        |cons _ _=>exact h.elim
       |cons f D av=>intro j h;cases j with
        |nil=>exact h.elim
        |cons t j=>exact⟨bW.le0 N _ _ h.1,av j h.2⟩
      exact this _ _ q.stk) ao (Dq h4) (K:=K) h3
     refine⟨QP us,ae8 h5, ?_⟩
     grind
    cases e with
    |normal=>exact ab M
    |ret=>exact ab M
    |exit i=>cases M
    |goto l=>cases M
   .cases h
theorem Ex.code_none {e:Ex} (h:e≠ .normal):e.code.isNone=false:=by cases e<;>first|exact absurd rfl h|rfl
theorem agw (hT:TOk P T) (hm:P.follows .mixedOrders=true) (bz:J8 P) {E:Env} (bC:E.P=P) (aV:E.T=T) (hS:yU P E) (bD:vG P E) (aw:afM E) {m:Nat} (g: ∀(R:Type) (W0:World),xB P W0 (ni E m (R:=R))/\Ff P W0 (ni E m (R:=R))):
  Ff P W0 (ni E (m+1) (R:=R)):=by
 intro id aj st K r h b0 rd c a ats ak p ax;simp only[ni]at h;split at h
 .rename_i f al ps kH bd d hg
  refine⟨⟨f,al,ps,kH,bd,d,0,a7,hg⟩,fun Rr hR n=> ?_⟩;rw[cond_eq_ite]at h;split at h
  .rename_i ay
   have ay:aj.length=ps.length:=by simpa using ay
   have bF:aj.length=ak.size:=by simpa using bW.length _ _ ax
   have az:ed c.hp id=a6 (.lp f al ps kH bd d 0 a7):=by rw[p.hp];exact hg
   obtain⟨aA,hB,L,hL,hv,q1,q2,q3,q4,q5⟩:=p.ok.obj id _ az;have y:yU P ((E.at m).keyed d):=by
    cases d with
    |none=>exact⟨hS.T,hS.x,hS.b,hS.v,hS.q⟩
    |some k=>exact hS.at m
   have aB:((E.at m).keyed d).T=T:=by cases d<;>exact aV
   have⟨aW,aX⟩:kS ((E.at m).keyed d) (ni E m (R:=R)) (Xv E m) f kH/\kS ((E.at m).keyed d) (ni E m (R:=R)) (Xv E m) f bd:=by
    cases d with
    |none=>exact⟨jy (fun _=>rfl) (fun _=>rfl) _,jy (fun _=>rfl) (fun _=>rfl) _⟩
    |some k=>exact⟨(aw f k kH bd (aA k rfl)).1 R m,(aw f k kH bd (aA k rfl)).2 R m⟩
   have aY:ak.size=L.params.size:=by
    grind
   refine⟨_,_,_,_,run_yield hL aY, ?_⟩;refine roundIn_of_wpIn trivial ?_;rw[q2,q3];have aZ:dh c (.yld id) (.func (.yield (c.mu id).blk) #[] #[]):=by
    simp only[dh];exact⟨rfl,.inl ⟨_,az⟩,fun _ _ _ _ _ _ _ _ _=>by simp⟩
   have bb:jG W0 c.w.heap.size (a6 (c.mu id).blk) c {fr:=yK al ps aj,stk:=[.yld id]::st.fr::st.stk,hp:=st.hp,nxt:=st.nxt} {tmps:=(L.params.zip ak).foldl (fun aF (t,a)=>aF.setIfInBounds t a) L.tmps,defers:=[]} (#[.func (.yield (c.mu id).blk) #[] #[]]::a.tmps::ats):=by
    refine⟨p.hp,p.nxt,p.ok, ?_,⟨by simpa [bW] using aZ,p.fr,p.stk⟩,⟨[],rfl,List.nodup_nil,fun r p=>by simp at p⟩,fun l hl=>by simp_all⟩;have:=Jl ps al aj ak.toList L.tmps hv ax
    grind [Array.toList_zip]
   refine O3 (rd:=a6 (c.mu id).blk) hT hm (E:=(E.at m).keyed d) aB (nM (E:=(E.at m).keyed d) y (g R W0).1 (g R W0).2 n) (Fh (E:=(E.at m).keyed d) y fun W=>(g cO W).1) (g R W0).1 (nM (E:=(E.at m).keyed d) y (g St W0).1 (g St W0).2 n) (nM (E:=(E.at m).keyed d) y (g Unit W0).1 (g Unit W0).2 n) (acM y) kH aW _ _ c _ _ h bb (af _) fun e c1 ab a1 B z be=> ?_;cases e with
   |normal=>
    split at B
    .rename_i au bG _ bf
     split at B
     .rename_i f1 aG aH aI aJ aO bg
      have A:=z.stk;rw[bf]at A;obtain⟨aP,_⟩:=A;simp only[bW,and_true]at aP;have av:=bg;rw[<-z.hp]at av;obtain⟨bH,bI,L1,bi,bJ,p1,p2,p3,p4,p5⟩:=z.ok.obj au _ av;simp only[dh]at aP;have bK:(c.mu id).blk=(c1.mu au).blk:=by simp_all
      obtain⟨c2,e1,e2,e3,e4,e5,e6⟩:=JV z.ok av bi {L1 with state:=.busy} (o':=.lp f1 aG aH aI aJ aO 2 a7) (.inr ⟨2,a7,rfl,rfl,rfl,rfl,rfl,rfl⟩);simp only[Ex.xt,Exit.then];refine⟨c2.w, ?_, ?_⟩
      .simp_all [run_beginRound]
      have ag:c.Mono c2:=be.trans e3.mono;have bn:jG W0 c.w.heap.size (a6 (c.mu id).blk) c2 {ab with hp:=jW ab.hp au (.lp f1 aG aH aI aJ aO 2 a7)} a1 (#[.func (.yield (c.mu id).blk) #[] #[]]::a.tmps::ats):=
       ⟨e1.trans (by rw[z.hp]),e2.trans z.nxt,e4,bW.le e3 _ _ z.fr,EX.le e3 _ _ z.stk,let⟨ds,d1,d2,d3⟩:=z.df;⟨ds,d1,d2,fun x hx=>⟨e3.mks x (d3 x hx).1,(d3 x hx).2⟩⟩,fun l hl=>let⟨L,hL⟩:=z.rd l hl;e3.lp l L hL⟩
      refine O3 (rd:=a6 (c.mu id).blk) hT hm (E:=(E.at m).keyed d) aB (nM (E:=(E.at m).keyed d) y (g R W0).1 (g R W0).2 n) (Fh (E:=(E.at m).keyed d) y fun W=>(g cO W).1) (g R W0).1 (nM (E:=(E.at m).keyed d) y (g St W0).1 (g St W0).2 n) (nM (E:=(E.at m).keyed d) y (g Unit W0).1 (g Unit W0).2 n) (acM y) bd aX _ _ c2 _ _ B bn ag.size fun e c3 D a3 I j an=> ?_;refine ab2 ?_;split at I
      .rename_i ad ao bt
       split at I
       .rename_i J M N O S U bu
        have A:=j.stk;rw[bt]at A;obtain⟨aQ,A⟩:=A;simp only[bW,and_true]at aQ;have ae:=bu;rw[<-j.hp]at ae;obtain⟨bM,bP,L3,ai,bQ,w1,w2,w3,w4⟩:=j.ok.obj ad _ ae;simp only[dh]at aQ;have aS:(c.mu id).blk=(c3.mu ad).blk:=by simp_all
        have aU:=run_endRound (P:=P) (w:=c3.w) e.code ai;rw[<-aS]at aU;refine⟨_,_,aU, ?_⟩;rw[aS];cases e with
        |normal=>
         obtain⟨V,g1,g2,g3,g4,g5,g6⟩:=JV j.ok ae ai {L3 with state:=.ready,pending:=a7} (o':=.lp J M N O S U 0 a7) (.inr ⟨0,a7,rfl,⟨rfl,rfl⟩,rfl,rfl,rfl,rfl⟩);have X:c.Mono V:=(ag.trans an).trans g3.mono;obtain⟨Y,Z,k1,k2,k3,k4,k5⟩:=Fg (v:=.undef) (u:=undef) p g4 (st1:={D with fr:=[],stk:=ao,hp:=jW D.hp ad (.lp J M N O S U 0 a7)}) (g1.trans (by rw[j.hp])) (g2.trans j.nxt) rfl (EX.le g3 _ _ A) X (by simp[dh]) (K:=fun _=>K (.val .bool true)) I;have:=hR Y (.val .bool true) (.bool true) Z k1 k2 (by simp only[dh];exact VD.bool_mk) k4;rw[k5,g5]at this;exact this
        |exit i=>
         obtain⟨V,g1,g2,g3,g4,g5,g6⟩:=JV j.ok ae ai {L3 with state:=.done,pending:=a6 (.exit i)} (o':=.lp J M N O S U 1 (a6 (.exit i))) (.inr ⟨1,a6 (.exit i),rfl,⟨rfl,rfl,by simp[Ex.code]⟩,rfl,rfl,rfl,rfl⟩);have X:c.Mono V:=(ag.trans an).trans g3.mono;obtain⟨Y,Z,k1,k2,k3,k4,k5⟩:=Fg (v:=.undef) (u:=undef) p g4 (st1:={D with fr:=[],stk:=ao,hp:=jW D.hp ad (.lp J M N O S U 1 (a6 (.exit i)))}) (g1.trans (by rw[j.hp])) (g2.trans j.nxt) rfl (EX.le g3 _ _ A) X (by simp[dh]) (K:=fun _=>K (.val .bool false)) I;have:=hR Y (.val .bool false) (.bool false) Z k1 k2 (by simp only[dh];exact VD.bool_mk) k4;rw[k5,g5]at this;exact this
        |goto l=>
         obtain⟨V,g1,g2,g3,g4,g5,g6⟩:=JV j.ok ae ai {L3 with state:=.done,pending:=a6 (.goto l)} (o':=.lp J M N O S U 1 (a6 (.goto l))) (.inr ⟨1,a6 (.goto l),rfl,⟨rfl,rfl,by simp[Ex.code]⟩,rfl,rfl,rfl,rfl⟩);have X:c.Mono V:=(ag.trans an).trans g3.mono;obtain⟨Y,Z,k1,k2,k3,k4,k5⟩:=Fg (v:=.undef) (u:=undef) p g4 (st1:={D with fr:=[],stk:=ao,hp:=jW D.hp ad (.lp J M N O S U 1 (a6 (.goto l)))}) (g1.trans (by rw[j.hp])) (g2.trans j.nxt) rfl (EX.le g3 _ _ A) X (by simp[dh]) (K:=fun _=>K (.val .bool false)) I;have:=hR Y (.val .bool false) (.bool false) Z k1 k2 (by simp only[dh];exact VD.bool_mk) k4;rw[k5,g5]at this;exact this
        |ret=>
         obtain⟨V,g1,g2,g3,g4,g5,g6⟩:=JV j.ok ae ai {L3 with state:=.done,pending:=a6 (.ret)} (o':=.lp J M N O S U 1 (a6 .ret)) (.inr ⟨1,a6 .ret,rfl,⟨rfl,rfl,by simp[Ex.code]⟩,rfl,rfl,rfl,rfl⟩);have X:c.Mono V:=(ag.trans an).trans g3.mono;obtain⟨Y,Z,k1,k2,k3,k4,k5⟩:=Fg (v:=.undef) (u:=undef) p g4 (st1:={D with fr:=[],stk:=ao,hp:=jW D.hp ad (.lp J M N O S U 1 (a6 .ret))}) (g1.trans (by rw[j.hp])) (g2.trans j.nxt) rfl (EX.le g3 _ _ A) X (by simp[dh]) (K:=fun _=>K (.val .bool false)) I;have:=hR Y (.val .bool false) (.bool false) Z k1 k2 (by simp only[dh];exact VD.bool_mk) k4;rw[k5,g5]at this;exact this
       .cases I
      .cases I
     .cases B
    .cases B
   |exit i=>simp at B
   |goto l=>simp at B
   |ret=>simp at B
  .cases h
 .cases h
theorem JA (hT:TOk P T) (d:P.follows .mixedOrders=true) (e:J8 P) {E:Env} (g:E.P=P) (i:E.T=T) (j:yU P E) (l:vG P E) (p:afM E): ∀(m:Nat) (R:Type) (W0:World),xB P W0 (ni E m (R:=R))/\Ff P W0 (ni E m (R:=R))
 |0,R,W0=>⟨fun f q st K r h=>by simp[ni]at h,fun id q st K r h=>by simp[ni]at h⟩
 |m+1,R,W0=>⟨am4 hT d e g i j l p (JA hT d e g i j l p m),agw hT d e g i j l p (JA hT d e g i j l p m)⟩
end
end
section
open Option renaming some → a6, none → a7
open Bool renaming and_eq_true → ah
open List renaming mem_cons_of_mem → aB, all_cons → bn
open Nat renaming le_refl → af
open Go.RowKit
def rQ (c:Cx):(d:List Ty)->(d.foldr Ty.pair Ty.unit).den->List Value->Prop
 |[],_,us=>us=[]
 |t::d,x,us=> ∃u e,us=u::e/\VD c t x.1 u/\rQ c d x.2 e
def lQ (w:World) (d:Nat->Prop):Cx:=⟨fun _=>⟨0,undef⟩,[],0,w,[],d⟩
def Ij (rs:List (Ty×Bool)) (y:((rs.map (·.1)).foldr Ty.pair Ty.unit).den):iD:=
 match Au rs y with
 |some ⟨e,d⟩=>[(0,.arr e 0 d)]
 |none=>[]
def xC (w:World) (f:Nat->Prop) (rs:List (Ty×Bool)) (y:((rs.map (·.1)).foldr Ty.pair Ty.unit).den):Ending->World->Prop:=fun e g=>
 ∃(d:Cx) (us:List Value),e=.returned (QP us)/\d.w=g/\d.Ok w/\d.bar=f/\d.mks=[]/\d.hp=Ij rs y/\bW d (qN 0 rs y) us
def eX (P:Program) (g:FuncId) (s:Sum):Prop:=
 ∀(w:World) (e:Nat->Prop) (d:Array Value) x y,Phi w->(∀b,e b->b<w.heap.size)->rQ (lQ w e) s.ps x d.toList->s.f x=a6 y->
  ((callFunc g d).run P w=.ok (.enter g d) w/\Calls P g d w (xC w e s.rs y))\/ ∃u,(callFunc g d).run P w=.ok (.value u) w/\xC w e s.rs y (.returned u) w
section
variable {P:Program} {T:TT} {W0:World} {b0:Nat} {rd:Option Nat} {R:Type} {r:R} {c:Cx} {ats:List (Array Value)}
theorem Js {w:World} {d:Nat->Prop} {b:Nat}:(lQ w d).free b↔b<w.heap.size/\ ¬d b:=by
 constructor
 .intro h;exact⟨h.1,h.2.2.2⟩
 .rintro ⟨e,f⟩;exact⟨e,(by rintro ⟨i,o,h,_⟩;simp[lQ,ed]at h),by simp[lQ],f⟩
theorem ain (y:c.Ok W0) {cb:Cx} (i:aoX c cb) {t:Ty} {v:cO} {x:t.den} {u:Value} (h:v.as c.hp t=a6 x) (d:dh c v u):VD cb t x u:=by
 have m: ∀{t:Ty} {x:t.den} {u:Value},VD c t x u->VD cb t x u:=fun {t x u} d=>
  ⟨fun e=>let⟨cs,f,j⟩:=d.1 e;⟨cs,f,fV.mono (fun b g=>i b g.1) t x _ j⟩,fun e=>fV.mono (fun b g=>i b g.1) t x _ (d.2 e)⟩
 cases v with
 |val t' z=>
  grind [cO.as,jo,iw,dh]
 |nils=>
  cases t with
  |list e=>grind [H8]
  |_=>simp[cO.as]at h
 |lst t' z b=>
  simp only[cO.as]at h;have e:=jo h;subst e;simp_all [iw,dh]
 |emp=>
  cases t with
  |list e=>grind [H8]
  |_=>simp[cO.as]at h
 |slc id ver A=>
  cases t with
  |list e=>grind [H8]
  |_=>simp[cO.as]at h
 |agg l=>
  simp only[cO.as]at h;rw[cond_eq_ite]at h;split at h
  .rename_i p
   simp only[dh]at d;obtain⟨q,rfl,f,j⟩:=d;exact m ((VD.agg p).2 ⟨q,rfl,qZ h f⟩)
  .cases h
 |_=>simp[cO.as]at h
theorem Ko {cb:Cx} (f: ∀b,c.free b->cb.free b/\cb.w.heap[b]? =c.w.heap[b]?) {t:Ty} {v:cO} {x:t.den} {u:Value} (j:pG v=false) {hp:iD} (h:v.as hp t=a6 x) (d:dh c v u):VD cb t x u:=by
 cases v with
 |val t' z=>
  simp only[cO.as]at h;have e:=jo h;subst e;rw[iw]at h;cases h;simp only[dh]at d;exact⟨fun e=>let⟨cs,g,i⟩:=d.1 e;⟨cs,g,fV.mono f t' _ _ i⟩,fun e=>fV.mono f t' _ _ (d.2 e)⟩
 |nils=>
  cases t with
  |list e=>
   simp only[cO.as,Option.some.injEq]at h;subst h;simp only[dh]at d;subst d;exact(VD.leaf rfl).2 ⟨a7,0,[],rfl,af _,rfl,.inl rfl⟩
  |_=>simp[cO.as]at h
 |lst t' z b=>
  simp only[cO.as]at h;have e:=jo h;subst e;rw[iw]at h;cases h;simp only[dh]at d;exact⟨fun e=>let⟨cs,g,i⟩:=d.1.1 e;⟨cs,g,fV.mono f _ _ _ i⟩,fun e=>fV.mono f _ _ _ (d.1.2 e)⟩
 |emp=>
  cases t with
  |list e=>
   simp only[cO.as,Option.some.injEq]at h;subst h;simp only[dh]at d;obtain⟨a,rfl⟩:=d;exact(VD.leaf rfl).2 ⟨a,0,[],rfl,af _,rfl,.inl rfl⟩
  |_=>simp[cO.as]at h
 |slc id ver m=>simp[pG]at j
 |agg l=>simp[pG]at j
 |_=>simp[cO.as]at h
theorem Cm {cb:Cx} {hp:iD}: ∀(e:List Ty) (args:List cO) x (us:List Value),Cj hp e args=a6 x->bW c args us->
  (∀(t:Ty) (v:cO) (x:t.den) (u:Value),v∈args->v.as hp t=a6 x->dh c v u->VD cb t x u)->rQ cb e x us
 |[],[],x,[],h,_,_=>rfl
 |t::e,v::args,x,u::us,h,d,f=>by
  simp only[Cj]at h;split at h
  .rename_i g i
   split at h
   .rename_i j l
    cases h;simp only[bW]at d;exact⟨u,us,rfl,f t v g u (by simp) i d.1,Cm e args j us l d.2 fun t v x u m=>f t v x u (aB _ m)⟩
   .cases h
  .cases h
 |[],[],_,_::_,_,d,_=>by simp[bW]at d
 |[],_::_,_,_,h,_,_=>by simp[Cj]at h
 |_::_,[],_,_,h,_,_=>by simp[Cj]at h
 |_::_,_::_,_,[],_,d,_=>by simp[bW]at d
theorem VD.move {c' c2:Cx} (f:c2.w=c'.w) {t:Ty} {x:t.den} {u:Value} (h:(∀b,c'.free b->c2.free b)\/t.rigid=true) (g:VD c' t x u):VD c2 t x u:=by
 rcases h with h|h
 .exact⟨fun e=>let⟨cs,i,j⟩:=g.1 e;⟨cs,i,fV.mono (fun b d=>⟨h b d,by rw[f]⟩) t x _ j⟩,fun e=>fV.mono (fun b d=>⟨h b d,by rw[f]⟩) t x _ (g.2 e)⟩
 simp_all [VD.rigid]
theorem gV.move {c' c2:Cx} (f:c2.w=c'.w) {e:Ty} {xs:List e.den} {d:List Value} (h:(∀b,c'.free b->c2.free b)\/e.rigid=true) (g:gV (fV c'.w c'.free e) e.size xs d):gV (fV c2.w c2.free e) e.size xs d:=by
 grind [gV.mono,fV.mono,wW]
theorem IM {c' c2:Cx} (f:c2.w=c'.w) (id:Nat): ∀(rs:List (Ty×Bool)) y (us:List Value),(∀t∈rs,(∀b,c'.free b->c2.free b)\/t.1.rigid=true\/t.2=true)->
  (news rs=0\/ ∀u,dh c' (.slc 0 0 a7) u->dh c2 (.slc id 0 a7) u)->bW c' (qN 0 rs y) us->bW c2 (qN id rs y) us
 |[],y,[],_,_,_=>by simp[qN,bW]
 |[],y,_::_,_,_,d=>by assumption
 |(t,false)::rs,y,us,h,e,d=>by
  cases us with
  |nil=>assumption
  |cons u us=>
   simp only[qN,bW,dh]at d ⊢;refine⟨VD.move f ?_ d.1,IM f id rs y.2 us (fun t g=>h t (aB _ g)) e d.2⟩;simp_all
 |(t,true)::rs,y,us,h,e,d=>by
  cases us with
  |nil=>assumption
  |cons u us=>
   simp only[qN,bW]at d ⊢;rcases e with e|e
   .simp[news]at e
   .exact⟨e u d.1,IM f id rs y.2 us (fun t g=>h t (aB _ g)) (.inr e) d.2⟩
theorem afE {c':Cx}: ∀(rs:List (Ty×Bool)) y (us:List Value),news rs≠0->bW c' (qN 0 rs y) us-> ∃u,dh c' (.slc 0 0 a7) u
 |[],y,us,h,_=>by simp[news]at h
 |(t,false)::rs,y,us,h,d=>by
  cases us with
  |nil=>simp[qN,bW]at d
  |cons u us=>
   simp only[qN,bW]at d;exact afE rs y.2 us (by simpa [news] using h) d.2
 |(t,true)::rs,y,us,h,d=>by
  cases us with
  |nil=>simp[qN,bW]at d
  |cons u us=>
   grind [qN,bW]
theorem Qh: ∀(rs:List (Ty×Bool)) y {e:Ty} {xs:List e.den},Au rs y=a6 ⟨e,xs⟩->(rs.all fun r=>r.1.rigid||(r.2&&r.1.elem.rigid))=true->e.rigid=true
 |[],y,e,xs,h,_=>by simp[Au]at h
 |(t,false)::rs,y,e,xs,h,d=>by
  simp only[Au]at h;simp only[bn,ah]at d;exact Qh rs y.2 h d.2
 |(t,true)::rs,y,e,xs,h,d=>by
  cases t with
  |list f=>
   simp only[Au,Option.some.injEq,Sigma.mk.injEq]at h;obtain⟨rfl,_⟩:=h;simp_all [Ty.rigid,Ty.elem]
  |_=>simp[Au]at h
theorem avT {c':Cx} (d:c.Ok W0) (m:c'.Ok c.w) (f:c'.bar=fun b=>b<c.w.heap.size/\ ¬c.free b) {b:Nat} (hb:c'.free b):(c.at_ c'.w).free b:=by
 refine⟨hb.1, ?_⟩;by_cases hlt:b<c.w.heap.size
 .have e:=hb.2.2.2;rw[f]at e;have g:c.free b:=Classical.byContradiction fun h=>e ⟨hlt,h⟩;exact g.2
 .refine⟨fun i=>hlt (d.own_lt i).2,fun j=>hlt (d.mark_lt j),fun l=>hlt (d.bar b l).1⟩
theorem afA {s:Sum} {cl:Bool} {args:List cO} {dst:Option Nat} {st:St} {K:cO->St->Option R} (h:s.call cl args dst st K=a6 r):
    ((s.rs.all fun r=>r.1.rigid||(r.2&&r.1.elem.rigid))=true\/args.any pG=false)/\ ∃x y,Cj st.hp s.ps args=a6 x/\s.f x=a6 y/\
      ((Au s.rs y=a7/\news s.rs=0/\K (OW (qN 0 s.rs y)) st=a6 r)\/
       (∃e xs id n',Au s.rs y=a6 ⟨e,xs⟩/\news s.rs=1/\ed st.hp id=a7/\st.nxt<=id/\st.nxt<=n'/\K (OW (qN id s.rs y)) {st with hp:=(id,.arr e 0 xs)::st.hp,nxt:=n'}=a6 r)):=by
  unfold Sum.call at h;rw[cond_eq_ite]at h;split at h
  . rename_i d
    refine⟨by simpa using d, ?_⟩;split at h
    . rename_i x g
      cases hy:s.f x with
      |none=>rw[hy]at h;cases h
      |some y=>
        rw[hy]at h;simp only[bU]at h;refine⟨x,y,g,hy, ?_⟩;split at h
        . simp_all [cond_eq_ite]
        . rename_i e xs i
          rw[cond_eq_ite]at h;split at h
          . rename_i j
            obtain⟨id,n',l,m,p,q⟩:=jY h;exact .inr ⟨e,xs,id,n',i,by simpa using j,l,m,p,q⟩
          . cases h
    . cases h
  . cases h
end
end
section
open Option renaming some → a6, none → a7
open Bool renaming and_eq_true → ah, or_eq_true → bi, not_eq_true' → bu
open List renaming map_cons → ay, mem_cons_of_mem → aB, mem_append_right → bH, mem_append_left → bJ
open Nat renaming le_refl → af, eq_of_beq_eq_true → ax, le_trans → aK, lt_of_lt_of_le → bF
open Go.RowKit
section
variable {P:Program} {T:TT} {W0:World} {b0:Nat} {rd:Option Nat} {R:Type} {r:R} {c:Cx} {ats:List (Array Value)}
theorem Cx.many {c2:Cx} (g:c.Ok W0) (S:Nat->Prop) (A:c2.mks=c.mks) (N:c2.bar=c.bar) (Y:c2.nxt=c.nxt)
  (B: ∀i,¬S i->ed c2.hp i=ed c.hp i/\c2.mu i=c.mu i)
  (Z: ∀i,S i-> ∃o o',ed c.hp i=a6 o/\ed c2.hp i=a6 o'/\o.like (c.mu i) o' (c2.mu i)/\ ∀f fr ps kH bd ky n p,o≠ .lp f fr ps kH bd ky n p)
  (hw:Below W0.heap.size W0 c2.w) (O:c.w.heap.size<=c2.w.heap.size)
  (D: ∀b,b<c.w.heap.size->(∀i o,S i->ed c.hp i=a6 o->o.blk (c.mu i)≠a6 b)->c2.w.heap[b]? =c.w.heap[b]?)
  (U: ∀i o' b,S i->ed c2.hp i=a6 o'->o'.blk (c2.mu i)=a6 b->c.w.heap.size<=b\/ ∃j o,S j/\ed c.hp j=a6 o/\o.blk (c.mu j)=a6 b)
  (ad: ∀i j o' l b,S i->S j->ed c2.hp i=a6 o'->ed c2.hp j=a6 l->o'.blk (c2.mu i)=a6 b->l.blk (c2.mu j)=a6 b->i=j)
  (ae: ∀(b:Nat) (L:Loop) (i:Nat) o,S i->ed c.hp i=a6 o->o.blk (c.mu i)=a6 b->c.w.heap[b]? ≠a6 (Obj.loop L)):
  c.Le c2/\((∀i o',S i->ed c2.hp i=a6 o'->c2.ORel W0.heap.size i o')->c2.Ok W0):=by
 have I:c.Le c2:=by
  refine⟨fun b e=>⟨⟨bF e.1 O, ?_,by rw[A];exact e.2.2⟩,D b e.1 fun i o _ m d=>e.2.1 ⟨i,o,m,d⟩⟩,fun i z=> ?_,fun i o' z x=> ?_,fun r y=>by rw[A];exact y,fun b L hL=> ?_,O,N⟩
  .rintro ⟨i,o',m,d⟩;by_cases u:S i
   .rcases U i o' b u m d with q|⟨j,o,_,q,v⟩
    .have:=e.1;omega
    .exact e.2.1 ⟨j,o,q,v⟩
   .obtain⟨q,v⟩:=B i u;rw[q]at m;rw[v]at d;exact e.2.1 ⟨i,o',m,d⟩
  .by_cases u:S i
   .obtain⟨o,o',_,d,_⟩:=Z i u;exact .inl ⟨o',d⟩
   .rcases z with ⟨o,x⟩|z
    .exact .inl ⟨o,by simp_all⟩
    .exact .inr (by rw[Y];exact z)
  .by_cases u:S i
   .grind
   .obtain⟨q,v⟩:=B i u;rw[q]at x;exact⟨o',x,by rw[v];exact o'.like_refl _⟩
  grind
 refine⟨I,fun hO=>⟨hw,fun i o' x=> ?_,fun i j o' l b m d q v=> ?_,fun r y=> ?_,fun b e=> ?_,g.phi⟩⟩
 .by_cases u:S i
  .exact hO i o' u x
  .obtain⟨q,v⟩:=B i u;rw[q]at x;refine(g.obj i o' x).le I v fun b e=>D b ((g.obj i o' x).lt e).2 fun j o ag J K=> ?_;have:=g.inj j i o o' b J x K e;simp_all
 .have M: ∀i o' b,¬S i->ed c2.hp i=a6 o'->o'.blk (c2.mu i)=a6 b->ed c.hp i=a6 o'/\o'.blk (c.mu i)=a6 b:=fun i o' b u m d=>by
   simp_all
  have mixed: ∀i j o' l b,S i-> ¬S j->ed c2.hp i=a6 o'->ed c2.hp j=a6 l->o'.blk (c2.mu i)=a6 b->l.blk (c2.mu j)=a6 b->False:=fun i j o' l b m d q v J K=>by
   obtain⟨V,W⟩:=M j l b d v K;rcases U i o' b m q J with X|⟨k,o,hk,X,ab⟩
   .have:=((g.obj j l V).lt W).2;omega
   .have:=g.inj k j o l b X V ab W;simp_all
  by_cases z:S i<;>by_cases hj:S j
  .grind
  .grind
  .grind
  .obtain⟨q1,q2⟩:=M i o' b z m q;obtain⟨q3,q4⟩:=M j l b hj d v;exact g.inj i j o' l b q1 q3 q2 q4
 .rw[A]at y;exact⟨(g.mks r y).1,(D r (g.mark_lt y) fun i o u m d=>g.mark_own y ⟨i,o,m,d⟩).trans (g.mks r y).2⟩
 .rw[N]at e;exact(I.out b (g.bar b e)).1
theorem ay2 {size:Nat} {s u:Value} {e:Option (Int×Int)} (h:jU size s e u) {b off n cp:Nat} (f:u=.slice (a6 ⟨b,off,a7⟩) n cp):s.ownBlock=a6 b:=by
 subst f;cases e with
 |none=>simp only[jU]at h;subst h;rfl
 |some p=>
  obtain⟨lo,i⟩:=p;simp only[jU]at h;obtain⟨a,m,q,rfl,_,_,_,g⟩:=h;have d:(a6 ⟨b,off,a7⟩:Option Addr)=if q=lo.toNat then a else a.map (·.add (lo.toNat*size)):=by injection g
  split at d
  .subst d;rfl
  .cases a with
   |none=>cases d
   |some a=>
    simp only[Option.map_some,Option.some.injEq]at d;have:=congrArg Addr.block d
    grind [Value.ownBlock,Addr.add]
theorem afQ (p:c.Ok W0) {cb:Cx} (g: ∀b,c.free b->cb.free b/\cb.w.heap[b]? =c.w.heap[b]?) {t:Ty} {v:cO} {x:t.den} {u:Value}
  (z: ∀id i m,v=.slc id i m-> ∀o b,ed c.hp id=a6 o->o.blk (c.mu id)=a6 b->cb.free b/\cb.w.heap[b]? =c.w.heap[b]?) (h:v.as c.hp t=a6 x) (d:dh c v u):VD cb t x u:=by
 cases hno:pG v with
 |false=>exact Ko g hno h d
 |true=>
  cases v with
  |slc id i m=>
   cases t with
   |list e=>
    obtain⟨a,cp,A,f,j,B⟩:=VH p h d;have D:=acb p h d f;have I: ∃t J,ed c.hp id=a6 (.arr t i J):=by
     simp only[cO.as,DY]at h
     grind
    obtain⟨U,V,q⟩:=I;simp only[dh]at d;have K:=(d.2.2 _ _ _ q).2 rfl;refine(VD.leaf rfl).2 ⟨a,cp,A,by rw[f],D,gV.mono (fV.mono g e) _ _ j,B.imp (fun h=>h) fun⟨b,off,y,W,X,L⟩=> ?_⟩;have Y:=ay2 K (b:=b) (off:=off) (n:=x.length) (cp:=cp) (by rw[f,y]);obtain⟨M,N⟩:=z id i m rfl _ b q (by assumption);exact⟨b,off,y,M,L.of_block N⟩
   |_=>simp[cO.as]at h
  |agg l=>
   simp only[cO.as]at h;replace h:=dQ h;obtain⟨O,h⟩:=h;simp only[dh]at d;obtain⟨S,rfl,f,j⟩:=d;have:=(VD.agg O).2 ⟨S,rfl,qZ h f⟩;exact⟨fun e=>let⟨cs,f,j⟩:=this.1 e;⟨cs,f,fV.mono g _ _ _ j⟩,fun e=>fV.mono g _ _ _ (this.2 e)⟩
  |_=>simp[pG]at hno
theorem F8: ∀{l:List Nat},UW l=true->l.Nodup
 |[],_=>List.nodup_nil
 |i::l,h=>by
  simp only[UW,ah,bu]at h;refine List.nodup_cons.2 ⟨fun d=> ?_,F8 h.2⟩;have:Z4 l i=true:=List.any_eq_true.2 ⟨i,d,by simp⟩;simp_all
theorem Yc {hp:iD} {b:Bool}: ∀(cs:List (Ty×Bool)) (cells:List cO) {x},lL hp b cs cells=a6 x-> ∀n,(jV cs n).length=(ru cs cells).length:=by
 intro cs
 induction cs with
 |nil=>intro cells x h n;cases cells<;>rfl
 |cons tc cs f=>
  intro cells x h n;obtain⟨t,o⟩:=tc;cases cells with
  |nil=>simp_all [lL]
  |cons v cells=>
   cases o with
   |false=>
    simp only[lL]at h;rw[cond_eq_ite]at h
    grind [jV,ru]
   |true=>
    cases t with
    |list e=>
     cases v with
     |slc id ver d=>
      cases d with
      |none=>
       simp only[lL]at h;split at h
       .replace h:=dQ h;grind [jV,ru]
       .cases h
      |some p=>simp[lL]at h
     |_=>simp[lL]at h
    |_=>simp[lL]at h
theorem Hq: ∀(cs:List (Ty×Bool)) (n:Nat),∀p∈jV cs n,n<=p.1
 |[],n,p,h=>by simp[jV]at h
 |(_,true)::cs,n,p,h=>by
  simp only[jV,List.mem_cons]at h;rcases h with rfl|h
  .exact af _
  .exact aK (Nat.le_succ n) (Hq cs (n+1) p h)
 |(_,false)::cs,n,p,h=>Hq cs n p h
theorem xF: ∀(cs:List (Ty×Bool)) (n:Nat),((jV cs n).map (·.1)).Nodup
 |[],n=>List.nodup_nil
 |(_,true)::cs,n=>by
  simp only[jV,ay];refine List.nodup_cons.2 ⟨fun h=> ?_,xF cs (n+1)⟩;obtain⟨p,d,e⟩:=List.mem_map.1 h;have:=Hq cs (n+1) p d;omega
 |(_,false)::cs,n=>xF cs n
theorem X5 {hp:iD} {b:Bool}: ∀(cs:List (Ty×Bool)) (cells:List cO) (d:List (Nat×Nat)) {x},lL hp b cs cells=a6 x->d.length=(ru cs cells).length-> ∀g o,(g,o)∈wC cs d x->
  ∃(k i v j:Nat) (e:Ty) (xs:List e.den),(ru cs cells)[k]? =a6 (i,v)/\d[k]? =a6 (g,j)/\o=.arr e j xs/\ed hp i=a6 (.arr e v xs)/\(.list e,true)∈cs:=by
 intro cs
 induction cs with
 |nil=>simp_all [wC]
 |cons tc cs y=>
  intro cells d x h q g o f;obtain⟨t,z⟩:=tc;cases cells with
  |nil=>simp_all [lL]
  |cons v cells=>
   cases z with
   |false=>
    simp only[lL]at h;rw[cond_eq_ite]at h
    grind [ru,wC]
   |true=>
    cases t with
    |list e=>
     cases v with
     |slc id ver A=>
      cases A with
      |none=>
       simp only[lL]at h;split at h
       .rename_i U u xs B
        replace h:=dQ h;obtain⟨l,h⟩:=h;have l:u=ver:=by simpa using l
        subst l;split at h
        .rename_i D m
         split at h
         .rename_i V I
          cases h;have J:=jo m;cases J;rw[iw]at m;cases m;cases d with
          |nil=>simp[ru]at q
          |cons p d=>
           obtain⟨W,K⟩:=p;simp only[wC,List.mem_cons]at f;rcases f with f|f
           .cases f;exact⟨0,id,u,K,_,D,by simp[ru],by simp,rfl,B,by simp⟩
           .obtain⟨k,i,v,j,e,xs,L,M,N,O,S⟩:=y cells d I (by simpa [ru] using q) g o f;exact⟨k+1,i,v,j,e,xs,by simpa [ru] using L,by simpa using M,N,O,aB _ S⟩
         .cases h
        .cases h
       .cases h
      |some p=>simp[lL]at h
     |_=>simp[lL]at h
    |_=>simp[lL]at h
theorem aai {hp:iD} {b:Bool}: ∀(cs:List (Ty×Bool)) (cells:List cO) (d:List (Nat×Nat)) {x},lL hp b cs cells=a6 x-> ∀(k i v f g:Nat),(ru cs cells)[k]? =a6 (i,v)->d[k]? =a6 (f,g)->
  ∃e xs,ed hp i=a6 (.arr e v xs)/\(f,dZ.arr e g xs)∈wC cs d x:=by
 intro cs
 induction cs with
 |nil=>simp_all [ru]
 |cons tc cs D=>
  intro cells d x h k i v f g q j;obtain⟨t,y⟩:=tc;cases cells with
  |nil=>simp_all [lL]
  |cons u cells=>
   cases y with
   |false=>
    simp only[lL]at h;rw[cond_eq_ite]at h
    grind [ru,wC]
   |true=>
    cases t with
    |list e=>
     cases u with
     |slc id ver z=>
      cases z with
      |none=>
       simp only[lL]at h;split at h
       .rename_i I A xs J
        replace h:=dQ h;obtain⟨l,h⟩:=h;have l:A=ver:=by simpa using l
        subst l;split at h
        .rename_i K m
         split at h
         .rename_i L M
          cases h;have B:=jo m;cases B;rw[iw]at m;cases m;cases d with
          |nil=>simp at j
          |cons p d=>
           obtain⟨N,O⟩:=p;cases k with
           |zero=>
            simp only[ru,List.getElem?_cons_zero,Option.some.injEq,Prod.mk.injEq]at q j;obtain⟨rfl,rfl⟩:=q;obtain⟨rfl,rfl⟩:=j
            grind [wC]
           |succ k=>
            grind [ru,wC]
         .cases h
        .cases h
       .cases h
      |some p=>simp[lL]at h
     |_=>simp[lL]at h
    |_=>simp[lL]at h
theorem ac9 {c':Cx} {b:Bool}: ∀(cs:List (Ty×Bool)) (cells:List cO) (f:List (Nat×Nat)) {x} (vs:List Value),lL c.hp b cs cells=a6 x->bW c cells vs->f.length=(ru cs cells).length->
  (∀(k i v l m:Nat),(ru cs cells)[k]? =a6 (i,v)->f[k]? =a6 (l,m)-> ∀e xs,ed c.hp i=a6 (.arr e v xs)->ed c'.hp l=a6 (.arr e m xs)/\(c'.mu l).v=(c.mu i).v)->
  (∀t v x u,(t,false)∈cs->(b=true->pG v=false\/t.rigid=true)->(∀i∈refs v,i∈wH cs cells)->v.as c.hp t=a6 x->dh c v u->VD c' t x u)->bW c' (IQ cs f x) vs:=by
 intro cs
 induction cs with
 |nil=>
  grind [IQ,bW,lL]
 |cons tc cs D=>
  intro cells f x vs h q z g hd;obtain⟨t,M⟩:=tc;cases cells with
  |nil=>simp_all [lL]
  |cons v cells=>
   cases vs with
   |nil=>simp[bW]at q
   |cons u vs=>
    simp only[bW]at q;cases M with
    |false=>
     simp only[lL]at h;rw[cond_eq_ite]at h;split at h
     .cases h
     .rename_i X
      split at h
      .rename_i I y
       split at h
       .rename_i N A
        cases h;simp only[IQ,bW,dh];refine⟨hd t v I u (by simp) (fun Y=> ?_) (fun i g=>by simp[wH,g]) y q.1,D cells f vs A q.2 (by simpa [ru] using z) (fun k i v l m d j=>g k i v l m (by simpa [ru] using d) j) fun t v x u d j J=>hd t v x u (aB _ d) j fun i g=>by simp[wH,J i g]⟩
        grind
       .cases h
      .cases h
    |true=>
     cases t with
     |list e=>
      cases v with
      |slc id ver O=>
       cases O with
       |none=>
        simp only[lL]at h;split at h
        .rename_i Z K xs S
         replace h:=dQ h;obtain⟨B,h⟩:=h;have B:K=ver:=by simpa using B
         subst B;split at h
         .rename_i I y
          split at h
          .rename_i N A
           cases h;have U:=jo y;cases U;rw[iw]at y;cases y;cases f with
           |nil=>simp[ru]at z
           |cons p f=>
            obtain⟨V,W⟩:=p;simp only[IQ,bW];obtain⟨d,j⟩:=g 0 id K V W (by simp[ru]) (by simp) _ _ S;refine⟨?_,D cells f vs A q.2 (by simpa [ru] using z) (fun k i v l m d j=>g (k+1) i v l m (by simpa [ru] using d) (by simpa using j)) fun t v x u d j J=>hd t v x u (aB _ d) j fun i g=>by simp_all [wH]⟩;have L:=q.1;simp only[dh]at L ⊢;refine⟨L.1,.inl ⟨_,d⟩,fun t u ab hh=> ?_⟩;simp_all
          .cases h
         .cases h
        .cases h
       |some p=>simp[lL]at h
      |_=>simp[lL]at h
     |_=>simp[lL]at h
theorem NH: ∀(cs:List (Ty×Bool)) (d:List (Nat×Nat)) (x),List.Sublist ((wC cs d x).map (·.1)) (d.map (·.1)):=by
 intro cs
 induction cs with
 |nil=>grind [wC]
 |cons tc cs f=>
  intro d x;obtain⟨t,o⟩:=tc;cases o with
  |false=>simp_all [wC]
  |true=>
   cases t with
   |list e=>
    cases d with
    |nil=>grind [wC]
    |cons p d=>
     simp_all [wC]
   |_=>simp_all [wC]
theorem PY: ∀(h:iD) (i:Nat) (o:dZ),(h.map (·.1)).Nodup->(i,o)∈h->ed h i=a6 o
 |(k,p)::h,i,o,f,d=>by
  simp only[ay,List.nodup_cons]at f;rw[fF];rcases List.mem_cons.1 d with e|d
  .cases e;simp
  .have:k≠i:=fun e=>f.1 (e▸List.mem_map.2 ⟨_,d,rfl⟩);rw[aq this];exact PY h i o f.2 d
theorem qF: ∀(l h:iD) (i:Nat),i∉l.map (·.1)->ed (PZ l h) i=ed h i
 |[],h,i,_=>rfl
 |(k,o)::l,h,i,d=>by
  simp only[ay,List.mem_cons,not_or]at d;simp only[PZ];rw[qF l _ i d.2,kF,aq (Ne.symm d.1)]
theorem FT: ∀(l h:iD) (i:Nat) (o:dZ),(l.map (·.1)).Nodup->(i,o)∈l->(ed h i).isSome=true->ed (PZ l h) i=a6 o
 |(k,p)::l,h,i,o,d,f,m=>by
  simp only[ay,List.nodup_cons]at d;simp only[PZ];rcases List.mem_cons.1 f with e|f
  .have g:=(Prod.mk.inj e).1;have j:=(Prod.mk.inj e).2;subst g j;rw[qF l _ i d.1,kF,am rfl];cases hg:ed h i with
   |none=>simp_all
   |some q=>rfl
  .refine FT l _ i o d.2 f ?_
   grind [kF]
def W9:List Nat->List Nat->(Nat->Loc)->(Nat->Loc)->Nat->Loc
 |a::e,j::f,d,m,i=>if a=i then d j else W9 e f d m i
 |_,_,_,m,i=>m i
theorem Vt {p m:Nat->Loc}: ∀(d f:List Nat) (k a j:Nat),d.Nodup->d[k]? =a6 a->f[k]? =a6 j->W9 d f p m a=p j
 |[],_,k,a,j,_,h,_=>by simp at h
 |_::_,[],k,a,j,_,_,h=>by simp at h
 |q::d,u::f,0,a,j,_,g,i=>by
  simp_all [W9]
 |q::d,u::f,k+1,a,j,l,g,i=>by
  simp only[List.getElem?_cons_succ]at g i;simp only[List.nodup_cons]at l;have:q≠a:=fun e=>l.1 (e▸List.mem_of_getElem? g);simp only[W9,aq this];exact Vt d f k a j l.2 g i
theorem Vu {f m:Nat->Loc}: ∀(d e:List Nat) (i:Nat),i∉d->W9 d e f m i=m i
 |[],_,i,_=>by simp[W9]
 |_::_,[],i,_=>by simp[W9]
 |a::d,j::e,i,h=>by
  simp only[List.mem_cons,not_or]at h;simp only[W9,aq (Ne.symm h.1)];exact Vu d e i h.2
def azc (W0:World) (c:Cx) (s:gu) (z:((s.cs.map (·.1)).foldr Ty.pair Ty.unit).den×(s.rs.foldr Ty.pair Ty.unit).den):Ending->World->Prop:=fun e f=>
 ∃(d:Cx) (us:List Value) (cells:List cO),e=.returned (QP us)/\d.w=f/\d.Ok W0/\c.Mono d/\ed d.hp 0=a6 (.box s.bt cells)/\(d.mu 0).blk=(c.mu 0).blk/\
  ((ru s.cs cells).map (·.1)).Nodup/\lL d.hp true s.cs cells=a6 z.1/\rQ d s.rs z.2 us
def dV (P:Program) (g:FuncId) (s:gu):Prop:=
 ∀(W0:World) (c:Cx) x y z,c.Ok W0->c.mks=[]->c.nxt=0->c.hp=(0,.box s.bt (IQ s.cs (jV s.cs 1) x))::wC s.cs (jV s.cs 1) x-> ∀d:Array Value,bW c (.ptr 0 0::KF s.ps y) d.toList->s.f x y=a6 z->
  (callFunc g d).run P c.w=.ok (.enter g d) c.w/\Calls P g d c.w (azc W0 c s z)
theorem Ag: ∀(cs:List (Ty×Bool)) (n:Nat),∀p∈jV cs n,p.2=0
 |[],n,p,h=>by simp[jV]at h
 |(_,true)::cs,n,p,h=>by
  simp only[jV,List.mem_cons]at h;rcases h with rfl|h
  .rfl
  .exact Ag cs (n+1) p h
 |(_,false)::cs,n,p,h=>Ag cs n p h
theorem NV: ∀(d:List Ty) x (us:List Value),rQ c d x us->bW c (KF d x) us
 |[],x,us,h=>by
  simp_all [rQ,KF,bW]
 |t::d,x,us,h=>by
  obtain⟨u,e,rfl,f,g⟩:=h;simp only[KF,bW,dh];exact⟨f,NV d x.2 e g⟩
theorem rQ.move {c' c2:Cx} (e:c2.w=c'.w): ∀(d:List Ty) x (us:List Value),((∀b,c'.free b->c2.free b)\/d.all Ty.rigid=true)->rQ c' d x us->rQ c2 d x us
 |[],x,us,_,h=>h
 |t::d,x,us,f,h=>by
  obtain⟨u,g,rfl,i,j⟩:=h;refine⟨u,g,rfl,VD.move e (f.imp (fun h=>h) fun h=> ?_) i,rQ.move e d x.2 g (f.imp (fun h=>h) fun h=> ?_) j⟩
  all_goals simp_all
theorem Ye: ∀(l:List cO) (v:cO),v∈l-> ∀i∈refs v,i∈nY l
 |u::l,v,d,i,f=>by
  simp only[nY,List.mem_append];rcases List.mem_cons.1 d with e|d
  .simp_all
  .exact .inr (Ye l v d i f)
theorem aGi {g:FuncId} {s:gu} (hs:dV P g s) {id:Nat} {qs:List cO} {st:St} {K:cO->St->Option R} (h:s.go id qs st K=a6 r) {a:Act} (hr:jG W0 b0 rd c st a ats) {us:Array Value} (hv:bW c (.ptr id 0::qs) us.toList)
  (Rr:Ending->World->Prop) (hR: ∀c' z u bG,K z bG=a6 r->jG W0 b0 rd c' bG a ats->dh c' z u->c.Mono c'->Rr (.returned u) c'.w):
  (callFunc g us).run P c.w=.ok (.enter g us) c.w/\Calls P g us c.w Rr:=by
 unfold gu.go at h;split at h<;>try (cases h;done)
 rename_i t cells ab
 replace h:=dQ h;obtain⟨hc,h⟩:=h;simp only[ah,bi,bu]at hc;obtain⟨ht,⟨au,aV⟩,av⟩:=hc;have ht:t=s.bt:=ax ht;subst ht;split at h<;>try (cases h;done)
 rename_i x hx
 split at h<;>try (cases h;done)
 rename_i y hy
 cases hz:s.f x y with
 |none=>rw[hz]at h;cases h
 |some z=>
 rw[hz]at h;simp only[bU]at h;rw[<-hr.hp]at ab hx hy;have au:=F8 au;have aV:=wS aV;generalize ae:ru s.cs cells=own at*;have X:=hr.ok;obtain⟨hB,vs,hw,ds,dT⟩:=X.obj id _ ab;have aA: ∀(k i v:Nat),own[k]? =a6 (i,v)-> ∃(e:Ty) (J:List e.den),ed c.hp i=a6 (.arr e v J):=fun k i v hk=>by
  obtain⟨e,J,d,_⟩:=aai s.cs cells own hx k i v i v (by rw[ae];exact hk) hk;exact⟨e,J,d⟩
 have aw: ∀p∈own,∃k:Nat,own[k]? =a6 p:=fun p Y=>List.getElem?_of_mem Y;have bI:id∉own.map (·.1):=fun hm=>by
  obtain⟨p,Y,rfl⟩:=List.mem_map.1 hm;obtain⟨k,hk⟩:=aw p Y;obtain⟨e,J,d⟩:=aA k p.1 p.2 hk;rw[ab]at d;cases d
 let S:Nat->Prop:=fun i=>i=id\/i∈own.map (·.1)
 have ea: ∀i,S i-> ∃o,ed c.hp i=a6 o/\ ∀f fr ps kH bd ky n p,o≠ .lp f fr ps kH bd ky n p:=fun i q=>by
  rcases q with rfl|q
  .exact⟨_,ab,by simp⟩
  .obtain⟨p,Y,rfl⟩:=List.mem_map.1 q;obtain⟨k,hk⟩:=aw p Y;obtain⟨e,J,d⟩:=aA k p.1 p.2 hk;exact⟨_,d,by simp⟩
 let az:Nat->Prop:=fun b=> ∃i o,S i/\ed c.hp i=a6 o/\o.blk (c.mu i)=a6 b
 have aW: ∀b,az b->c.own b:=fun b ⟨i,o,_,d,l⟩=>⟨i,o,d,l⟩
 let M:Cx:=⟨fun k=>if k=0 then c.mu id else W9 ((jV s.cs 1).map (·.1)) (own.map (·.1)) c.mu c.mu k,(0,.box s.bt (IQ s.cs (jV s.cs 1) x))::wC s.cs (jV s.cs 1) x,0,c.w,[],fun b=>s.rigid=false/\b<c.w.heap.size/\ ¬c.free b/\ ¬az b⟩
 have aX:(jV s.cs 1).length=own.length:=by rw[<-ae];exact Yc s.cs cells hx 1
 have ag: ∀(k i v O:Nat),own[k]? =a6 (i,v)->(jV s.cs 1)[k]? =a6 (O,0)->O≠0/\M.mu O=c.mu i:=fun k i v O d l=>by
  have U:=Hq s.cs 1 _ (List.mem_of_getElem? l);refine⟨by simp at U;omega, ?_⟩;have Z:O≠0:=by simp at U;omega
  simp only[M,aq Z];exact Vt _ _ k O i (xF s.cs 1) (by rw[List.getElem?_map,l];rfl) (by rw[List.getElem?_map,d];rfl)
 have aF: ∀(O:Nat) (o:dZ),ed M.hp O=a6 o->(O=0/\o=.box s.bt (IQ s.cs (jV s.cs 1) x))\/
   ∃(k i v:Nat) (e:Ty) (J:List e.den),own[k]? =a6 (i,v)/\(jV s.cs 1)[k]? =a6 (O,0)/\o=.arr e 0 J/\ed c.hp i=a6 (.arr e v J):=fun O o m=>by
  simp only[M,fF]at m;split at m
  .rename_i e
   cases m;exact .inl ⟨e.symm,rfl⟩
  .right;obtain⟨k,i,v,v',e,J,D,B,q3,N,_⟩:=X5 s.cs cells (jV s.cs 1) hx (by rw[ae];exact aX) O o (zq _ _ _ m);rw[ae]at D;have:=Ag s.cs 1 _ (List.mem_of_getElem? B);simp only at this;subst this;exact⟨k,i,v,e,J,D,B,q3,N⟩
 have aG: ∀b,M.own b->az b:=fun b ⟨O,o,d,l⟩=>by
  rcases aF O o d with ⟨rfl,rfl⟩|⟨k,i,v,e,J,D,B,rfl,N⟩
  .exact⟨id,_,.inl rfl,ab,by simpa [M,dZ.blk] using l⟩
  .rw[(ag k i v O D B).2]at l;exact⟨i,_,.inr (List.mem_map.2 ⟨_,List.mem_of_getElem? D,rfl⟩),N,l⟩
 have bK: ∀b,c.free b->M.free b/\M.w.heap[b]? =c.w.heap[b]? :=fun b I=>⟨⟨I.1,fun m=>I.2.1 (aW b (aG b m)),by simp[M],fun aY=>aY.2.2.1 I⟩,rfl⟩;have conv: ∀(t:Ty) (v:cO) (x:t.den) (u:Value),(∀i ai vw,v=.slc i ai vw->s.rigid=true/\i≠id/\i∉own.map (·.1))->v.as c.hp t=a6 x->dh c v u->VD M t x u:=fun t v x u ee d l=>by
  refine afQ X bK (fun i ai vw ad o b U Z=> ?_) d l;obtain⟨h5,h6,h7⟩:=ee i ai vw ad;refine⟨⟨((X.obj i o U).lt Z).2,fun m=> ?_,by simp[M],fun aY=>by have:=aY.1;rw[h5]at this;cases this⟩,rfl⟩;obtain⟨j,o',hj,h8,h9⟩:=aG b m;have:=X.inj i j o o' b U h8 Z h9;subst this;rcases hj with hj|hj
  .exact h6 hj
  .exact h7 hj
 have bM: ∀i,i∈nY qs++wH s.cs cells->i≠id/\i∉own.map (·.1):=fun i q=>by
  have:=aV i q;simp only[List.mem_cons,not_or]at this;exact this
 have eq:M.Ok W0:=by
  refine⟨X.bel,fun O o m=> ?_,fun i j o p b d l U Z=> ?_,fun r hr=>by simp[M]at hr,fun b I=>⟨I.2.1,fun m=>I.2.2.2 (aG b m),by simp[M]⟩,X.phi⟩
  .rcases aF O o m with ⟨rfl,rfl⟩|⟨k,i,v,e,J,D,B,rfl,N⟩
   .refine⟨by simpa [M] using hB,vs,by simpa [M] using hw, ?_,dT⟩;refine ac9 s.cs cells (jV s.cs 1) vs.toList hx ds (by rw[ae];exact aX) (fun k i v O v' D B e J q3=> ?_) fun t v x u D B q3 N q5=>conv t v x u (fun i ai vw ad=> ?_) N q5
    .rw[ae]at D;have bP:=Ag s.cs 1 _ (List.mem_of_getElem? B);simp only at bP;subst bP;obtain⟨h6,h7⟩:=ag k i v O D B;refine⟨?_,by rw[h7]⟩;obtain⟨e2,fh,h8,h9⟩:=aai s.cs cells (jV s.cs 1) hx k i v O 0 (by rw[ae];exact D) B;rw[q3]at h8;cases h8;have ed:=PY _ _ _ (List.Sublist.nodup (NH s.cs (jV s.cs 1) x) (xF s.cs 1)) h9;simp only[M,fF,aq (Ne.symm h6)];exact ed
    .subst ad;obtain⟨h6,h7⟩:=bM i (bH _ (q3 i (by simp[refs])));refine⟨?_,h6,h7⟩;cases hrg2:s.rigid with
     |true=>rfl
     |false=>
      rcases B (by rw[hrg2];rfl)with h8|h8
      .simp[pG]at h8
      .cases t<;>simp[Ty.rigid]at h8<;>simp[cO.as]at N
   .obtain⟨aZ,el,zs,w1,w2,w3⟩:=X.obj i _ N;refine⟨aZ,el,zs,by rw[(ag k i v O D B).2];exact w1,gV.mono (fV.mono bK e) _ _ w2,w3⟩
  .rcases aF i o d with ⟨rfl,rfl⟩|⟨k,i1,v,e,J,D,B,rfl,N⟩<;>rcases aF j p l with ⟨rfl,rfl⟩|⟨k',i2,v',e',aH,aj,ak,rfl,aI⟩
   .rfl
   .rw[(ag k' i2 v' j aj ak).2]at Z;have:=X.inj id i2 _ _ b ab aI (by simpa [M,dZ.blk] using U) Z;subst this;rw[ab]at aI;cases aI
   .rw[(ag k i1 v i D B).2]at U;have:=X.inj id i1 _ _ b ab N (by simpa [M,dZ.blk] using Z) U;subst this;rw[ab]at N;cases N
   .rw[(ag k i1 v i D B).2]at U;rw[(ag k' i2 v' j aj ak).2]at Z;have:=X.inj i1 i2 _ _ b N aI U Z;subst this;have bb:k=k':=by
     have e1:(own.map (·.1))[k]? =a6 i1:=by rw[List.getElem?_map,D];rfl
     have e2:(own.map (·.1))[k']? =a6 i1:=by rw[List.getElem?_map,aj];rfl
     exact(List.getElem?_inj (List.getElem?_eq_some_iff.1 e1).1 au).1 (e1.trans e2.symm)
    subst bb;rw[B]at ak;cases ak;rfl
 obtain⟨us⟩:=us;cases us with
 |nil=>simp[bW]at hv
 |cons u0 us=>
 simp only[bW]at hv;obtain⟨be,es⟩:=hv;have et:bW M (.ptr 0 0::KF s.ps y) (u0::us):=by
  simp only[bW];refine⟨?_,NV s.ps y us (Cm s.ps qs y us hy es fun t v x u hm d l=>conv t v x u (fun i ai vw ad=> ?_) d l)⟩
  .simp only[dh]at be ⊢;exact⟨be.1,.inl ⟨_,by simp[M,fF];rfl⟩,fun t' fi _=>by simpa [M] using be.2.2 _ _ ab⟩
  .subst ad;have ew:i∈nY qs:=Ye _ _ hm i (by simp[refs]);obtain⟨h6,h7⟩:=bM i (bJ _ ew);refine⟨?_,h6,h7⟩;rcases av with av|av
   .exact av
   .have:=List.any_eq_false.1 av _ hm;simp[pG]at this
 obtain⟨ex,eF⟩:=hs W0 M x y z eq rfl rfl rfl ⟨u0::us⟩ et hz;refine⟨ex,eF.mono ?_⟩;rintro e w' ⟨V,bQ,al,rfl,rfl,an,bf,ca,eG,eL,aJ,eM⟩
 let W:List (Nat×Nat):=own.map fun p=>(p.1,p.2+1)
 generalize aO:ru s.cs al=own1 at*
 let A:Cx:=⟨fun i=>if i=id then c.mu id else W9 (own.map (·.1)) (own1.map (·.1)) V.mu c.mu i,jW (PZ (wC s.cs W z.1) c.hp) id (.box s.bt (IQ s.cs W z.1)),c.nxt,V.w,c.mks,c.bar⟩
 have cc:own1.length=own.length:=by rw[<-aO,<-Yc s.cs al aJ 1,aX]
 have cd:W.length=(ru s.cs al).length:=by rw[aO];simp[W,cc]
 have ch:(W.map (·.1))=own.map (·.1):=by simp[W,List.map_map,Function.comp_def]
 have eN:((wC s.cs W z.1).map (·.1)).Nodup:=List.Sublist.nodup (NH s.cs W z.1) (by rw[ch];exact au);have bg: ∀i,i∈(wC s.cs W z.1).map (·.1)->i∈own.map (·.1):=fun i q=>by
  have:=(NH s.cs W z.1).subset q;rwa [ch]at this
 have aP: ∀(k i v:Nat),own[k]? =a6 (i,v)-> ∃(j w:Nat) (e:Ty) (J:List e.den),own1[k]? =a6 (j,w)/\ed V.hp j=a6 (.arr e w J)/\ed A.hp i=a6 (.arr e (v+1) J)/\A.mu i=V.mu j/\(.list e,true)∈s.cs:=fun k i v hk=>by
  have eO:k<own1.length:=by rw[cc];exact(List.getElem?_eq_some_iff.1 hk).1
  obtain⟨⟨j,w⟩,hj⟩: ∃p,own1[k]? =a6 p:=⟨_,List.getElem?_eq_getElem eO⟩;have eR:W[k]? =a6 (i,v+1):=by simp[W,List.getElem?_map,hk]
  obtain⟨e,J,d,l⟩:=aai s.cs al W aJ k j w i (v+1) (by rw[aO];exact hj) eR;obtain⟨k',i1,v1,v2,e',aH,D,B,q3,N,q5⟩:=X5 s.cs al W aJ cd i _ l;have eS:i∈own.map (·.1):=List.mem_map.2 ⟨_,List.mem_of_getElem? hk,rfl⟩;have cn:id≠i:=fun e=>bI (e▸eS);obtain⟨e0,eT,h0⟩:=aA k i v hk;refine⟨j,w,e,J,hj,d, ?_, ?_, ?_⟩
  .simp only[A];rw[kF,aq cn];exact FT _ _ _ _ eN l (by rw[h0];rfl)
  .simp only[A,aq (Ne.symm cn)];exact Vt _ _ k i j au (by rw[List.getElem?_map,hk];rfl) (by rw[List.getElem?_map,hj];rfl)
  .cases q3;exact q5
 have bn:ed A.hp id=a6 (.box s.bt (IQ s.cs W z.1)):=by
  simp only[A];rw[kF,am rfl,qF _ _ _ fun h=>bI (bg id h),ab];rfl
 have aQ:A.mu id=c.mu id:=by simp[A]
 have cv:(V.mu 0).blk=(c.mu id).blk:=by rw[eG];simp[M]
 have aS: ∀(i:Nat) (o':dZ),S i->ed A.hp i=a6 o'-> ∃j o1,ed V.hp j=a6 o1/\o1.blk (V.mu j)=o'.blk (A.mu i)/\((i=id/\j=0/\o1=.box s.bt al)\/ ∃(k v w:Nat),own[k]? =a6 (i,v)/\own1[k]? =a6 (j,w)/\ ∃(e:Ty) (J:List e.den),o1=.arr e w J):=fun i o' q m=>by
  rcases q with rfl|q
  .rw[bn]at m;cases m;exact⟨0,_,ca,by simp[dZ.blk,aQ,cv],.inl ⟨rfl,rfl,rfl⟩⟩
  .obtain⟨p,Y,rfl⟩:=List.mem_map.1 q;obtain⟨k,hk⟩:=aw p Y;obtain⟨j,w,e,J,D,B,q3,N,_⟩:=aP k p.1 p.2 hk;rw[q3]at m;cases m;exact⟨j,_,B,by simp only[dZ.blk];rw[N],.inr ⟨k,p.2,w,hk,D,e,J,rfl⟩⟩
 have dd: ∀b,b<c.w.heap.size-> ¬az b->V.out b/\V.w.heap[b]? =c.w.heap[b]? :=fun b I hn=>bf.out b ⟨I,fun m=>hn (aG b m),by simp[M]⟩;obtain⟨df,eV⟩:=Cx.many (c2:=A) X S rfl rfl rfl (fun i q=>by
   have d:i≠id:=fun e=>q (.inl e);have l:i∉own.map (·.1):=fun e=>q (.inr e);refine⟨?_,by simp only[A,aq d];exact Vu _ _ _ l⟩;simp only[A];rw[kF,aq (Ne.symm d),qF _ _ _ fun h=>l (bg i h)])
  (fun i q=>by
   rcases q with rfl|q
   .exact⟨_,_,ab,bn,by simp[dZ.like,aQ],by simp⟩
   .obtain⟨p,Y,rfl⟩:=List.mem_map.1 q;obtain⟨k,hk⟩:=aw p Y;obtain⟨j,w,e,J,D,B,q3,N,_⟩:=aP k p.1 p.2 hk;obtain⟨e0,eT,h0⟩:=aA k p.1 p.2 hk;exact⟨_,_,h0,q3,⟨by omega,fun e=>by omega⟩,by simp⟩)
  an.bel bf.size (fun b I hn=>(dd b I fun⟨i,o,d,l,U⟩=>hn i o d l U).2)
  (fun i o' b q m I=>by
   by_cases hlt:b<c.w.heap.size
   .right;refine Classical.byContradiction fun hn=> ?_;obtain⟨j,o1,d,l,_⟩:=aS i o' q m;exact(dd b hlt fun⟨j,o,U,Z,h5⟩=>hn ⟨j,o,U,Z,h5⟩).1.2.1 ⟨j,o1,d,l.trans I⟩
   .left;omega)
  (fun i O o' p' b q eW m Y I eZ=>by
   obtain⟨j,o1,d,l,U⟩:=aS i o' q m;obtain⟨j',fa,ao,aU,dl⟩:=aS O p' eW Y;have hj:=an.inj j j' o1 fa b d ao (l.trans I) (aU.trans eZ);subst hj;rw[d]at ao;cases ao;rcases U with ⟨rfl,rfl,rfl⟩|⟨k,v,w,D,B,e,J,rfl⟩
   .rcases dl with ⟨rfl,_⟩|⟨k',v',w',aj,ak,e',aH,he⟩
    .rfl
    .cases he
   .rcases dl with ⟨_,_,he⟩|⟨k',v',w',aj,ak,e',aH,he⟩
    .cases he
    .have bb:k=k':=by
      have e1:(own1.map (·.1))[k]? =a6 j:=by rw[List.getElem?_map,B];rfl
      have e2:(own1.map (·.1))[k']? =a6 j:=by rw[List.getElem?_map,ak];rfl
      exact(List.getElem?_inj (List.getElem?_eq_some_iff.1 e1).1 eL).1 (e1.trans e2.symm)
     subst bb;rw[D]at aj;cases aj;rfl)
  (fun b L i o q m I=>by
   obtain⟨o2,d,l⟩:=ea i q;rw[m]at d;cases d;exact(X.obj i o m).no_loop l I)
 have bz:s.rigid=true\/ ∀b,V.free b->A.free b:=by
  cases hrg2:s.rigid with
  |true=>exact .inl rfl
  |false=>
   right;intro b I;have bC: ∀b,b<c.w.heap.size-> ¬c.free b-> ¬az b-> ¬V.free b:=fun b d l U hf=>hf.2.2.2 (by rw[bf.bar];exact⟨hrg2,d,l,U⟩);refine⟨I.1, ?_,fun hm=> ?_,fun hm=> ?_⟩
   .rintro ⟨i,o',d,l⟩;by_cases q:S i
    .obtain⟨j,o1,U,Z,_⟩:=aS i o' q d;exact I.2.1 ⟨j,o1,U,Z.trans l⟩
    .have ao:i≠id:=fun e=>q (.inl e);have aU:i∉own.map (·.1):=fun e=>q (.inr e);simp only[A]at d l;rw[kF,aq (Ne.symm ao),qF _ _ _ fun h=>aU (bg i h)]at d;rw[aq ao,Vu _ _ _ aU]at l;refine bC b ((X.obj i o' d).lt l).2 (fun hf=>hf.2.1 ⟨i,o',d,l⟩) ?_ I;rintro ⟨j,o,hj,U,Z⟩;have:=X.inj i j o' o b d U l Z;subst this;exact q hj
   .exact bC b (X.mark_lt hm) (fun hf=>hf.2.2.1 hm) (fun m=>X.mark_own hm (aW b m)) I
   .exact bC b (X.bar b hm).1 (fun hf=>hf.2.2.2 hm) (fun m=>(X.bar b hm).2.1 (aW b m)) I
 have bD:s.rigid=true->(∀p∈s.cs,p.1.rigid=true\/p.2=true/\p.1.elem.rigid=true)/\s.rs.all Ty.rigid=true:=fun h=>by
  simp only[gu.rigid,ah]at h;exact⟨fun p Y=>by have:=List.all_eq_true.1 h.1 p Y;simpa using this,h.2⟩
 have fb:A.Ok W0:=eV fun i o' q m=>by
  rcases q with rfl|q
  .rw[bn]at m;cases m;obtain⟨fj,dp,fc,fd,fe⟩:=an.obj 0 _ ca;refine⟨by rw[aQ];exact hB,dp,by rw[aQ,<-cv];exact fc, ?_,fe⟩;refine ac9 s.cs al W dp.toList aJ fd cd (fun k j w i v D B e J q3=> ?_) fun t v x u D B q3 N q5=> ?_
   .rw[aO]at D;have hk: ∃v0,own[k]? =a6 (i,v0)/\v=v0+1:=by
     simp only[W,List.getElem?_map,Option.map_eq_some_iff]at B;obtain⟨p,ff,fg⟩:=B;cases fg;exact⟨p.2,ff,rfl⟩
    obtain⟨v0,hk,rfl⟩:=hk;obtain⟨j',w',e',aH,p1,p2,p3,p4,_⟩:=aP k i v0 hk;rw[D]at p1;cases p1;rw[q3]at p2;cases p2;exact⟨p3,by rw[p4]⟩
   .rcases bz with hf|hf
    .have ht:t.rigid=true:=by
      rcases(bD hf).1 (t,false) D with h|h
      .exact h
      .cases h.1
     cases m:pG v with
     |false=>exact VD.move (c':=V) (c2:=A) rfl (.inr ht) (Ko (cb:=V) (fun b I=>⟨I,rfl⟩) m N q5)
     |true=>
      refine VD.move (c':=V) (c2:=A) rfl (.inr ht) (afQ (cb:=V) an (fun b I=>⟨I,rfl⟩) (fun i ai vw ad=> ?_) N q5);subst ad;cases t<;>simp[Ty.rigid]at ht<;>simp[cO.as]at N
    .refine VD.move (c':=V) (c2:=A) rfl (.inl hf) (afQ (cb:=V) an (fun b I=>⟨I,rfl⟩) (fun i ai vw ad=> ?_) N q5);subst ad;rcases B rfl with h8|h8
     .simp[pG]at h8
     .cases t<;>simp[Ty.rigid]at h8<;>simp[cO.as]at N
  .obtain⟨p,Y,rfl⟩:=List.mem_map.1 q;obtain⟨k,hk⟩:=aw p Y;obtain⟨j,w,e,J,D,B,q3,N,q5⟩:=aP k p.1 p.2 hk;rw[q3]at m;cases m;obtain⟨aZ,el,zs,w1,w2,w3⟩:=an.obj j _ B;refine⟨aZ,el,zs,by rw[N];exact w1,gV.move (c':=V) (c2:=A) rfl ?_ w2,w3⟩;rcases bz with hf|hf
   .right;rcases(bD hf).1 _ q5 with h|h
    .simp[Ty.rigid]at h
    .exact h.2
   .exact .inl hf
 have hd:E9 W0 c st A {st with hp:=jW (PZ (wC s.cs W z.1) st.hp) id (.box s.bt (IQ s.cs W z.1))}:=⟨by simp[A,hr.hp],hr.nxt,rfl,rfl,fb,df⟩;exact hR A _ _ _ h (hr.did hd) (Dq (NV s.rs z.2 bQ (rQ.move (c':=V) (c2:=A) rfl s.rs z.2 bQ (bz.symm.imp (fun h=>h) fun h=>(bD h).2) eM))) df.mono
theorem adu {cl:Bool}: ∀(cs:List (Ty×Bool)) (n:Nat) (cells:List cO) (st:St) (K:List cO->St->Option R),vH cl n cs cells st K=a6 r-> ∀(c:Cx) (vs:List Value),c.Ok W0->c.hp=st.hp->c.nxt=st.nxt->bW c cells vs->
  ∃c' d f,E9 W0 c st c' d/\c'.w=c.w/\bW c' f vs/\K f d=a6 r/\ ∀i o,ed st.hp i=a6 o->ed d.hp i=a6 o:=by
 have J: ∀(cells:List cO) (st:St) (K:List cO->St->Option R),K cells st=a6 r-> ∀(c:Cx) (vs:List Value),c.Ok W0->c.hp=st.hp->c.nxt=st.nxt->bW c cells vs->
   ∃c' d f,E9 W0 c st c' d/\c'.w=c.w/\bW c' f vs/\K f d=a6 r/\ ∀i o,ed st.hp i=a6 o->ed d.hp i=a6 o:=
  fun cells st K h c vs j m p g=>⟨c,st,cells,E9.refl j m p,rfl,g,h,fun i o h=>h⟩
 intro cs
 induction cs with
 |nil=>intro n cells st K h;cases cells<;>exact J _ st K h
 |cons tc cs L=>
  intro n cells st K h c vs j m p g;cases cells with
  |nil=>exact J _ st K (by obtain⟨t,o⟩:=tc;cases o<;>cases t<;>simpa only[vH] using h) c vs j m p g
  |cons v cells=>
   cases vs with
   |nil=>simp[bW]at g
   |cons u vs=>
    have x:vH cl (n+1) cs cells st (fun l st=>K (v::l) st)=a6 r-> ∃c' d f,E9 W0 c st c' d/\c'.w=c.w/\bW c' f (u::vs)/\K f d=a6 r/\ ∀i o,ed st.hp i=a6 o->ed d.hp i=a6 o:=fun h=>by
     simp only[bW]at g;obtain⟨c',d,f,hd,z,A,B,hp⟩:=L (n+1) cells st _ h c vs j m p g.2;exact⟨c',d,v::f,hd,z,by simp only[bW];exact⟨dh.le hd.le _ _ g.1,A⟩,B,hp⟩
    obtain⟨t,o⟩:=tc;cases o with
    |false=>exact x (by simpa only[vH] using h)
    |true=>
     cases t with
     |list e=>
      cases v with
      |nils=>
       simp only[vH]at h;replace h:=dQ h;obtain⟨D,h⟩:=h;have D:0<e.size:=by simpa [QN] using D
       obtain⟨id,X,M,O,S,h⟩:=jY h;simp only[bW]at g;have N:=g.1;simp only[dh]at N;subst N;obtain⟨U,q,V,W⟩:=uu j m p M O S (y:=e) D (xs:=[]) (v:=.slice a7 0 0) (w:=c.w) (Below.refl _ _) rH [] ⟨by simp,.inl ⟨rfl,rfl⟩⟩ (by simp[gV]) rfl (fun _=>rfl);obtain⟨c',d,f,hd,z,A,B,hp⟩:=L (n+1) cells _ _ h U vs q.ok q.hp q.nxt (bW.le q.le _ _ g.2);refine⟨c',d,.slc id 0 a7::f,q.trans hd,z.trans V,by simp only[bW];exact⟨dh.le hd.le _ _ W,A⟩,B,fun i o I=>hp i o ?_⟩;have:id≠i:=fun e=>by subst e;rw[M]at I;cases I
       simp only[fF,aq this];exact I
      |_=>exact x (by simpa only[vH] using h)
     |_=>exact x (by simpa only[vH] using h)
theorem aER {g:FuncId} {s:gu} (X:dV P g s) (cl:Bool) (n:Nat):oV (R:=R) P W0 n (Px g s cl):=by
 intro b0 rd Y Z aw st K r h c a ats az j f J ab o next Q hn
 cases Y with
 |fn g' ad=>
  simp only[Px]at h;split at h
  .rename_i hg
   subst hg;simp only[dh]at J;obtain⟨l,rfl,ae⟩:=J;have M:=bW.append_arr ab ae;have ag: ∀p:Ending->World->Prop,(∀d z u i,K z i=a6 r->jG W0 b0 rd d i a ats->dh d z u->c.Mono d->p (.returned u) d.w)->
     (callFunc g' (j++l)).run P c.w=.ok (.enter g' (j++l)) c.w/\Calls P g' (j++l) c.w p:=by
    intro p ai;generalize Z++ad=al at h M;unfold gu.call at h;split at h<;>try (cases h;done)
    rename_i id qs
    split at h<;>try (cases h;done)
    rename_i t cells q
    rw[cond_eq_ite]at h;split at h
    .rw[<-f.hp]at q;obtain⟨hB,N,hw,aj,ak⟩:=f.ok.obj id _ q;obtain⟨d,i,x,hd,aA,an,hK,O⟩:=adu s.cs _ cells st _ h c N.toList f.ok f.hp f.nxt aj;have m:=f.did hd;have A:ed d.hp id=a6 (.box t cells):=by rw[m.hp];exact O id _ (by rw[<-f.hp];exact q)
     obtain⟨o1,y,B⟩:=hd.le.obj id _ (.inl ⟨_,q⟩) A;rw[q]at y;cases y;simp only[dZ.like]at B;have S:dZ.like (.box t cells) (d.mu id) (.box t x) (d.mu id):=rfl;have U: ∀b,(dZ.box t x).blk (d.mu id)=a6 b->(dZ.box t cells).blk (d.mu id)=a6 b\/d.w.heap.size<=b:=fun b hb=>.inl hb;have V: ∀(b:Nat) (L:Loop),(dZ.box t cells).blk (d.mu id)=a6 b->d.w.heap[b]? =a6 (Obj.loop L)-> ∃L':Loop,d.w.heap[b]? =a6 (Obj.loop L'):=fun b L _ hL=>⟨L,hL⟩;have W:=Cx.Le.put (w:=d.w) m.ok A S (af _) (fun b _ _=>rfl) U V;have ao:E9 W0 d i (d.put id (.box t x) (d.mu id) d.w) {i with hp:=jW i.hp id (.box t x)}:=by
      refine⟨by simp only[Cx.put];rw[m.hp],m.nxt,rfl,rfl,Cx.Ok.put m.ok A S m.ok.bel (af _) (fun b _ _=>rfl) U V ?_,W⟩;refine⟨by simp_all [Cx.put,upd_same],N,by simp_all [Cx.put,upd_same],bW.le W _ _ an,ak⟩
     have D:=hd.trans ao;have hG:=aGi X hK (f.did D) (bW.le D.le _ _ M) p fun c3 z u au k1 k2 k3 k4=>ai c3 z u au k1 k2 k3 (D.le.mono.trans k4);change (callFunc g' (j++l)).run P d.w=.ok (.enter g' (j++l)) d.w/\Calls P g' (j++l) d.w p at hG;simp_all
    grind [aGi]
   obtain⟨y,B⟩:=ag (fun e I=>match e with
     |.returned v=>next (a.put o.dst v) I
     |.panicked av=>Q (.panic av) a I
     |.outgrown=>LetsOut Q) (fun d z u i k1 k2 k3 k4=>hn d z u i k1 k2 k3 k4)
   rw[uS,y];exact⟨wu rd,(CB B).mono fun e I he=>by cases e<;>exact he⟩
  .cases h
 |_=>simp[Px]at h
end
end
section
open Option renaming some → a6, none → a7
open Bool renaming and_eq_true → ah
open List renaming length_cons → az, length_nil → aY, all_cons → bn
open Nat renaming le_trans → aK, lt_of_lt_of_le → bF
open Go.RowKit
section
variable {P:Program} {T:TT} {W0:World} {b0:Nat} {rd:Option Nat} {R:Type} {r:R} {c:Cx} {ats:List (Array Value)}
theorem aHv {g:FuncId} {s:Sum} (hs:eX P g s) (cl:Bool) (n:Nat):oV (R:=R) P W0 n (GX g s cl):=by
 intro b0 rd fv aU aV st K r h c a ats aW ae i af ao o next Q hn
 cases fv with
 |fn g' aX=>
  simp only[GX]at h;split at h
  .rename_i hg
   subst hg;simp only[dh]at af;obtain⟨vs,rfl,au⟩:=af;have ag:=bW.append_arr ao au;obtain⟨L,x,y,N,hy,A⟩:=afA h;rw[<-i.hp]at N;obtain⟨z,av,aw,ax⟩: ∃z:Nat->Prop,(∀b,z b->b<c.w.heap.size)/\rQ (lQ c.w z) s.ps x (ae++vs).toList/\
     ((s.rs.all fun r=>r.1.rigid||(r.2&&r.1.elem.rigid))=true\/z=fun b=>b<c.w.heap.size/\ ¬c.free b):=by
    rcases L with L|L
    .refine⟨fun _=>False,fun b h=>h.elim,Cm s.ps _ x _ N ag fun t v x u _ O A=>ain i.ok (fun b m=>⟨Js.2 ⟨m,fun h=>h⟩,rfl⟩) O A,.inl L⟩
    .refine⟨fun b=>b<c.w.heap.size/\ ¬c.free b,fun b h=>h.1,Cm s.ps _ x _ N ag fun t v x u hm O A=>Ko (fun b m=>⟨Js.2 ⟨m.1,fun h=>h.2 m⟩,rfl⟩) ?_ O A,.inr rfl⟩
     grind
   have ay: ∀e B,xC c.w z s.rs y e B->(match e with
     |.returned v=>next (a.put o.dst v) B
     |.panicked aA=>Q (.panic aA) a B
     |.outgrown=>LetsOut Q):= ?_
   .rw[uS];rcases hs c.w z (ae++vs) x y i.ok.phiw av aw hy with ⟨S,U⟩|⟨u,S,U⟩
    .rw[S];exact⟨wu rd,(CB U).mono fun e B he=>by
      grind⟩
    .rw[S];exact ay (.returned u) c.w U
   rintro e B ⟨d,us,rfl,rfl,V,aB,aZ,bb,W⟩;simp only;have D:IP c d.w:=V.bel;have ai: ∀(q:Cx),q.w=d.w->(∀b,(c.at_ d.w).free b->d.free b->q.free b)->((s.rs.all fun r=>r.1.rigid||(r.2&&r.1.elem.rigid))=true\/ ∀b,d.free b->q.free b):=fun q hw hf=>by
    rcases ax with X|X
    .exact .inl X
    .right;intro b m;exact hf b (avT i.ok V (aB.trans X) m) m
   rcases A with ⟨bd,aj,Y⟩|⟨e,f,id,p,be,aj,h5,h6,h7,Y⟩
   .have aF:=i.ext D;refine hn (c.at_ d.w) _ _ _ Y aF (Dq ?_) (Cx.Le.ext D).mono;refine IM (c':=d) (c2:=c.at_ d.w) rfl 0 s.rs y us (fun t ht=> ?_) (.inl aj) W;rcases ai (c.at_ d.w) rfl (fun b h _=>h)with h8|h8
    all_goals grind
   .have aG:=V.obj 0 (.arr e 0 f) (by simp_all [Ij,fF]);obtain⟨aH,el,zs,Z,hL,aI⟩:=aG;have hk:=Dk i.hp i.nxt h5 h6;obtain⟨u0,ak⟩:=afE s.rs y us (by omega) W;simp only[dh]at ak;have ab:ed d.hp 0=a6 (.arr e 0 f):=by simp_all [Ij,fF]
    have aJ:(d.mu 0).v.oneCell'=true:=by
     have:=(ak.2.2 _ _ _ ab).2 rfl;simp_all [jU]
    have hl: ∀b,dZ.blk (.arr e 0 f) ⟨0,(d.mu 0).v⟩=a6 b->c.w.heap.size<=b:=fun b m=>(World.ownsRow.lt Z b m).1;have al:=Cx.Le.push (o:=.arr e 0 f) (l:=⟨0,(d.mu 0).v⟩) (nxt:=p) (w:=d.w) hk (by rw[i.nxt];exact h7) D.size D.block hl;have bf:=ai (c.push id (.arr e 0 f) ⟨0,(d.mu 0).v⟩ p d.w) rfl (fun b ad aO=>⟨ad.1,(by
     rintro ⟨j,o,M,I⟩;simp only[Cx.push,fF]at M I;split at M
     .rename_i J
      subst J;cases M;rw[upd_same]at I;exact aO.2.1 ⟨0,_,ab,I⟩
     .rename_i J
      rw[upd_ne _ _ (Ne.symm J)]at I;exact ad.2.1 ⟨j,o,M,I⟩),ad.2.2⟩)
    have bg:d.w.ownsRow W0.heap.size el e.size (d.mu 0).v f.length zs:=by
     refine⟨Z.1, ?_⟩;rcases Z.2 with h|⟨g,aP,aQ,J,e2,e3⟩
     .exact .inl h
     .exact .inr ⟨g,aP,aQ,J,aK i.ok.size e2,e3⟩
    have ho:(c.push id (.arr e 0 f) ⟨0,(d.mu 0).v⟩ p d.w).ORel W0.heap.size id (.arr e 0 f):=by
     refine⟨aH,el,zs,by simp_all [Cx.push,upd_same],gV.move (c':=d) (c2:=c.push id (.arr e 0 f) ⟨0,(d.mu 0).v⟩ p d.w) rfl ?_ hL,aI⟩
     grind [Qh]
    have aS:=i.ok.push hk (by rw[i.nxt];exact h7) D hl ho;have hd:E9 W0 c st (c.push id (.arr e 0 f) ⟨0,(d.mu 0).v⟩ p d.w) {st with hp:=(id,.arr e 0 f)::st.hp,nxt:=p}:=⟨by simp[Cx.push,i.hp],rfl,rfl,rfl,aS,al⟩;refine hn (c.push id (.arr e 0 f) ⟨0,(d.mu 0).v⟩ p d.w) _ _ _ Y (i.did hd) (Dq ?_) al.mono;refine IM (c':=d) (c2:=c.push id (.arr e 0 f) ⟨0,(d.mu 0).v⟩ p d.w) rfl id s.rs y us (fun t ht=> ?_) (.inr fun u hu=> ?_) W
    .grind
    .simp only[dh]at hu ⊢;have an:=(hu.2.2 _ _ _ ab).2 rfl;simp only[jU]at an;subst an;refine⟨aJ,.inl ⟨.arr e 0 f,by simp[Cx.push,fF]⟩,fun t u bi h=> ?_⟩;simp_all [Cx.push,jU,upd_same]
  .cases h
 |_=>simp[GX]at h
theorem UU: ∀(rs:List (Ty×Bool)),(rs.all fun r=> !r.2&&r.1.rigid)=true->news rs=0
 |[],_=>rfl
 |(t,true)::rs,h=>by simp at h
 |(t,false)::rs,h=>by
  simp only[bn,ah]at h;exact UU rs h.2
theorem aHu {g:FuncId} {s:Sum} (L:eX P g s) (cl:Bool) (M:(s.rs.all fun r=> !r.2&&r.1.rigid)=true):pX (R:=R) P (GX g s cl):=by
 intro W0 b0 rd N ab ad st K r h c a ats ae f i A O;cases N with
 |fn g' af=>
  simp only[GX]at h;split at h
  .rename_i S
   subst S;simp only[dh]at A;obtain⟨j,rfl,U⟩:=A;have V:=bW.append_arr O U;obtain⟨hc,x,y,B,W,l⟩:=afA h;rw[<-i.hp]at B;rcases l with ⟨ag,X,Y⟩|⟨e,xs,id,n',ai,X,_⟩
   .have m:=Vw _ (J4 0 s.rs y M);refine⟨_,rv (OW (qN 0 s.rs y)),Y,(JU m _).2 rfl,fun D d=> ?_⟩;have Z:rQ (lQ D fun _=>False) s.ps x (f++j).toList:=Cm s.ps _ x _ B V fun t v x u _ h1 l=>ain i.ok (fun b I=>⟨Js.2 ⟨bF I d.size,fun h=>h⟩,d.block b I⟩) h1 l;rcases L D (fun _=>False) (f++j) x y (Phi.below d i.ok.phiw) (fun b h=>h.elim) Z W with ⟨p,q⟩|⟨u,p,q⟩
    .refine .inl ⟨g',f++j,by rw[uS,p],q.mono ?_⟩;rintro e aj ⟨c',us,rfl,rfl,J,ak,al,an,z⟩;exact⟨by rw[(JU m _).1 (Dq z)],d.trans (J.bel.mono d.size)⟩
    .obtain⟨c',us,hu,_,J,_,_,_,z⟩:=q;cases hu;right;rw[uS,p,(JU m _).1 (Dq z)]
   simp_all [UU]
  .cases h
 |_=>simp[GX]at h
theorem ay6 {E:Env} (hT:TOk P E.T) (hb: ∀g,E.bf g=true->DN P g) (h: ∀g s,E.sg g=a6 s->eX P g s) (hx: ∀g s,E.sb g=a6 s->dV P g s):yU P E:=
 ⟨hT,fun R W0 n g s d=>aER (hx g s d) E.cl n,hb,fun R W0 n g s d=>aHv (h g s d) E.cl n,fun R g s d e=>aHu (h g s d) E.cl e⟩
def Ha:(d:List Ty)->(d.foldr Ty.pair Ty.unit).den->List cO
 |[],_=>[]
 |t::d,x=>.val t x.1::Ha d x.2
def frozen (hp:iD):cO->cO
 |.val t x=>.val t x
 |.nils=>.nils
 |.slc id ver d=>match ed hp id with
  |some (.arr e v f)=>bif v==ver then .val (.list e) (acR f d)else .undef
  |_=>.undef
 |_=>.undef
def cO.asR (hp:iD) (own:Bool) (t:Ty) (v:cO):Option t.den:=bif own then v.as hp t else match v with
 |.agg l=>bif t.isAgg then I9 t (l.map (frozen hp))else a7
 |v=>v.as hp t
def jQ (own:Bool):(rs:List (Ty×Bool))->List cO->iD->Option ((rs.map (·.1)).foldr Ty.pair Ty.unit).den
 |[],[],_=>a6 ()
 |(t,false)::rs,v::l,d=>match(bif own&&(pG v&& !t.rigid)then a7 else v.asR d own t),jQ own rs l d with
  |some x,a6 y=>a6 (x,y)
  |_,_=>a7
 |(.list e,true)::rs,.slc id ver a7::l,d=>match ed d id with
  |some (.arr t u f)=>bif u==ver then(match mJ (.list e) (t':=.list t) f,jQ own rs l d with
   |some x,a6 y=>a6 (x,y)
   |_,_=>a7)else a7
  |_=>a7
 |_,_,_=>a7
def IR (n:Nat) (v:cO):List cO:=
 match n,v with
 |1,v=>[v]
 |_,.tup l=>l
 |_,_=>[.undef]
def O0 (E:Env) (g:FuncId) (d:List Ty) (rs:List (Ty×Bool)) (x:(d.foldr Ty.pair Ty.unit).den):Option ((rs.map (·.1)).foldr Ty.pair Ty.unit).den:=
 ni E 1000000 (.call g (Ha d x)) ⟨[],[],[],0⟩ fun v st=>jQ (!Nat.beq (news rs) 0) rs (IR rs.length v) st.hp
theorem PG: ∀(d:List Ty) x (us:List Value),rQ c d x us->bW c (Ha d x) us
 |[],x,us,h=>by
  simp_all [rQ,Ha,bW]
 |t::d,x,us,h=>by
  obtain⟨u,e,rfl,f,g⟩:=h;simp only[Ha,bW,dh];exact⟨f,PG d x.2 e g⟩
theorem yw {own:Bool}: ∀(rs:List (Ty×Bool)) (l:List cO) {hp:iD},(jQ own rs l hp).isSome=true->l.length=rs.length
 |[],[],_,_=>rfl
 |[],_::_,_,h=>by simp[jQ]at h
 |(t,false)::rs,[],_,h=>by simp[jQ]at h
 |(t,false)::rs,v::l,hp,h=>by
  simp only[jQ]at h;split at h
  .rename_i d
   simp[yw rs l (hp:=hp) (by rw[d];rfl)]
  .cases h
 |(t,true)::rs,[],_,h=>by simp_all [jQ]
 |(t,true)::rs,v::l,hp,h=>by
  cases t with
  |list e=>
   cases v with
   |slc id ver f=>
    cases f with
    |none=>
     simp only[jQ]at h;split at h
     .rw[cond_eq_ite]at h;split at h
      .split at h
       .rename_i d
        simp[yw rs l (hp:=hp) (by rw[d];rfl)]
       .cases h
      .cases h
     .cases h
    |some p=>simp[jQ]at h
   |_=>simp[jQ]at h
  |_=>simp[jQ]at h
theorem GG {own:Bool} {v:cO} {u:Value} {rs:List (Ty×Bool)} {hp:iD} (h:(jQ own rs (IR rs.length v) hp).isSome=true) (d:dh c v u): ∃us,u=QP us/\bW c (IR rs.length v) us:=by
 match rs,h with
 |[t],h=>exact⟨[u],rfl,by simpa [IR,bW] using d⟩
 |[],h=>
  cases v with
  |tup l=>
   simp only[aY,IR]at h ⊢;cases l with
   |nil=>
    simp only[dh]at d;obtain⟨e,rfl,f⟩:=d;have:e= #[]:=by
     have:=bW.length _ _ f
     grind
    subst this;exact⟨[],rfl,by simp[bW]⟩
   |cons _ _=>simp[jQ]at h
  |_=>simp[IR,jQ]at h
 |g::i::rs,h=>
  cases v with
  |tup l=>
   simp only[dh]at d;obtain⟨e,rfl,f⟩:=d;have m:=bW.length _ _ f;have p:l.length=(g::i::rs).length:=yw _ _ h;simp only[az,IR];refine⟨e.toList, ?_,f⟩;cases hvs:e.toList with
   |nil=>simp_all
   |cons v1 j=>
    cases j with
    |nil=>simp_all
    |cons v2 q=>simp only[QP];rw[<-hvs]
  |_=>
   exfalso;have:=yw _ _ h;simp[IR]at this
end
end
section
open Option renaming some → a6, none → a7
open Bool renaming and_eq_true → ah
open List renaming map_cons → ay, length_map → aJ
open Nat renaming le_refl → af, eq_of_beq_eq_true → ax
open Go.RowKit
structure gm (E:Env):Prop where
 T:TOk E.P E.T
 m:E.P.follows .mixedOrders=true
 ng:J8 E.P
 S: ∀g s,E.sg g=a6 s->eX E.P g s
 L:vG E.P E
 R:afM E
 B: ∀g,E.bf g=true->DN E.P g
 X: ∀g s,E.sb g=a6 s->dV E.P g s
def aID (rs:List (Ty×Bool)):Bool:=Nat.ble (news rs) 1&&rs.all fun r=> !r.2||(match r.1 with|.list e=>Nat.blt 0 e.size|_=>false)
section
variable {P:Program} {T:TT} {W0:World} {b0:Nat} {rd:Option Nat} {R:Type} {r:R} {c:Cx} {ats:List (Array Value)}
theorem CJ {E:Env} (h:gm E) (m:Nat) (R:Type) (W0:World):xB E.P W0 (ni E m (R:=R)):=
 (JA h.T h.m h.ng rfl rfl (ay6 h.T h.B h.S h.X) h.L h.R m R W0).1
theorem yC {w:World} {e:Nat->Prop} (f:Phi w) (hb: ∀b,e b->b<w.heap.size):jG w 0 a7 (lQ w e) ⟨[],[],[],0⟩ ⟨#[],[]⟩ []:=
 ⟨rfl,rfl,⟨Below.refl _ _,fun id o h=>by simp[lQ,ed]at h,fun i j o p b h=>by simp[lQ,ed]at h,fun r d=>by simp[lQ]at d,fun b h=>⟨hb b h,(by rintro ⟨i,o,h,_⟩;simp[lQ,ed]at h),by simp[lQ]⟩,f⟩,by simp[lQ,bW],trivial,⟨[],rfl,List.nodup_nil,fun r d=>by simp at d⟩,fun l g=>by cases g⟩
theorem abZ {own:Bool} {c':Cx} (m:c'.w=c.w) (hf: ∀b,c.free b->c'.free b) (A:own=false-> ∀b,b<c.w.heap.size-> ¬c.bar b->c'.free b) {t:Ty} {v:cO} {x:t.den} {u:Value} (z:c.Ok W0)
  (h:(bif own&&(pG v&& !t.rigid)then a7 else v.asR c.hp own t)=a6 x) (d:dh c v u):VD c' t x u:=by
 have p: ∀b,c.free b->c'.free b/\c'.w.heap[b]? =c.w.heap[b]? :=fun b B=>⟨hf b B,by rw[m]⟩;rw[cond_eq_ite]at h;split at h
 .cases h
 rename_i W
 have D: ∀{id g i} {u:Value} {e:Ty} {x:List e.den},own=false->(cO.slc id g i).as c.hp (.list e)=a6 x->dh c (.slc id g i) u->VD c' (.list e) x u:=fun {id g i u e x} I h d=>by
  obtain⟨a,cp,J,j,q,K⟩:=VH z h d;have L:=acb z h d j;exact(VD.leaf rfl).2 ⟨a,cp,J,by rw[j],L,gV.mono (fV.mono p e) _ _ q,K.imp (fun h=>h) fun⟨b,off,M,N,O,S⟩=>⟨b,off,M,A I b N O,S.of_block (by rw[m])⟩⟩
 cases own with
 |true=>
  have h:v.as c.hp t=a6 x:=h;cases ho:pG v with
  |false=>exact Ko p ho h d
  |true=>
   cases v with
   |slc id g i=>
    cases t with
    |list e=>grind [Ty.rigid]
    |_=>simp[cO.as]at h
   |agg l=>
    simp only[cO.as]at h;rw[cond_eq_ite]at h;split at h
    .rename_i y
     simp only[dh]at d;obtain⟨f,rfl,j,q⟩:=d;exact VD.move m (.inl hf) ((VD.agg y).2 ⟨f,rfl,qZ h j⟩)
    .cases h
   |_=>simp[pG]at ho
 |false=>
  cases v with
  |slc id g i=>
   have h:(cO.slc id g i).as c.hp t=a6 x:=h;cases t with
   |list e=>grind
   |_=>simp[cO.as]at h
  |agg l=>
   have h:(bif t.isAgg then I9 t (l.map (frozen c.hp))else a7)=a6 x:=h;obtain⟨y,h⟩:=dQ h;simp only[dh]at d;obtain⟨f,rfl,j,q⟩:=d;have U: ∀(l:List cO) (f:List Value),bW c l f->bW c' (l.map (frozen c.hp)) f:=by
    intro l
    induction l with
    |nil=>grind [bW]
    |cons v l V=>intro f h;cases f with
     |nil=>simp[bW]at h
     |cons u f=>
      simp only[bW,ay]at h ⊢;refine⟨?_,V f h.2⟩;have d:=h.1;cases v with
      |val t x=>
       grind [frozen,dh,VD.move]
      |nils=>assumption
      |slc id g i=>
       simp only[frozen];split
       .rename_i e v X Y
        rw[cond_eq_ite];split
        .rename_i Z
         simp only[dh];refine D rfl ?_ d;simp_all [cO.as,DY,iw]
        .simp[dh]
       .simp[dh]
      |_=>simp[frozen,dh]
   exact(VD.agg y).2 ⟨f,rfl,qZ h (U l _ j)⟩
  |_=>
   simp only[cO.asR,ac]at h;exact Ko p rfl h d
theorem abY {own:Bool} {c':Cx} (f:c.Ok W0) (g:c'.w=c.w) (hf: ∀b,c.free b->c'.free b) (i:own=false-> ∀b,b<c.w.heap.size-> ¬c.bar b->c'.free b): ∀(rs:List (Ty×Bool)) (l:List cO) (y) (us:List Value),jQ own rs l c.hp=a6 y->news rs=0->bW c l us->bW c' (qN 0 rs y) us
 |[],[],y,[],_,_,_=>by simp[qN,bW]
 |[],[],_,_::_,_,_,d=>by simp[bW]at d
 |[],_::_,_,_,h,_,_=>by simp[jQ]at h
 |(t,true)::rs,_,_,_,_,e,_=>by simp[news]at e
 |(t,false)::rs,[],_,_,h,_,_=>by simp[jQ]at h
 |(t,false)::rs,v::l,y,[],h,_,d=>by simp[bW]at d
 |(t,false)::rs,v::l,y,u::us,h,e,d=>by
  simp only[jQ]at h;split at h
  .rename_i x j m p
   cases h;simp only[bW]at d;simp only[qN,bW,dh];exact⟨abZ g hf i f m d.1,abY f g hf i rs l j us p (by simpa [news] using e) d.2⟩
  .cases h
theorem akT (A:c.Ok W0): ∀(rs:List (Ty×Bool)) (l:List cO) (y) (us:List Value),jQ true rs l c.hp=a6 y->news rs=1->bW c l us->
  ∃(id f:Nat) (e:Ty) (xs:List e.den),ed c.hp id=a6 (.arr e f xs)/\Au rs y=a6 ⟨e,xs⟩/\
   ∀c':Cx,c'.w=c.w->(∀b,c.free b->c'.free b)->c'.hp=[(0,.arr e 0 xs)]->(c'.mu 0).v=(c.mu id).v->bW c' (qN 0 rs y) us
 |[],_,_,_,_,g,_=>by simp[news]at g
 |(t,false)::rs,[],_,_,h,_,_=>by simp[jQ]at h
 |(t,false)::rs,v::l,y,[],h,_,d=>by simp[bW]at d
 |(t,false)::rs,v::l,y,u::us,h,g,d=>by
  simp only[jQ]at h;split at h
  .rename_i x j i m
   cases h;simp only[bW]at d;obtain⟨id,f,e,xs,k1,k2,k3⟩:=akT A rs l j us m (by simpa [news] using g) d.2;refine⟨id,f,e,xs,k1,k2,fun c' B D I K=> ?_⟩
   grind [qN,bW,dh,abZ]
  .cases h
 |(t,true)::rs,[],_,_,h,_,_=>by simp_all [jQ]
 |(t,true)::rs,v::l,y,[],h,_,d=>by simp[bW]at d
 |(t,true)::rs,v::l,y,u::us,h,g,d=>by
  cases t with
  |list e=>
   cases v with
   |slc id f L=>
    cases L with
    |none=>
     simp only[jQ]at h;split at h
     .rename_i O w xs J
      rw[cond_eq_ite]at h;split at h
      .rename_i q
       have q:w=f:=by simpa using q
       subst q;split at h
       .rename_i x j i m
        cases h;have M:=jo i;cases M;rw[iw]at i;cases i;simp only[bW]at d;refine⟨id,w,e,x,J,rfl,fun c' B D I K=> ?_⟩;simp only[qN,bW];refine⟨?_,abY A B D (fun h=>by cases h) rs l j us m (by simpa [news] using g) d.2⟩;have z:=d.1;simp only[dh]at z ⊢;have N:=(z.2.2 _ _ _ J).2 rfl;simp only[jU]at N;refine⟨z.1,.inl ⟨.arr e 0 x,by rw[I];simp[fF]⟩,fun t S U h=> ?_⟩;simp_all [jU]
       .cases h
      .cases h
     .cases h
    |some p=>simp[jQ]at h
   |_=>simp[jQ]at h
  |_=>simp[jQ]at h
theorem UT: ∀(rs:List (Ty×Bool)) y,news rs=0->Au rs y=a7
 |[],_,_=>rfl
 |(t,true)::rs,_,h=>by simp[news]at h
 |(t,false)::rs,y,h=>UT rs y.2 (by simpa [news] using h)
theorem MQ (g:c.Ok W0) {rs:List (Ty×Bool)} {l:List cO} {y} {us:List Value} (h:jQ (!Nat.beq (news rs) 0) rs l c.hp=a6 y) (J:news rs<=1) (x:bW c l us):
  ∃c':Cx,c'.w=c.w/\c'.Ok W0/\c'.bar=c.bar/\c'.mks=[]/\c'.hp=Ij rs y/\bW c' (qN 0 rs y) us:=by
 by_cases q:news rs=0
 .let c':Cx:=⟨c.mu,[],c.nxt,c.w,[],c.bar⟩
  have u: ∀b,c.free b->c'.free b:=fun b f=>⟨f.1,(by rintro ⟨i,o,h,_⟩;simp[c',ed]at h),by simp[c'],f.2.2.2⟩;exact⟨c',rfl,⟨g.bel,fun id o h=>by simp[c',ed]at h,fun i j o p b h=>by simp[c',ed]at h,fun r v=>by simp[c']at v,fun b f=>⟨(g.bar b f).1,(by rintro ⟨i,o,h,_⟩;simp[c',ed]at h),by simp[c']⟩,g.phi⟩,rfl,rfl,by rw[Ij,UT rs y q],abY g (c':=c') rfl u (fun _ b d m=>⟨d,(by rintro ⟨i,o,h,_⟩;simp[c',ed]at h),by simp[c'],m⟩) rs l y us h q x⟩
 .have z:news rs=1:=by omega
  rw[show(!Nat.beq (news rs) 0)=true by rw[z];rfl]at h;obtain⟨id,K,e,A,k1,k2,k3⟩:=akT g rs l y us h z x
  let c':Cx:=⟨fun _=>c.mu id,[(0,.arr e 0 A)],c.nxt,c.w,[],c.bar⟩
  have u: ∀b,c.free b->c'.free b:=fun b f=>⟨f.1,(by
   rintro ⟨i,o,d,m⟩;simp only[c',fF]at d m;split at d
   .cases d;exact f.2.1 ⟨id,_,k1,m⟩
   .simp[ed]at d),by simp[c'],f.2.2.2⟩
  refine⟨c',rfl,⟨g.bel,fun i o h=> ?_,fun i j o p b d m _ _=> ?_,fun r v=>by simp[c']at v,fun b f=>⟨(g.bar b f).1,(by
   rintro ⟨i,o,d,m⟩;simp only[c',fF]at d m;split at d
   .cases d;exact(g.bar b f).2.1 ⟨id,_,k1,m⟩
   .simp[ed]at d),by simp[c']⟩,g.phi⟩,rfl,rfl,by rw[Ij,k2],k3 c' rfl u rfl rfl⟩
  .simp only[c',fF]at h;split at h
   .cases h;obtain⟨q,B,D,d,m,I⟩:=g.obj id _ k1;exact⟨q,B,D,d,gV.mono (fV.mono (fun b f=>⟨u b f,rfl⟩) e) _ _ m,I⟩
   .simp[ed]at h
  grind [ed]
theorem DI {E:Env} (j:gm E) {g:FuncId} {s:Sum} (l:news s.rs<=1) (h: ∀x y,s.f x=a6 y->O0 E g s.ps s.rs x=a6 y) (w:World) (d:Nat->Prop) (e:Array Value) (x) (y) (m:Phi w) (p: ∀b,d b->b<w.heap.size)
  (q:rQ (lQ w d) s.ps x e.toList) (v:s.f x=a6 y):(callFunc g e).run E.P w=.ok (.enter g e) w/\Calls E.P g e w (xC w d s.rs y):=by
 have i:=h x y v;unfold O0 at i;refine CJ j 1000000 _ w g (Ha s.ps x) _ _ y i 0 a7 (lQ w d) ⟨#[],[]⟩ [] e (yC m p) (PG _ _ _ q) (xC w d s.rs y) fun N z u O k1 k2 k3 k4=> ?_;obtain⟨us,rfl,A⟩:=GG (by rw[k1];rfl) k3;rw[<-k2.hp]at k1;obtain⟨B,D,I,J,K,L,M⟩:=MQ k2.ok k1 l A;exact⟨B,us,rfl,D,I,J.trans k4.bar,K,L,M⟩
theorem V4 {E:Env} (d:gm E) {g:FuncId} {s:Sum} (e:news s.rs<=1) (h: ∀x y,s.f x=a6 y->O0 E g s.ps s.rs x=a6 y):eX E.P g s:=fun w i j x y l m p q=>.inl (DI d e h w i j x y l m p q)
theorem ac8 {E:Env} (i:gm E) {g:FuncId} {d:List Ty} {x:(d.foldr Ty.pair Ty.unit).den} {t:Ty} {y:t.den} (v:t.rigid=true) (h:O0 E g d [(t,false)] x=a6 (y,())) {w:World} {args:Array Value} (j:rQ (lQ w fun _=>False) d x args.toList) (l:Phi w:=by exact trivial):
  Calls E.P g args w fun e w'=>e=.returned (KC t y)/\Below w.heap.size w w':=by
 obtain⟨_,m⟩:=DI i (g:=g) (s:=⟨d,[(t,false)],fun p=>O0 E g d [(t,false)] p⟩) (by simp[news]) (fun x y h=>h) w (fun _=>False) args x (y,()) l (fun b h=>h.elim) j h;refine m.mono ?_;rintro e w' ⟨z,us,rfl,rfl,q,_,_,_,f⟩;refine⟨?_,q.bel⟩;cases us with
 |nil=>simp[qN,bW]at f
 |cons u us=>
  cases us with
  |cons _ _=>simp[qN,bW]at f
  |nil=>
   simp_all [qN,bW,dh,QP,VD.rigid]
theorem aEU {E:Env} (I:gm E) {g:FuncId} {e e2:Ty} (J:0<e.size) {f:List e.den->Option (List e2.den)} (K: ∀xs y,f xs=a6 y->ni E 1000000 (.call g [.lst e xs false]) ⟨[],[],[],0⟩ (fun v st=>jQ false [(.list e2,false)] (IR 1 v) st.hp)=a6 (y,()))
  (h2: ∀y,f []=a6 y->ni E 1000000 (.call g [.lst e [] true]) ⟨[],[],[],0⟩ (fun v st=>jQ false [(.list e2,false)] (IR 1 v) st.hp)=a6 (y,())):
  eX E.P g ⟨[.list e],[(.list e2,false)],fun x=>match f x.1 with|some y=>a6 (y,())|none=>a7⟩:=fun w i m x y L M N d=>.inl (by
 obtain⟨u,O,S,U,V⟩:=N;obtain⟨a,n,W,p,q,j,A⟩:=qH U;simp only at d;split at d
 .rename_i B X
  cases d;have Y:ni E 1000000 (.call g [.lst e x.1 a.isNone]) ⟨[],[],[],0⟩ (fun v st=>jQ false [(.list e2,false)] (IR 1 v) st.hp)=a6 (B,()):=by
   cases ha:a with
   |some _=>exact K _ _ X
   |none=>
    have Z:W=[]:=by
     simp_all
    have D:=gV.length _ _ j;rw[Z]at D;have ad:x.1=[]:=by
     cases hxx:x.1 with
     |nil=>rfl
     |cons a l=>rw[hxx]at D;have:=Nat.mul_pos (show 0<(a::l).length by simp) J;simp_all
    grind
  have hv:bW (lQ w i) [.lst e x.1 a.isNone] m.toList:=by
   rw[S,show O=[] from V];simp only[bW,dh,and_true];simp_all
  refine CJ I 1000000 _ w g [.lst e x.1 a.isNone] _ _ _ Y 0 a7 (lQ w i) ⟨#[],[]⟩ [] m (yC L M) hv (xC w i [(.list e2,false)] (B,())) fun c1 z u ab k1 k2 k3 k4=> ?_;obtain⟨us,rfl,h3⟩:=GG (own:=false) (rs:=[(.list e2,false)]) (hp:=ab.hp) (by grind) k3;rw[<-k2.hp]at k1;obtain⟨c',p,q,j,A,q5,q6⟩:=MQ (rs:=[(.list e2,false)]) k2.ok k1 (by simp[news]) h3;exact⟨c',us,rfl,p,q,j.trans k4.bar,A,q5,q6⟩
 .cases d)
theorem avU {E:Env} (D:gm E) {g:FuncId} {e e2:Ty} (I:0<e.size) {f:List e.den->Option (List e2.den)} (h0:f []=a7) (J: ∀xs y,f xs=a6 y->ni E 1000000 (.call g [.lst e xs false]) ⟨[],[],[],0⟩ (fun v st=>jQ true [(.list e2,true)] (IR 1 v) st.hp)=a6 (y,())):
  eX E.P g ⟨[.list e],[(.list e2,true)],fun x=>match f x.1 with|some y=>a6 (y,())|none=>a7⟩:=fun w i m x y K L M d=>.inl (by
 obtain⟨u,N,O,S,U⟩:=M;obtain⟨a,n,V,p,q,j,A⟩:=qH S;simp only at d;split at d
 .rename_i W X
  cases d;have Y:a.isNone=false:=by
   cases Y:a with
   |some _=>rfl
   |none=>
    have Z:V=[]:=by
     simp_all
    have B:=gV.length _ _ j;rw[Z]at B;have ae:x.1=[]:=by
     cases hxx:x.1 with
     |nil=>rfl
     |cons a l=>rw[hxx]at B;have:=Nat.mul_pos (show 0<(a::l).length by simp) I;simp_all
    simp_all
  have ab:=J _ _ X;have hv:bW (lQ w i) [.lst e x.1 false] m.toList:=by
   rw[O,show N=[] from U];simp_all [bW,dh]
  refine CJ D 1000000 _ w g [.lst e x.1 false] _ _ _ ab 0 a7 (lQ w i) ⟨#[],[]⟩ [] m (yC K L) hv (xC w i [(.list e2,true)] (W,())) fun c1 z u ad k1 k2 k3 k4=> ?_;obtain⟨us,rfl,h3⟩:=GG (own:=true) (rs:=[(.list e2,true)]) (hp:=ad.hp) (by grind) k3;rw[<-k2.hp]at k1;obtain⟨c',p,q,j,A,q5,q6⟩:=MQ (rs:=[(.list e2,true)]) k2.ok k1 (by simp[news]) h3;exact⟨c',us,rfl,p,q,j.trans k4.bar,A,q5,q6⟩
 .cases d)
theorem E5 {E:Env} (S:gm E) {g:FuncId} {e e2:Ty} (Z:0<e.size) (ab:0<e2.size) {f:List e.den->Option (List e2.den)} (h1: ∀xs y,f xs=a6 y->ni E 1000000 (.call g [.lst e xs false]) ⟨[],[],[],0⟩ (fun v st=>jQ true [(.list e2,true)] (IR 1 v) st.hp)=a6 (y,()))
  (h2: ∀y,f []=a6 y->y=[]/\ni E 1000000 (.call g [.lst e [] true]) ⟨[],[],[],0⟩ (fun v st=>match v,st.hp with|.nils,[]=>a6 ()|_,_=>a7)=a6 ()):
  eX E.P g ⟨[.list e],[(.list e2,true)],fun x=>match f x.1 with|some y=>a6 (y,())|none=>a7⟩:=fun w i D x y U V ad m=>.inl (by
 obtain⟨u,ae,hu,hx,ag⟩:=ad;obtain⟨a,n,zs,p,q,j,A⟩:=qH hx;simp only at m;split at m
 .rename_i y' I
  cases m;have B:bW (lQ w i) [.lst e x.1 a.isNone] D.toList:=by
   rw[hu,show ae=[] from ag];simp only[bW,dh,and_true];simp_all
  cases ha:a.isNone with
  |true=>
   have hz:zs=[]:=by
    simp_all
   have W:=gV.length _ _ j;rw[hz]at W;have X:x.1=[]:=by
    cases hxx:x.1 with
    |nil=>rfl
    |cons a l=>rw[hxx]at W;have:=Nat.mul_pos (show 0<(a::l).length by simp) Z;simp_all
   rw[ha,X]at B;rw[X]at I;obtain⟨rfl,J⟩:=h2 _ I;refine CJ S 1000000 _ w g [.lst e [] true] _ _ _ J 0 a7 (lQ w i) ⟨#[],[]⟩ [] D (yC U V) B (xC w i [(.list e2,true)] ([],())) fun c1 z u d k1 k2 k3 k4=> ?_;split at k1
   .rename_i ak ai
    simp only[dh]at k3;obtain⟨Y,K,d2,d3⟩:=uu (W0:=w) k2.ok k2.hp k2.nxt (id:=d.nxt) (n':=d.nxt+1) (by rw[ai];rfl) (af _) (by omega) ab (xs:=[]) (Below.refl _ _) (if e2=.int .u8 then rH else 0) [] (World.ownsRow_nil _ _ _ _) (by simp[gV]) (v:=.slice a7 0 0) rfl (fun h=>by simp[h]);have aj:jQ true [(.list e2,true)] [.slc d.nxt 0 a7] Y.hp=a6 (([],()):List e2.den×Unit):=by
     rw[K.hp];simp only[jQ,ed,beq_self_eq_true,Nat.beq_refl,aa,iw];rfl
    have L:bW Y [.slc d.nxt 0 a7] [.slice a7 0 0]:=by simp_all [bW]
    obtain⟨M,p,q,j,A,N,O⟩:=MQ (rs:=[(.list e2,true)]) K.ok aj (by simp[news]) L;exact⟨M,[.slice a7 0 0],by rw[k3];rfl,p.trans d2,q,j.trans (K.le.bar.trans k4.bar),A,N,O⟩
   .cases k1
  |false=>
   rw[ha]at B;have J:=h1 _ _ I;refine CJ S 1000000 _ w g [.lst e x.1 false] _ _ _ J 0 a7 (lQ w i) ⟨#[],[]⟩ [] D (yC U V) B (xC w i [(.list e2,true)] (y',())) fun c1 z u d k1 k2 k3 k4=> ?_;obtain⟨us,rfl,L⟩:=GG (own:=true) (rs:=[(.list e2,true)]) (hp:=d.hp) (by grind) k3;rw[<-k2.hp]at k1;obtain⟨M,p,q,j,A,N,O⟩:=MQ (rs:=[(.list e2,true)]) k2.ok k1 (by simp[news]) L;exact⟨M,us,rfl,p,q,j.trans k4.bar,A,N,O⟩
 .cases m)
theorem aIG {P:Program} {g:FuncId} {d:List Ty} {rs:List (Ty×Bool)} {f i:(d.foldr Ty.pair Ty.unit).den->Option ((rs.map (·.1)).foldr Ty.pair Ty.unit).den} (c:(d.foldr Ty.pair Ty.unit).den->Bool) (u:eX P g ⟨d,rs,f⟩) (h2:eX P g ⟨d,rs,i⟩):
  eX P g ⟨d,rs,fun x=>bif c x then f x else i x⟩:=fun w j l x y m p q e=>by
 cases hc:c x with
 |true=>simp only[hc,aa]at e;exact u w j l x y m p q e
 |false=>simp only[hc,ac]at e;exact h2 w j l x y m p q e
def Xa:(rs:List Ty)->List cO->iD->Option (rs.foldr Ty.pair Ty.unit).den
 |[],[],_=>a6 ()
 |t::rs,v::l,d=>match(bif true&&(pG v&& !t.rigid)then a7 else v.as d t),Xa rs l d with
  |some x,a6 y=>a6 (x,y)
  |_,_=>a7
 |_,_,_=>a7
def atY (E:Env) (g:FuncId) (d:TypeId) (cs:List (Ty×Bool)) (e rs:List Ty) (x:((cs.map (·.1)).foldr Ty.pair Ty.unit).den) (y:(e.foldr Ty.pair Ty.unit).den):Option (((cs.map (·.1)).foldr Ty.pair Ty.unit).den×(rs.foldr Ty.pair Ty.unit).den):=
 ni E 1000000 (.call g (.ptr 0 0::KF e y)) ⟨[.ptr 0 0],[],(0,.box d (IQ cs (jV cs 1) x))::wC cs (jV cs 1) x,0⟩ fun v st=>match st.fr with
  |[.ptr 0 0]=>match ed st.hp 0 with
   |some (.box t cells)=>bif Nat.beq t d&&UW ((ru cs cells).map (·.1))then(match lL st.hp true cs cells with
    |some f=>match Xa rs (IR rs.length v) st.hp with
     |some i=>a6 (f,i)
     |none=>a7
    |none=>a7)else a7
   |_=>a7
  |_=>a7
theorem Yf: ∀(rs:List Ty) (l:List cO) {hp:iD},(Xa rs l hp).isSome=true->(jQ true (rs.map fun t=>(t,false)) l hp).isSome=true
 |[],[],_,_=>rfl
 |[],_::_,_,h=>by simp[Xa]at h
 |_::_,[],_,h=>by simp[Xa]at h
 |t::rs,v::l,hp,h=>by
  simp only[Xa]at h;split at h
  .rename_i x y d e
   have:=Yf rs l (hp:=hp) (by rw[e];rfl);change @Option.isSome ((((t,false)::rs.map fun t=>(t,false)).map (·.1)).foldr Ty.pair Ty.unit).den (jQ true ((t,false)::rs.map fun t=>(t,false)) (v::l) hp)=true;rw[jQ];rw[show cO.asR hp true t v=v.as hp t from rfl,d];cases h3:jQ true (rs.map fun t=>(t,false)) l hp with
   |none=>simp_all
   |some z=>rfl
  .cases h
theorem ae6 (e:c.Ok W0): ∀(rs:List Ty) (l:List cO) (z) (us:List Value),Xa rs l c.hp=a6 z->bW c l us->rQ c rs z us
 |[],[],z,[],_,_=>rfl
 |[],[],_,_::_,_,d=>by simp[bW]at d
 |[],_::_,_,_,h,_=>by simp[Xa]at h
 |_::_,[],_,_,h,_=>by simp[Xa]at h
 |t::rs,v::l,z,[],_,d=>by simp[bW]at d
 |t::rs,v::l,z,u::us,h,d=>by
  simp only[Xa]at h;split at h
  .rename_i x y f g
   cases h;simp only[bW]at d;exact⟨u,us,rfl,abZ (own:=true) (c':=c) rfl (fun b h=>h) (fun h=>by cases h) e f d.1,ae6 e rs l y us g d.2⟩
  .cases h
theorem afy {E:Env} (M:gm E) {g:FuncId} {s:gu} (h: ∀x y z,s.f x y=a6 z->atY E g s.bt s.cs s.ps s.rs x y=a6 z):dV E.P g s:=fun W0 c x y z N ab O p S d U=>by
 have q:=h x y z U;unfold atY at q;obtain⟨us⟩:=S;cases us with
 |nil=>simp[bW]at d
 |cons u0 us=>
 have A:=d;simp only[bW]at A;obtain⟨B,_⟩:=A;have e:jG W0 0 a7 c ⟨[.ptr 0 0],[],(0,.box s.bt (IQ s.cs (jV s.cs 1) x))::wC s.cs (jV s.cs 1) x,0⟩ ⟨#[u0],[]⟩ []:=
  ⟨p,O,N,by simp_all [bW],trivial,⟨[],rfl,List.nodup_nil,fun r e=>by simp at e⟩,fun l V=>by cases V⟩
 refine CJ M 1000000 _ W0 g (.ptr 0 0::KF s.ps y) _ _ z q 0 a7 c ⟨#[u0],[]⟩ [] ⟨u0::us⟩ e d (azc W0 c s z) fun W v u X k1 k2 k3 k4=> ?_;split at k1<;>try (cases k1;done)
 rename_i Y
 split at k1<;>try (cases k1;done)
 rename_i t cells i
 replace k1:=dQ k1;obtain⟨D,k1⟩:=k1;simp only[ah]at D;obtain⟨j,Z⟩:=D;have j:t=s.bt:=ax j;subst j;split at k1<;>try (cases k1;done)
 rename_i x' I
 split at k1<;>try (cases k1;done)
 rename_i z' J
 cases k1;obtain⟨K,rfl,L⟩:=GG (own:=true) (rs:=s.rs.map fun t=>(t,false)) (hp:=X.hp) (by simp_all [Yf]) k3;rw[aJ]at L;rw[<-k2.hp]at i I J;refine⟨W,K,cells,rfl,rfl,k2.ok,k4,i, ?_,F8 Z,I,ae6 k2.ok s.rs _ z' K J L⟩;have m:=k2.fr;rw[Y]at m;simp only[bW,dh,and_true]at m;simp only[dh]at B;have e1:=m.2.2 _ _ i;have e2:=B.2.2 _ _ (by rw[p];simp[fF];exact⟨rfl,rfl⟩);simp_all
end
end
section
open Go.RowKit
def avQ:Sum:=⟨[.str,.int .u8],[(.int .i64,false)],fun x=>some (Lib.indexByte x.1 x.2.1.toNat.toUInt8,())⟩
theorem Kt {w:World} {d:Nat->Prop} (e:Phi w) (hb: ∀b,d b->b<w.heap.size):(lQ w d).Ok w:=(yC e hb).ok
theorem afz {P:Program} {g:FuncId} {fn:Func} (hf:P.funcs[g]? =some fn) (e:(fn.name== "runtime.NumGoroutine")=false) (hb:fn.body.isNone=true) (f:Extern.findNext fn=none)
  (i:Extern.find fn=some Extern.BytealgIndexByte.indexByte):eX P g avQ:=by
 intro w j l x y m p q v;obtain⟨u,M,N,z,A,O,B,D,d⟩:=q;simp only[rQ]at d;subst d B;have I:l= #[u,A]:=by
  grind
 subst I;have J:=z.str_inv;have K:=D.int_inv;subst J K;have L:=Option.some.inj v;subst L;refine .inr ⟨_,by rw[run_callFunc_extern hf e hb f i,Lib.run_indexByteString];rfl,lQ w j,[_],rfl,rfl,Kt m p,rfl,rfl,rfl, ?_⟩;simp_all [avQ,qN,bW,dh,VD.int_mk]
def avP:Sum:=⟨[.str,.str],[(.int .i64,false)],fun x=>some (Lib.compareBytes x.1 x.2.1,())⟩
theorem aFo {P:Program} {g:FuncId} {fn:Func} (hf:P.funcs[g]? =some fn) (e:(fn.name== "runtime.NumGoroutine")=false) (hb:fn.body.isNone=true) (f:Extern.findNext fn=none)
  (i:Extern.find fn=some Extern.BytealgCompare.compare):eX P g avP:=by
 intro w j l x y m p q v;obtain⟨u,M,N,z,A,O,B,D,d⟩:=q;simp only[rQ]at d;subst d B;have I:l= #[u,A]:=by
  grind
 subst I;have J:=z.str_inv;have K:=D.str_inv;subst J K;have L:=Option.some.inj v;subst L;refine .inr ⟨_,by rw[run_callFunc_extern hf e hb f i,Lib.run_compareString];rfl,lQ w j,[_],rfl,rfl,Kt m p,rfl,rfl,rfl, ?_⟩;simp_all [avP,qN,bW,dh,VD.int_mk]
end
section
open Option renaming some → a6, none → a7
open Bool renaming and_eq_true → ah, false_eq_true → ai
open List renaming mem_cons_of_mem → aB, mem_cons_self → aU
open Nat renaming eq_of_beq_eq_true → ax
open Go.RowKit
inductive FK where
 |u
 |v (t:Ty)
 |slc (id:Nat)
 |ptr (id off:Nat)
 |nils
 |slf (id:Nat)
 |yld (id:Nat)
 |nilp
 |e
 |fn (f:FuncId) (caps:List (Nat×Nat))
 |cp (t:Ty)
 |mpv (id:Nat)
 |mfn (f:FuncId) (fst:List (Nat×Nat))
 |kb (b:Bool)
def us (l:List FK) (n:Nat):List FK:=l++List.replicate n .u
def FKs.den:List FK->Ty
 |[]=>.unit
 |.v t::l=>.pair t (FKs.den l)
 |.u::l=>FKs.den l
 |.slc _::l=>FKs.den l
 |.ptr _ _::l=>FKs.den l
 |.nils::l=>FKs.den l
 |.slf _::l=>FKs.den l
 |.mpv _::l=>FKs.den l
 |.mfn _ _::l=>FKs.den l
 |.kb _::l=>FKs.den l
 |.yld _::l=>FKs.den l
 |.nilp::l=>FKs.den l
 |.e::l=>FKs.den l
 |.fn _ _::l=>FKs.den l
 |.cp t::l=>.pair t (FKs.den l)
def OU:List (Nat×Nat)->List cO
 |[]=>[]
 |(i,o)::l=>.ptr i o::OU l
def WB:(l:List FK)->(FKs.den l).den->List cO
 |[],_=>[]
 |.v t::l,y=>.val t y.1::WB l y.2
 |.u::l,y=>.undef::WB l y
 |.slc id::l,y=>.slc id 0 a7::WB l y
 |.ptr id off::l,y=>.ptr id off::WB l y
 |.nils::l,y=>.nils::WB l y
 |.slf id::l,y=>.slf id::WB l y
 |.mpv id::l,y=>.mpv id::WB l y
 |.mfn f c::l,y=>.mfn f (OU c)::WB l y
 |.kb b::l,y=>.val .bool b::WB l y
 |.yld id::l,y=>.yld id::WB l y
 |.nilp::l,y=>.nilp::WB l y
 |.e::l,y=>.tup []::WB l y
 |.fn f d::l,y=>.fn f (OU d)::WB l y
 |.cp t::l,y=>.cellp t y.1::WB l y.2
def alY (t:Ty):cO->Option t.den
 |.val t' x=>mJ t x
 |_=>a7
def awL (t:Ty):cO->Option t.den
 |.cellp t' x=>mJ t x
 |_=>a7
def axo (b:Bool):cO->Bool
 |.val .bool c=>bif b then c else !c
 |_=>false
def isU:cO->Bool
 |.undef=>true
 |_=>false
def isNils:cO->Bool
 |.nils=>true
 |_=>false
def ZH:cO->Bool
 |.nilp=>true
 |_=>false
def isE:cO->Bool
 |.tup l=>l.isEmpty
 |_=>false
def ajm (id:Nat):cO->Bool
 |.slf i=>Nat.beq i id
 |_=>false
def ajl (id:Nat):cO->Bool
 |.mpv i=>Nat.beq i id
 |_=>false
def ajn (id:Nat):cO->Bool
 |.yld i=>Nat.beq i id
 |_=>false
def ad1 (id:Nat):cO->Bool
 |.slc i v w=>Nat.beq i id&&(Nat.beq v 0&&(match w with|none=>true|some _=>false))
 |_=>false
def isPtr (id off:Nat):cO->Bool
 |.ptr i o=>Nat.beq i id&&Nat.beq o off
 |_=>false
def JF:List (Nat×Nat)->List cO->Bool
 |[],[]=>true
 |(i,o)::c,v::l=>isPtr i o v&&JF c l
 |_,_=>false
def arF (f:FuncId) (c:List (Nat×Nat)):cO->Bool
 |.fn g l=>Nat.beq g f&&JF c l
 |_=>false
def adX (f:FuncId) (c:List (Nat×Nat)):cO->Bool
 |.mfn g l=>Nat.beq g f&&JF c l
 |_=>false
theorem aij {t:Ty} {v:cO} {x:t.den} (h:alY t v=a6 x):v=.val t x:=by
 cases v with
 |val t' z=>
  grind [alY,jo,iw]
 |_=>simp[alY]at h
theorem amb {t:Ty} {v:cO} {x:t.den} (h:awL t v=a6 x):v=.cellp t x:=by
 cases v with
 |cellp t' z=>
  grind [awL,jo,iw]
 |_=>simp[awL]at h
theorem arG {v:cO} (h:isU v=true):v=.undef:=by grind [isU]
theorem adZ {v:cO} (h:isNils v=true):v=.nils:=by grind [isNils]
theorem FU: ∀{c:List (Nat×Nat)} {l:List cO},JF c l=true->l=OU c
 |[],[],_=>rfl
 |(i,o)::c,v::l,h=>by
  simp only[JF,ah]at h;have d:v=.ptr i o:=by
   have:=h.1;cases v<;>simp only[isPtr,ai]at this;simp_all
  rw[d,FU h.2];rfl
 |[],_::_,h=>by simp[JF]at h
 |_::_,[],h=>by simp[JF]at h
theorem ani {f:FuncId} {c:List (Nat×Nat)} {v:cO} (h:arF f c v=true):v=.fn f (OU c):=by
 cases v with
 |fn g l=>
  simp only[arF,ah]at h;rw[ax h.1,FU h.2]
 |_=>simp[arF]at h
theorem anj {b:Bool} {v:cO} (h:axo b v=true):v=.val .bool b:=by
 unfold axo at h;split at h
 .rename_i c
  cases b<;>cases c<;>first|rfl|exact absurd h (by decide)
 .exact absurd h (by decide)
theorem agM {f:FuncId} {c:List (Nat×Nat)} {v:cO} (h:adX f c v=true):v=.mfn f (OU c):=by
 cases v with
 |mfn g l=>
  simp only[adX,ah]at h;rw[ax h.1,FU h.2]
 |_=>simp[adX]at h
theorem adY {v:cO} (h:ZH v=true):v=.nilp:=by grind [ZH]
theorem arD {v:cO} (h:isE v=true):v=.tup []:=by
 cases v with
 |tup l=>simp_all [isE]
 |_=>simp[isE]at h
theorem agQ {id:Nat} {v:cO} (h:ajm id v=true):v=.slf id:=by
 cases v with
 |slf i=>rw[ax h]
 |_=>simp[ajm]at h
theorem agN {id:Nat} {v:cO} (h:ajl id v=true):v=.mpv id:=by
 cases v with
 |mpv i=>rw[ax h]
 |_=>simp[ajl]at h
theorem agR {id:Nat} {v:cO} (h:ajn id v=true):v=.yld id:=by
 cases v with
 |yld i=>rw[ax h]
 |_=>simp[ajn]at h
theorem agO {id:Nat} {v:cO} (h:ad1 id v=true):v=.slc id 0 a7:=by
 cases v with
 |slc i k w=>
  simp only[ad1,ah]at h;obtain rfl:i=id:=ax h.1;obtain rfl:k=0:=ax h.2.1
  grind
 |_=>simp[ad1]at h
theorem agP {id off:Nat} {v:cO} (h:isPtr id off v=true):v=.ptr id off:=by
 cases v with
 |ptr i o=>
  simp_all [isPtr]
 |_=>simp[isPtr]at h
def mM:(l:List FK)->List cO->Option (FKs.den l).den
 |[],d=>match d with
  |[]=>a6 ()
  |_=>a7
 |.v t::l,d=>match d with
  |v::d=>match alY t v,mM l d with
   |some x,a6 y=>a6 (x,y)
   |_,_=>a7
  |[]=>a7
 |.u::l,d=>match d with
  |v::d=>bif isU v then mM l d else a7
  |[]=>a7
 |.slc id::l,d=>match d with
  |v::d=>bif ad1 id v then mM l d else a7
  |[]=>a7
 |.ptr id off::l,d=>match d with
  |v::d=>bif isPtr id off v then mM l d else a7
  |[]=>a7
 |.nils::l,d=>match d with
  |v::d=>bif isNils v then mM l d else a7
  |[]=>a7
 |.nilp::l,d=>match d with
  |v::d=>bif ZH v then mM l d else a7
  |[]=>a7
 |.e::l,d=>match d with
  |v::d=>bif isE v then mM l d else a7
  |[]=>a7
 |.fn f c::l,d=>match d with
  |v::d=>bif arF f c v then mM l d else a7
  |[]=>a7
 |.mfn f c::l,d=>match d with
  |v::d=>bif adX f c v then mM l d else a7
  |[]=>a7
 |.kb b::l,d=>match d with
  |v::d=>bif axo b v then mM l d else a7
  |[]=>a7
 |.slf id::l,d=>match d with
  |v::d=>bif ajm id v then mM l d else a7
  |[]=>a7
 |.mpv id::l,d=>match d with
  |v::d=>bif ajl id v then mM l d else a7
  |[]=>a7
 |.yld id::l,d=>match d with
  |v::d=>bif ajn id v then mM l d else a7
  |[]=>a7
 |.cp t::l,d=>match d with
  |v::d=>match awL t v,mM l d with
   |some x,a6 y=>a6 (x,y)
   |_,_=>a7
  |[]=>a7
theorem jB: ∀(l:List FK) (fr:List cO) (y:(FKs.den l).den),mM l fr=a6 y->fr=WB l y
 |[],fr,y,h=>by
  simp only[mM]at h;split at h
  .rfl
  .cases h
 |.v t::l,fr,y,h=>by
  simp only[mM]at h;split at h
  .split at h
   .rename_i x g i j
    cases h;rw[aij i,jB l _ g j];rfl
   .cases h
  .cases h
 |.u::l,fr,y,h=>by
  simp only[mM]at h;split at h
  .rename_i v fr
   obtain⟨d,h⟩:isU v=true/\mM l fr=a6 y:=dQ h;rw[arG d,jB l fr y h];rfl
  .cases h
 |.slc id::l,fr,y,h=>by
  simp only[mM]at h;split at h
  .rename_i v fr
   obtain⟨d,h⟩:ad1 id v=true/\mM l fr=a6 y:=dQ h;rw[agO d,jB l fr y h];rfl
  .cases h
 |.ptr id off::l,fr,y,h=>by
  simp only[mM]at h;split at h
  .rename_i v fr
   obtain⟨d,h⟩:isPtr id off v=true/\mM l fr=a6 y:=dQ h;rw[agP d,jB l fr y h];rfl
  .cases h
 |.nils::l,fr,y,h=>by
  simp only[mM]at h;split at h
  .rename_i v fr
   obtain⟨d,h⟩:isNils v=true/\mM l fr=a6 y:=dQ h;rw[adZ d,jB l fr y h];rfl
  .cases h
 |.nilp::l,fr,y,h=>by
  simp only[mM]at h;split at h
  .rename_i v fr
   obtain⟨d,h⟩:ZH v=true/\mM l fr=a6 y:=dQ h;rw[adY d,jB l fr y h];rfl
  .cases h
 |.e::l,fr,y,h=>by
  simp only[mM]at h;split at h
  .rename_i v fr
   obtain⟨d,h⟩:isE v=true/\mM l fr=a6 y:=dQ h;rw[arD d,jB l fr y h];rfl
  .cases h
 |.fn f c::l,fr,y,h=>by
  simp only[mM]at h;split at h
  .rename_i v fr
   obtain⟨d,h⟩:arF f c v=true/\mM l fr=a6 y:=dQ h;rw[ani d,jB l fr y h];rfl
  .cases h
 |.mfn f c::l,fr,y,h=>by
  simp only[mM]at h;split at h
  .rename_i v fr
   obtain⟨d,h⟩:adX f c v=true/\mM l fr=a6 y:=dQ h;rw[agM d,jB l fr y h];rfl
  .cases h
 |.kb b::l,fr,y,h=>by
  simp only[mM]at h;split at h
  .rename_i v fr
   obtain⟨d,h⟩:axo b v=true/\mM l fr=a6 y:=dQ h;rw[anj d,jB l fr y h];rfl
  .cases h
 |.slf id::l,fr,y,h=>by
  simp only[mM]at h;split at h
  .rename_i v fr
   obtain⟨d,h⟩:ajm id v=true/\mM l fr=a6 y:=dQ h;rw[agQ d,jB l fr y h];rfl
  .cases h
 |.mpv id::l,fr,y,h=>by
  simp only[mM]at h;split at h
  .rename_i v fr
   obtain⟨d,h⟩:ajl id v=true/\mM l fr=a6 y:=dQ h;rw[agN d,jB l fr y h];rfl
  .cases h
 |.yld id::l,fr,y,h=>by
  simp only[mM]at h;split at h
  .rename_i v fr
   obtain⟨d,h⟩:ajn id v=true/\mM l fr=a6 y:=dQ h;rw[agR d,jB l fr y h];rfl
  .cases h
 |.cp t::l,fr,y,h=>by
  simp only[mM]at h;split at h
  .split at h
   .rename_i x g i j
    cases h;rw[amb i,jB l _ g j];rfl
   .cases h
  .cases h
noncomputable def rfA (f:FuncId) (k:Nat):Code:=match uB f k with
 |some (a,_)=>a
 |none=>.skip
noncomputable def rfB (f:FuncId) (k:Nat):Code:=match uB f k with
 |some (_,b)=>b
 |none=>.skip
inductive HK where
 |arr (id:Nat) (e:Ty)
 |box (id:Nat) (t:TypeId) (cs:List FK)
 |mp (id:Nat) (kk vk:IntKind)
 |lp (id:Nat) (f:FuncId) (fr:List FK) (ps:List Nat) (key:Nat) (n:Nat) (p:Option Ex)
def HKs.den:List HK->Ty
 |[]=>.unit
 |.arr _ e::l=>.pair (.list e) (HKs.den l)
 |.mp _ kk d::l=>.pair (.list (.pair (.int kk) (.int d))) (HKs.den l)
 |.box _ _ cs::l=>.pair (FKs.den cs) (HKs.den l)
 |.lp _ _ fr _ _ _ _::l=>.pair (FKs.den fr) (HKs.den l)
noncomputable def mkH:(l:List HK)->(HKs.den l).den->iD
 |[],_=>[]
 |.arr id e::l,y=>(id,.arr e 0 y.1)::mkH l y.2
 |.mp id kk d::l,y=>(id,.mp kk d y.1)::mkH l y.2
 |.box id t cs::l,y=>(id,.box t (WB cs y.1))::mkH l y.2
 |.lp id f fr ps key n p::l,y=>(id,.lp f (WB fr y.1) ps (rfA f key) (rfB f key) (a6 key) n p)::mkH l y.2
def aim (e:Ty):dZ->Option (List e.den)
 |.arr e' v d=>bif Nat.beq v 0 then mJ (.list e) (t':=.list e') d else a7
 |_=>a7
def ayf (d e:IntKind):dZ->Option (List (Int×Int))
 |.mp k v f=>bif decide (k=d)&&decide (v=e)then a6 f else a7
 |_=>a7
theorem anz {d e:IntKind} {o:dZ} {x:List (Int×Int)} (h:ayf d e o=a6 x):o=.mp d e x:=by
 cases o with
 |mp k v f=>
  simp only[ayf]at h
  grind
 |_=>simp[ayf]at h
def aiq (t:TypeId) (cs:List FK):dZ->Option (FKs.den cs).den
 |.box t' l=>bif Nat.beq t' t then mM cs l else a7
 |_=>a7
def aBG:Ex->Ex->Bool
 |.normal,.normal=>true
 |.exit i,.exit j=>Nat.beq i j
 |.goto i,.goto j=>Nat.beq i j
 |.ret,.ret=>true
 |_,_=>false
def atE:Option Ex->Option Ex->Bool
 |none,a7=>true
 |some a,a6 b=>aBG a b
 |_,_=>false
def OB:List Nat->List Nat->Bool
 |[],[]=>true
 |a::l,b::m=>Nat.beq a b&&OB l m
 |_,_=>false
theorem am2 {a b:Ex} (h:aBG a b=true):a=b:=by
 cases a<;>cases b<;>simp only[aBG,ai]at h<;>first|rfl|simp_all
theorem ahT {a b:Option Ex} (h:atE a b=true):a=b:=by
 cases a<;>cases b<;>simp only[atE,ai]at h<;>first|rfl|rw[am2 h]
theorem Qg: ∀{l m:List Nat},OB l m=true->l=m
 |[],[],_=>rfl
 |a::l,b::m,h=>by
  simp only[OB,ah]at h;rw[ax h.1,Qg h.2]
 |[],_::_,h=>by simp[OB]at h
 |_::_,[],h=>by simp[OB]at h
def asC (f:FuncId) (fr:List FK) (d:List Nat) (key n:Nat) (p:Option Ex):dZ->Option (FKs.den fr).den
 |.lp f' fr' ps' _ _ (a6 e) n' g=>bif Nat.beq f' f&&(OB ps' d&&(Nat.beq e key&&(Nat.beq n' n&&atE g p)))then mM fr fr' else a7
 |_=>a7
theorem afP {e:Ty} {o:dZ} {x:List e.den} (h:aim e o=a6 x):o=.arr e 0 x:=by
 cases o with
 |arr e' v f=>
  simp only[aim]at h;rw[cond_eq_ite]at h;split at h
  .rename_i d
   obtain rfl:v=0:=ax d
   grind [jo,iw]
  .cases h
 |_=>simp[aim]at h
theorem afW {t:TypeId} {cs:List FK} {o:dZ} {x:(FKs.den cs).den} (h:aiq t cs o=a6 x):o=.box t (WB cs x):=by
 cases o with
 |box t' l=>
  simp only[aiq]at h;obtain⟨d,h⟩:=dQ h;rw[jB cs l x h,ax d]
 |_=>simp[aiq]at h
theorem ant {f:FuncId} {fr:List FK} {m:List Nat} {key n:Nat} {p:Option Ex} {o:dZ} {x:(FKs.den fr).den} (v:WfO o) (h:asC f fr m key n p o=a6 x):o=.lp f (WB fr x) m (rfA f key) (rfB f key) (a6 key) n p:=by
 cases o with
 |lp f' fr' ps' kH bd ky n' y=>
  cases ky with
  |none=>simp[asC]at h
  |some d=>
   simp only[asC]at h;replace h:=dQ h;obtain⟨q,h⟩:=h;simp only[ah]at q;obtain⟨e,g,i,j,l⟩:=q;have e:=ax e;have g:=Qg g;have i:=ax i;have j:=ax j;have l:=ahT l;subst e g i j l;have u:uB f' d=a6 (kH,bd):=v;have z:rfA f' d=kH:=by unfold rfA;rw[u]
   have A:rfB f' d=bd:=by unfold rfB;rw[u]
   grind [jB]
 |_=>simp[asC]at h
def QL:(l:List HK)->iD->Option (HKs.den l).den
 |[],d=>match d with
  |[]=>a6 ()
  |_=>a7
 |.arr id e::l,d=>match d with
  |(j,o)::d=>bif Nat.beq j id then(match aim e o,QL l d with
   |some x,a6 y=>a6 (x,y)
   |_,_=>a7)else a7
  |[]=>a7
 |.mp id kk g::l,d=>match d with
  |(j,o)::d=>bif Nat.beq j id then(match ayf kk g o,QL l d with
   |some x,a6 y=>a6 (x,y)
   |_,_=>a7)else a7
  |[]=>a7
 |.box id t cs::l,d=>match d with
  |(j,o)::d=>bif Nat.beq j id then(match aiq t cs o,QL l d with
   |some x,a6 y=>a6 (x,y)
   |_,_=>a7)else a7
  |[]=>a7
 |.lp id f fr ps key n p::l,d=>match d with
  |(j,o)::d=>bif Nat.beq j id then(match asC f fr ps key n p o,QL l d with
   |some x,a6 y=>a6 (x,y)
   |_,_=>a7)else a7
  |[]=>a7
theorem yE: ∀(l:List HK) (hp:iD) (y:(HKs.den l).den),(∀e∈hp,WfO e.2)->QL l hp=a6 y->hp=mkH l y
 |[],hp,y,_,h=>by
  simp only[QL]at h;split at h
  .rfl
  .cases h
 |.arr id e::l,hp,y,d,h=>by
  simp only[QL]at h;split at h
  .rw[cond_eq_ite]at h;split at h
   .rename_i g
    split at h
    .rename_i x i j m
     cases h;rw[afP j,yE l _ i (fun e q=>d e (aB _ q)) m,ax g];rfl
    .cases h
   .cases h
  .cases h
 |.mp id kk v::l,hp,y,d,h=>by
  simp only[QL]at h;split at h
  .rw[cond_eq_ite]at h;split at h
   .rename_i g
    split at h
    .rename_i x i j m
     cases h;rw[anz j,yE l _ i (fun e q=>d e (aB _ q)) m,ax g];rfl
    .cases h
   .cases h
  .cases h
 |.box id t cs::l,hp,y,d,h=>by
  simp only[QL]at h;split at h
  .rw[cond_eq_ite]at h;split at h
   .rename_i g
    split at h
    .rename_i x i j m
     cases h;rw[afW j,yE l _ i (fun e q=>d e (aB _ q)) m,ax g];rfl
    .cases h
   .cases h
  .cases h
 |.lp id f fr ps key n p::l,hp,y,d,h=>by
  simp only[QL]at h;split at h
  .rw[cond_eq_ite]at h;split at h
   .rename_i g
    split at h
    .rename_i x i j m
     cases h;have u:=d _ aU;dsimp only at u;rw[ant u j,yE l _ i (fun e q=>d e (aB _ q)) m,ax g];rfl
    .cases h
   .cases h
  .cases h
structure SP where
 fr:List FK
 hp:List HK
def SP.den (p:SP):Type:=(FKs.den p.fr).den×(HKs.den p.hp).den
noncomputable def nV (p:SP) (y:p.den):St:=⟨WB p.fr y.1,[[]],mkH p.hp y.2,0⟩
def ary (p:SP) (st:St):Option p.den:=
 match st.stk,st.nxt with
 |[[]],0=>match mM p.fr st.fr,QL p.hp st.hp with
  |some x,a6 y=>bif vN st.hp then a6 (x,y)else a7
  |_,_=>a7
 |_,_=>a7
theorem Ug {p:SP} {st:St} {y:p.den} (d:WfH st.hp) (h:ary p st=a6 y):st=nV p y:=by
 obtain⟨l,m,hp,nxt⟩:=st;unfold ary at h;split at h
 .rename_i e f
  subst e f;split at h
  .rename_i x q g i
   replace h:=dQ h;obtain⟨j,h⟩:=h;cases h;have u:=jB _ _ _ g;have v:=yE _ _ _ (Pz _ j d) i;simp_all [nV]
  .cases h
 .cases h
def Du {R:Type} (E:Env) (d:Nat) (f:FuncId) (c:Code):St->(Ex->St->Option R)->Option R:=run (E.at d) (ni E d) (Xv E d) f c
noncomputable def iq (k:fZ) (l d e:SP) (g:Ex) (i:l.den->Option (d.den⊕e.den)) (f:Nat:=0) (j:Ex:=.ret):dO:={
 V:=l.den
 A:=fun _=>d.den
 B:=fun _=>e.den
 get:=fun st=>match Nz k.slots k.owns st with
  |some st=>ary l st
  |none=>a7
 spec:=i
 exA:=fun _=>g
 stA:=fun _ _ a=>nV d a
 stB:=fun _ _ b=>nV e b
 dep:=f
 exB:=fun _=>j}
theorem anq {E:Env} {f:FuncId} {c:Code} {k:fZ} {l i j:SP} {u:Ex} {p:l.den->Option (i.den⊕j.den)} {x:Nat} {y:Ex} (hk:E.kp f (dN c)=a6 k)
  (h: ∀(R:Type) (d:Nat) (K:Ex->St->Option R) (v:l.den) o,p v=a6 o->
   ∃m,iter (a6 k) (Du E (d+x) f c) m (nV l v) K=dX o (fun a=>K u (nV i a)) fun b=>K y (nV j b)):eY E f c (iq k l i j u p x y):=by
 intro R d r st v K B q g;simp only[iq]at q;split at q
 .rename_i I z
  have e:=Ug (B _ _ _ z) q;subst e;simp only[iq]at g;cases ho:p v with
  |none=>rw[ho]at g;cases g
  |some o=>
   rw[ho]at g;obtain⟨m,D⟩:=h R d K v o ho;have A:(E.at (d+(iq k l i j u p x y).dep)).kp f (dN c)=a6 k:=hk;refine⟨m,nV l v,by rw[A];exact z, ?_⟩;rw[A];exact D.trans g
 .cases q
theorem KA {E:Env} {f:FuncId} {c:Code} {k:fZ} {l i j:SP} {u:Ex} {p:l.den->Option (i.den⊕j.den)} {x:Nat} {y:Ex} (hk:E.kp f (800000+dN c)=a6 k)
  (h: ∀(R:Type) (d:Nat) (K:Ex->St->Option R) (v:l.den) o,p v=a6 o->
   ∃m,iter (a6 k) (Fj (Du E (d+x) f c)) m (nV l v) K=dX o (fun a=>K u (nV i a)) fun b=>K y (nV j b)):xn E f c (iq k l i j u p x y):=by
 intro R d r st v K B q g;simp only[iq]at q;split at q
 .rename_i I z
  have e:=Ug (B _ _ _ z) q;subst e;simp only[iq]at g;cases ho:p v with
  |none=>rw[ho]at g;cases g
  |some o=>
   rw[ho]at g;obtain⟨m,D⟩:=h R d K v o ho;have A:(E.at (d+(iq k l i j u p x y).dep)).kp f (800000+dN c)=a6 k:=hk;refine⟨m,nV l v,by rw[A];exact z, ?_⟩;rw[A];exact D.trans g
 .cases q
def FKss.den:List (List FK)->Type
 |[]=>Unit
 |l::d=>(FKs.den l).den×FKss.den d
def mkK:(l:List (List FK))->FKss.den l->List (List cO)
 |[],_=>[]
 |l::d,y=>WB l y.1::mkK d y.2
def arx:(l:List (List FK))->List (List cO)->Option (FKss.den l)
 |[],st=>match st with
  |[]=>a6 ()
  |_=>a7
 |l::d,st=>match st with
  |e::st=>match mM l e,arx d st with
   |some x,a6 y=>a6 (x,y)
   |_,_=>a7
  |[]=>a7
theorem XJ: ∀(l:List (List FK)) (st:List (List cO)) (y:FKss.den l),arx l st=a6 y->st=mkK l y
 |[],st,y,h=>by
  simp only[arx]at h;split at h
  .rfl
  .cases h
 |l::d,st,y,h=>by
  simp only[arx]at h;split at h
  .split at h
   .rename_i x e f g
    cases h;rw[jB _ _ _ f,XJ d _ e g];rfl
   .cases h
  .cases h
structure SQ where
 fr:List FK
 stk:List (List FK)
 hp:List HK
def SQ.den (p:SQ):Type:=(FKs.den p.fr).den×(FKss.den p.stk×(HKs.den p.hp).den)
noncomputable def pJ (p:SQ) (y:p.den):St:=⟨WB p.fr y.1,mkK p.stk y.2.1,mkH p.hp y.2.2,0⟩
def agK (p:SQ) (st:St):Option p.den:=
 match st.nxt with
 |0=>match mM p.fr st.fr,arx p.stk st.stk,QL p.hp st.hp with
  |some x,a6 k,a6 y=>bif vN st.hp then a6 (x,k,y)else a7
  |_,_,_=>a7
 |_=>a7
theorem PW {p:SQ} {st:St} {y:p.den} (d:WfH st.hp) (h:agK p st=a6 y):st=pJ p y:=by
 obtain⟨j,l,hp,nxt⟩:=st;unfold agK at h;split at h
 .rename_i e
  subst e;split at h
  .rename_i x k m f hk g
   replace h:=dQ h;obtain⟨i,h⟩:=h;cases h;have q:=jB _ _ _ f;have u:=yE _ _ _ (Pz _ i d) g
   grind [XJ,pJ]
  .cases h
 .cases h
noncomputable def gq (k:fZ) (l d e:SQ) (g:Ex) (i:l.den->Option (d.den⊕e.den)) (f:Nat:=0) (j:Ex:=.ret):dO:={
 V:=l.den
 A:=fun _=>d.den
 B:=fun _=>e.den
 get:=fun st=>match Nz k.slots k.owns st with
  |some st=>agK l st
  |none=>a7
 spec:=i
 exA:=fun _=>g
 stA:=fun _ _ a=>pJ d a
 stB:=fun _ _ b=>pJ e b
 dep:=f
 exB:=fun _=>j}
theorem ag5 {E:Env} {f:FuncId} {c:Code} {k:fZ} {l i j:SQ} {u:Ex} {p:l.den->Option (i.den⊕j.den)} {x:Nat} {y:Ex} (hk:E.kp f (dN c)=a6 k)
  (h: ∀(R:Type) (d:Nat) (K:Ex->St->Option R) (v:l.den) o,p v=a6 o->
   ∃m,iter (a6 k) (Du E (d+x) f c) m (pJ l v) K=dX o (fun a=>K u (pJ i a)) fun b=>K y (pJ j b)):eY E f c (gq k l i j u p x y):=by
 intro R d r st v K B q g;simp only[gq]at q;split at q
 .rename_i I z
  have e:=PW (B _ _ _ z) q;subst e;simp only[gq]at g;cases ho:p v with
  |none=>rw[ho]at g;cases g
  |some o=>
   rw[ho]at g;obtain⟨m,D⟩:=h R d K v o ho;have A:(E.at (d+(gq k l i j u p x y).dep)).kp f (dN c)=a6 k:=hk;refine⟨m,pJ l v,by rw[A];exact z, ?_⟩;rw[A];exact D.trans g
 .cases q
theorem amc {E:Env} {f:FuncId} {c:Code} {k:fZ} {l i j:SQ} {u:Ex} {p:l.den->Option (i.den⊕j.den)} {x:Nat} {y:Ex} (hk:E.kp f (800000+dN c)=a6 k)
  (h: ∀(R:Type) (d:Nat) (K:Ex->St->Option R) (v:l.den) o,p v=a6 o->
   ∃m,iter (a6 k) (Fj (Du E (d+x) f c)) m (pJ l v) K=dX o (fun a=>K u (pJ i a)) fun b=>K y (pJ j b)):xn E f c (gq k l i j u p x y):=by
 intro R d r st v K B q g;simp only[gq]at q;split at q
 .rename_i I z
  have e:=PW (B _ _ _ z) q;subst e;simp only[gq]at g;cases ho:p v with
  |none=>rw[ho]at g;cases g
  |some o=>
   rw[ho]at g;obtain⟨m,D⟩:=h R d K v o ho;have A:(E.at (d+(gq k l i j u p x y).dep)).kp f (800000+dN c)=a6 k:=hk;refine⟨m,pJ l v,by rw[A];exact z, ?_⟩;rw[A];exact D.trans g
 .cases q
def nD (L M:dO):dO:={
 V:=L.V⊕M.V
 A:=fun v=>match v with|.inl v=>L.A v|.inr v=>M.A v
 B:=fun v=>match v with|.inl v=>L.B v|.inr v=>M.B v
 get:=fun st=>match L.get st with
  |some v=>a6 (.inl v)
  |none=>match M.get st with
   |some v=>a6 (.inr v)
   |none=>a7
 spec:=fun v=>match v with|.inl v=>L.spec v|.inr v=>M.spec v
 exA:=fun v=>match v with|.inl v=>L.exA v|.inr v=>M.exA v
 stA:=fun st v=>match v with|.inl v=>L.stA st v|.inr v=>M.stA st v
 stB:=fun st v=>match v with|.inl v=>L.stB st v|.inr v=>M.stB st v
 dep:=L.dep+M.dep
 exB:=fun v=>match v with|.inl v=>L.exB v|.inr v=>M.exB v}
theorem uU {E:Env} {f:FuncId} {c:Code} {L M:dO} (p:eY E f c L) (h2:eY E f c M):eY E f c (nD L M):=fun R m r st v K j d l=>by
 simp only[nD]at d;split at d
 .rename_i g i
  cases d;have e:m+(nD L M).dep=(m+M.dep)+L.dep:=by show m+(L.dep+M.dep)=_;omega
  rw[e];exact p R _ r st g K j i l
 .split at d
  .rename_i g i
   cases d;have e:m+(nD L M).dep=(m+L.dep)+M.dep:=by show m+(L.dep+M.dep)=_;omega
   rw[e];exact h2 R _ r st g K j i l
  .cases d
theorem aFN {E:Env} {f:FuncId} {c:Code} {L M:dO} (p:xn E f c L) (h2:xn E f c M):xn E f c (nD L M):=fun R m r st v K j d l=>by
 simp only[nD]at d;split at d
 .rename_i g i
  cases d;have e:m+(nD L M).dep=(m+M.dep)+L.dep:=by show m+(L.dep+M.dep)=_;omega
  rw[e];exact p R _ r st g K j i l
 .split at d
  .rename_i g i
   cases d;have e:m+(nD L M).dep=(m+L.dep)+M.dep:=by show m+(L.dep+M.dep)=_;omega
   rw[e];exact h2 R _ r st g K j i l
  .cases d
end
section
open Option renaming some → a6, none → a7
open List renaming mem_cons_of_mem → aB, mem_cons_self → aU
open Nat renaming eq_of_beq_eq_true → ax
open Go.RowKit
def auD:List (FuncId×Sum)->FuncId->Option Sum
 |[],_=>a7
 |e::l,g=>bif Nat.beq g e.1 then a6 e.2 else auD l g
theorem ab6 {P:Program}: ∀(l:List (FuncId×Sum)),(∀e∈l,eX P e.1 e.2)-> ∀g s,auD l g=a6 s->eX P g s
 |[],_,g,s,h=>by cases h
 |e::l,d,g,s,h=>by
  simp only[auD]at h;rw[cond_eq_ite]at h;split at h
  .simp_all
  .exact ab6 l (fun e f=>d e (aB _ f)) g s h
def aIA (f:FuncId) (l:List (Nat×fZ)) (g:FuncId) (id:Nat):Option fZ:=cond (Nat.beq g f) ((l.find? fun e=>Nat.beq id e.1).map (·.2)) a7
def aCE (f:FuncId) (l:List (Nat×dO)) (g:FuncId) (id:Nat):Option dO:=
 bif Nat.beq g f then(match l.find? fun e=>Nat.beq id e.1 with|some e=>a6 e.2|none=>a7)else a7
theorem ag9 {f g:FuncId} (l:List (Nat×dO)) (h:g≠f) (id:Nat):aCE f l g id=a7:=by
 grind [ax,aCE]
def aFK:FuncId:=151
def Ls (g:FuncId):Bool:=Nat.beq g aFK&& !Nat.beq aFK 1000000
def auz:List (FuncId×gu)->FuncId->Option gu
 |[],_=>a7
 |e::l,g=>bif Nat.beq g e.1 then a6 e.2 else auz l g
theorem ab4 {P:Program}: ∀(l:List (FuncId×gu)),(∀e∈l,dV P e.1 e.2)-> ∀g s,auz l g=a6 s->dV P g s
 |[],_,g,s,h=>by cases h
 |e::l,d,g,s,h=>by
  simp only[auz]at h;cases hb:Nat.beq g e.1 with
  |true=>
   simp_all
  |false=>
   rw[hb]at h;exact ab4 l (fun e f=>d e (aB _ f)) g s h
def kU (P:Program) (T:TT) (f:FuncId) (sg:List (FuncId×Sum)) (kp:List (Nat×fZ)) (lp:List (Nat×dO)) (sb:List (FuncId×gu):=[]):Env:=
 {P:=P,T:=T,cl:=false,kp:=aIA f kp,sg:=auD sg,lp:=aCE f lp,bf:=Ls,sb:=auz sb}
theorem aqS {P:Program} {T:TT} (hT:TOk P T) (i:P.follows .mixedOrders=true) (j:J8 P) {f:FuncId} {sg:List (FuncId×Sum)} {kp:List (Nat×fZ)} {lp:List (Nat×dO)} {sb:List (FuncId×gu)}
  (l: ∀e∈sg,eX P e.1 e.2) {fn:Func} {c:Code} (hf:P.funcs[f]? =a6 fn) (hb:fn.body=a6 c) (hl:eP (kU P T f sg kp lp sb) f c) (m: ∀E,vG P E->afM E) (p: ∀g,Ls g=true->DN P g) (hx: ∀e∈sb,dV P e.1 e.2:=by simp):gm (kU P T f sg kp lp sb):=by
 have d:vG P (kU P T f sg kp lp sb):= ?_;exact⟨hT,i,j,ab6 sg l,d,m _ d,p,ab4 sb hx⟩;intro g u q v x;by_cases e:g=f
 .simp_all
 .exact kY (fun id=>ag9 lp e id) (fun _=>rfl) q
def aGo (l:List (FuncId×Nat×fZ)) (g:FuncId) (id:Nat):Option fZ:=match l.find? fun e=>Nat.beq g e.1&&Nat.beq id e.2.1 with
 |some e=>a6 e.2.2
 |none=>a7
def ajH:List (FuncId×Nat×dO)->FuncId->Nat->Option dO
 |[],_,_=>a7
 |e::l,g,id=>bif Nat.beq g e.1&&Nat.beq id e.2.1 then a6 e.2.2 else ajH l g id
theorem UL: ∀(l:List (FuncId×Nat×dO)) (g:FuncId),(∀e∈l,e.1≠g)-> ∀id,ajH l g id=a7
 |[],g,_,id=>rfl
 |e::l,g,h,id=>by
  have d:Nat.beq g e.1=false:=by
   grind [ax]
  simp only[ajH,d,Bool.false_and,ac];exact UL l g (fun e f=>h e (aB _ f)) id
def iE (P:Program) (T:TT) (sg:List (FuncId×Sum)) (kp:List (FuncId×Nat×fZ)) (lp:List (FuncId×Nat×dO)) (rf:List FuncId) (sb:List (FuncId×gu):=[]):Env:=
 {P:=P,T:=T,cl:=false,kp:=aGo kp,sg:=auD sg,lp:=ajH lp,rf:=fun g _=>rf.any fun x=>Nat.beq g x,bf:=Ls,sb:=auz sb}
theorem amY {P:Program} {T:TT} (hT:TOk P T) (i:P.follows .mixedOrders=true) (j:J8 P) {sg:List (FuncId×Sum)} {kp:List (FuncId×Nat×fZ)} {lp:List (FuncId×Nat×dO)}
  {rf:List FuncId} {sb:List (FuncId×gu)} (l: ∀e∈sg,eX P e.1 e.2) (d:List FuncId) (u:(lp.all fun e=>d.any fun g=>Nat.beq e.1 g)=true) (v:(rf.all fun e=>d.any fun g=>Nat.beq e g)=true) (hl: ∀g∈d,∃fn c,P.funcs[g]? =a6 fn/\fn.body=a6 c/\eP (iE P T sg kp lp rf sb) g c)
  (m: ∀E,vG P E->afM E) (p: ∀g,Ls g=true->DN P g) (hx: ∀e∈sb,dV P e.1 e.2:=by simp):gm (iE P T sg kp lp rf sb):=by
 have f:vG P (iE P T sg kp lp rf sb):= ?_;exact⟨hT,i,j,ab6 sg l,f,m _ f,p,ab4 sb hx⟩;intro g y q z A;by_cases e:g∈d
 .grind
 .refine kY (fun id=>UL lp g (fun x hx B=>e ?_) id) (fun _=> ?_) q
  .grind [ax]
  .cases hr:rf.any fun x=>Nat.beq g x with
   |false=>exact hr
   |true=>
    simp_all
def bZ {d:Type} (a b:List d):List d:=a++b
def dM (i:Int):Nat:=i.toNat
def dU {e:Type} (l:List e) (d:e) (i:Nat):e:=l.getD i d
def takeN {d:Type} (l:List d) (n:Nat):List d:=l.take n
def aJ4 {d:Type} (n:Nat) (x:d):List d:=List.replicate n x
def jf (a b:List UInt8):Bool:=decide (a.length+b.length<=nC)
def qO {d:Type} (i:Nat) (l:List d):Bool:=QN i l.length
def aJ3 (a b:Int):Int:=a.tmod b
def aJA (k:IntKind) (n:Int):Int:=k.wrap n
def aJB (a b:Int):Int:=a+b
def aJ5 (a b:Int):Int:=a-b
def aJx (c:Int) (n:Nat):Bool:=decide (c.toNat*n<=nC)
def kV (a b:Bool):Bool:=a==b
def qV (t:Ty) (x y:List t.den):Bool:=yZ (Zi t) x y
def ibW (s:List UInt8) (c:Int):Int:=Lib.indexByte s c.toNat.toUInt8
def cA:Code->Code
 |.seq a _=>a
 |.block _ c=>c
 |.loop c=>c
 |.scope c=>c
 |.cond _ a _=>a
 |.rangeFunc _ _ a _=>a
 |c=>c
def cB:Code->Code
 |.seq _ b=>b
 |.cond _ _ b=>b
 |.rangeFunc _ _ _ b=>b
 |c=>c
def kX:Code->List Code
 |.seq a b=>kX a++kX b
 |.cond _ a b=>kX a++kX b
 |.block _ c=>kX c
 |.scope c=>kX c
 |.loop c=>kX c++[c]
 |.rangeFunc _ _ a b=>kX a++kX b
 |_=>[]
def lC:Code->List (Code×Code)
 |.seq a b=>lC a++lC b
 |.cond _ a b=>lC a++lC b
 |.block _ c=>lC c
 |.scope c=>lC c
 |.loop c=>lC c
 |.rangeFunc _ _ a b=>(a,b)::(lC a++lC b)
 |_=>[]
def sU:Code->List Code
 |.seq a b=>sU a++(b::sU b)
 |.cond _ a b=>sU a++sU b
 |.block _ c=>sU c
 |.scope c=>sU c
 |.loop c=>sU c
 |.rangeFunc _ _ a b=>sU a++sU b
 |_=>[]
def Z8 (E:Env) (f:FuncId) (c:Code):Bool:=(sU c).all fun d=>(E.lp f (800000+dN d)).isNone
theorem lW {R:Type} {E:Env} {x:pV R} {e:YP} {f:FuncId}: ∀c:Code,(∀x∈lC c,E.rf f (dN x.2)=true->uB f (dN x.2)=a6 x)->(∀d∈kX c,∀L,E.lp f (dN d)=a6 L->L.dep.ble E.dp=true->YO E x e f d L)->
  (∀d∈sU c,∀L,E.lp f (800000+dN d)=a6 L->L.dep.ble E.dp=true->afK E x e f d L)->kS E x e f c
 |.seq a b,g,h,k=>⟨⟨lW a (fun d hd=>g d (List.mem_append.2 (.inl hd))) (fun d hd=>h d (List.mem_append.2 (.inl hd))) fun d hd=>k d (List.mem_append.2 (.inl hd)),k b (List.mem_append.2 (.inr aU))⟩,
   lW b (fun d hd=>g d (List.mem_append.2 (.inr hd))) (fun d hd=>h d (List.mem_append.2 (.inr hd))) fun d hd=>k d (List.mem_append.2 (.inr (aB _ hd)))⟩
 |.cond _ a b,g,h,k=>⟨lW a (fun d hd=>g d (List.mem_append.2 (.inl hd))) (fun d hd=>h d (List.mem_append.2 (.inl hd))) fun d hd=>k d (List.mem_append.2 (.inl hd)),lW b (fun d hd=>g d (List.mem_append.2 (.inr hd))) (fun d hd=>h d (List.mem_append.2 (.inr hd))) fun d hd=>k d (List.mem_append.2 (.inr hd))⟩
 |.block _ c,g,h,k=>lW (E:=E) c g h k
 |.scope c,g,h,k=>lW (E:=E) c g h k
 |.loop c,g,h,k=>⟨lW c g (fun d hd=>h d (List.mem_append.2 (.inl hd))) k,h c (List.mem_append.2 (.inr (List.mem_singleton.2 rfl)))⟩
 |.rangeFunc _ _ a b,g,h,k=>⟨lW a (fun d hd=>g d (aB _ (List.mem_append.2 (.inl hd)))) (fun d hd=>h d (List.mem_append.2 (.inl hd))) fun d hd=>k d (List.mem_append.2 (.inl hd)),
   lW b (fun d hd=>g d (aB _ (List.mem_append.2 (.inr hd)))) (fun d hd=>h d (List.mem_append.2 (.inr hd))) fun d hd=>k d (List.mem_append.2 (.inr hd)),g (a,b) aU⟩
 |.skip,_,_,_|.label _,_,_,_|.region _ _ _,_,_,_|.exit _,_,_,_|.goto _,_,_,_|.ret,_,_,_|.refuse _,_,_,_=>trivial
theorem FV {E:Env} {f:FuncId} (c:Code) (g: ∀x∈lC c,E.rf f (dN x.2)=true->uB f (dN x.2)=a6 x) (h: ∀d∈kX c,∀L,E.lp f (dN d)=a6 L->eY E f d L)
  (k: ∀d∈sU c,∀L,E.lp f (800000+dN d)=a6 L->xn E f d L):eP E f c:=fun R m=>
 lW (E:=E.at m) c g (fun d hd L i j=>by
  have e:=h d hd L i R (m-L.dep);rw[show m-L.dep+L.dep=m from Nat.sub_add_cancel (Nat.le_of_ble_eq_true (m:=m) j)]at e;exact e) fun d hd L i j=>by
  have e:=k d hd L i R (m-L.dep);rw[show m-L.dep+L.dep=m from Nat.sub_add_cancel (Nat.le_of_ble_eq_true (m:=m) j)]at e;exact e
theorem anC {E:Env} {f:FuncId} {c:Code} (h:Z8 E f c=true): ∀d∈sU c,∀L,E.lp f (800000+dN d)=a6 L->xn E f d L:=fun d hd L e=>by
 have:=List.all_eq_true.1 h d hd;simp_all
def Og (E:Env) (f:FuncId) (c:Code):List Code:=(sU c).filter fun d=>(E.lp f (800000+dN d)).isSome
theorem Lt {E:Env} {f:FuncId} {c:Code} (h: ∀d∈Og E f c,∀L,E.lp f (800000+dN d)=a6 L->xn E f d L): ∀d∈sU c,∀L,E.lp f (800000+dN d)=a6 L->xn E f d L:=fun d hd L e=>
 h d (List.mem_filter.2 ⟨hd,by rw[e];rfl⟩) L e
theorem tH {E:Env} {f:FuncId} (c:Code) (g: ∀x∈lC c,E.rf f (dN x.2)=true->uB f (dN x.2)=a6 x) (h: ∀d∈kX c,∀L,E.lp f (dN d)=a6 L->eY E f d L) (k:Z8 E f c=true:=by kernel_rfl):eP E f c:=
 FV c g h (anC k)
theorem ag6 {E:Env} {f:FuncId} (c:Code) (e: ∀id,E.rf f id=false) (h: ∀d∈kX c,∀L,E.lp f (dN d)=a6 L->eY E f d L) (k:Z8 E f c=true:=by kernel_rfl):eP E f c:=
 tH c (fun x _ g=>by simp_all) h k
theorem dG {d e:Type} (b:Bool) (x y:Option d) (k:d->Option e):bU (bif b then x else y) k=bif b then bU x k else bU y k:=by cases b<;>rfl
theorem dH {d e:Type} (k:d->Option e):bU a7 k=a7:=rfl
theorem bT {d e:Type} (x:d) (k:d->Option e):bU (a6 x) k=k x:=rfl
theorem dw {d e f:Type} (x:Option d) (k:d->Option e) (l:e->Option f):bU (bU x k) l=bU x fun a=>bU (k a) l:=by cases x<;>rfl
theorem atB {d i e:Type} (a:d) (f:d->e) (g:i->e):dX (.inl a) f g=f a:=rfl
theorem aGV {i d e:Type} (b:d) (f:i->e) (g:d->e):dX (.inr b) f g=g b:=rfl
theorem dI {e i d j:Type} (o:e⊕i) (f:e->Option d) (g:i->Option d) (k:d->Option j):bU (dX o f g) k=dX o (fun a=>bU (f a) k) fun b=>bU (g b) k:=by cases o<;>rfl
end
end Go.Proofs.YtjegbhogodknhaaGreatDoor
