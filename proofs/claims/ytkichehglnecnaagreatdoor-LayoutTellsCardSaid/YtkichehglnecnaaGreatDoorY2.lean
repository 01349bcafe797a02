/- Parts of the proof, joined and shortened by a program: the plain machine, the functions as it prints them, and the mathematics over them. -/
import Derived.Stop.Looks
import Derived.RangeFuncNested
import Derived.RangeFuncRecord
import Derived.Sort.LoopGhostIn
import Derived.Laws.Externs
import Derived.Lib.Bytealg
import Derived.Test.YtkichehglnecnaaGreatDoorY1
set_option linter.unusedVariables false
set_option linter.unusedSimpArgs false
set_option maxRecDepth 100000
set_option maxHeartbeats 4000000
namespace Go.Proofs.YtkichehglnecnaaGreatDoor
section
open Option renaming some → a6, none → a7
open Bool renaming and_eq_true → af
open List renaming mem_append_right → bu, eq_nil_of_length_eq_zero → bz
open Nat renaming le_refl → ae, eq_of_beq_eq_true → aj
open Go.RowKit
section
variable {P:Program} {T:TT} {W0:World} {b0 n:Nat} {rd:Option Nat} {c:Cx} {R:Type} {r:R} {st:St} {a:Act} {ats:List (Array Value)}
theorem azV {n lo hi:Int} (h:eU n lo hi=true):0<=lo/\lo<=hi/\hi<=n:=by
 simp_all [eU]
theorem Ox (d:iM W0 b0 rd c st a ats) {s:Nat} {t:Ty} {G:St} (h:yO s t st=a6 G): ∃c',iM W0 b0 rd c' G a ats/\c.Mono c'/\c'.w=c.w:=by
 have j: ∀l:s<a.tmps.toList.length,bP c (st.fr.getD s .undef) a.tmps.toList[s]:=fun l=>by
  have:=d.fr.getD s;rwa [Array.getD,dif_pos (by simpa using l)]at this
 obtain⟨S,I,U,z⟩:=st;simp only[yO]at h;split at h
 .rename_i A
  simp only at j;rw[A]at j;split at h
  .cases h
  .rename_i f
   rw[cond_eq_ite]at h;split at h
   .rename_i g
    cases h;simp only[af]at g;have B:z<=1000000*I.length+800000+s:=by simp_all
    have D:0<t.size:=by simp_all
    obtain⟨c',hd,V,q⟩:=qX d.ok (st:=⟨S,I,U,z⟩) d.hp d.nxt f B (ae z) (y:=t) D (xs:=[]) (v:=.slice a7 0 0) (w:=c.w) (Below.refl _ _) oV [] ⟨by simp,.inl ⟨rfl,rfl⟩⟩ (by simp[gp]) rfl (fun _=>rfl);have i:=d.did hd;refine⟨c',⟨i.hp,i.nxt,i.ok,bH.setL _ _ _ i.fr fun l=> ?_,i.stk,i.df,i.rd⟩,hd.le.mono,V⟩
    grind [bP]
   .cases h
 .rename_i id W vw A
  simp only at j;rw[A]at j;split at h
  .rename_i u w m f
   rw[cond_eq_ite]at h;split at h
   .rename_i E
    have E:w=W:=by simpa using E
    subst E;split at h
    .cases h;exact⟨c,d,Cx.Mono.refl c,rfl⟩
    .rename_i lo o
     rw[cond_eq_ite]at h;split at h
     .rename_i g
      cases h;simp only[beq_iff_eq]at g;subst g;have J:=d.hp;simp only at J;subst J;have X:=d.ok.obj id _ f;obtain⟨Y,e,Z,K,p,ab⟩:=X;by_cases l:s<a.tmps.toList.length
      .have q:=j l;simp only[bP]at q;have M:=(q.2.2 _ _ _ f).2 rfl;have⟨ad,ag⟩:0<=o/\o<=bG m:=by
        obtain⟨a1,n1,c1,N,_,p2,p3,_⟩:=M;obtain⟨a2,c2,e2,_⟩:=ry K;rw[e2]at N;cases N;exact⟨p2,p3⟩
       obtain⟨ak,O⟩:=Hg K ad ag M;have hk:(dJ.arr u w m).like (c.mu id) (.arr u (w+1) (m.take o.toNat)) ⟨(c.mu id).blk,a.tmps.toList[s]⟩:=⟨by omega,fun e=>by omega⟩;have x:=Cx.Le.put (w:=c.w) d.ok f hk (ae _) (fun _ _ _=>rfl) (fun b g=>.inl (O b g)) (fun b L _ p=>⟨L,p⟩);have ah:=Cx.Ok.put (w:=c.w) d.ok f hk d.ok.bel (ae _) (fun _ _ _=>rfl) (fun b g=>.inl (O b g)) (fun b L _ p=>⟨L,p⟩) (by
        refine⟨Y,e,Z.take (o.toNat*u.size), ?_,gp.take _ _ _ (gp.mono (fB.mono x.free u) _ _ p),ab⟩;simp_all [bG,Cx.put,upd_same])
       refine⟨c.put id (dJ.arr u (w+1) (List.take o.toNat m)) ⟨(c.mu id).blk,a.tmps.toList[s]⟩ c.w,⟨rfl,d.nxt,ah,bH.setL _ _ _ (bH.le x _ _ d.fr) fun _=> ?_,Dl.le x _ _ d.stk, ?_, ?_⟩,x.mono,rfl⟩
       .simp only[bP];refine⟨q.1,.inl ⟨_,Cx.put_get f⟩,fun t' u' al ai=> ?_⟩;rw[Cx.put_get f]at ai;simp_all [ja,Cx.put,upd_same]
       .obtain⟨ds,B,D,h3⟩:=d.df;exact⟨ds,B,D,h3⟩
       .exact d.rd
      .exfalso;have hl:=bH.length _ _ d.fr;simp_all
     .cases h
   .cases h
  .cases h
 .cases h
theorem JM (d:iM W0 b0 rd c st a ats) {s:Nat} {t:Ty} {D:St} (h:DZ s t st=a6 D): ∃c',iM W0 b0 rd c' D a ats/\c.Mono c'/\c'.w=c.w:=by
 have E: ∀f:s<a.tmps.toList.length,bP c (st.fr.getD s .undef) a.tmps.toList[s]:=fun f=>by
  have:=d.fr.getD s;rwa [Array.getD,dif_pos (by simpa using f)]at this
 have ad: ∀(q: ∀f:s<a.tmps.toList.length,∃A,a.tmps.toList[s]=.slice A 0 0),∃c',iM W0 b0 rd c' {st with fr:=st.fr.set s (.val (.list t) [])} a ats/\c.Mono c'/\c'.w=c.w:=fun q=>
  ⟨c,⟨d.hp,d.nxt,d.ok,bH.setL _ _ _ d.fr fun f=>by
   obtain⟨A,V⟩:=q f;rw[V];simp only[bP];exact(VD.leaf rfl).2 ⟨A,0,[],rfl,ae _,rfl,.inl rfl⟩,d.stk,d.df,d.rd⟩,Cx.Mono.refl c,rfl⟩
 unfold DZ at h;split at h
 .simp_all [bP]
 .simp_all [bP]
 .rename_i id ag G
  rw[G]at E;split at h
  .rename_i u w I v
   replace h:=dB h;obtain⟨y,h⟩:=h;simp only[af,beq_iff_eq]at y;obtain⟨rfl,J⟩:=y;cases h;obtain⟨B,W,K,X⟩:=st;have M:=d.hp;simp only at M v J G;subst M;have Y:bH c (B.set s .undef) a.tmps.toList:=bH.setL _ _ _ d.fr fun _=>by simp[bP]
   have hk:=Cx.keeps_filter (c:=c) (p:=fun i=> !Nat.beq i id) (uF J);have Z:=d.ok.filter (p:=fun i=> !Nat.beq i id) hk.right;have l:iM W0 b0 rd {c with hp:=c.hp.filter fun e=> !Nat.beq e.1 id} ⟨B.set s .undef,W,c.hp.filter fun e=> !Nat.beq e.1 id,X⟩ a ats:=
    ⟨rfl,d.nxt,Z,bH.keeps _ _ hk.left.left Y,Dl.keeps _ _ hk.left.right d.stk,d.df,d.rd⟩
   refine⟨{c with hp:=c.hp.filter fun e=> !Nat.beq e.1 id},⟨rfl,l.nxt,l.ok, ?_,l.stk,l.df,l.rd⟩,⟨fun _ h=>h,fun b L h=>⟨L,h⟩,ae _,rfl,TC c fun i=> !Nat.beq i id⟩,rfl⟩;have iT:=bH.setL (z:=.val (.list u) I) s _ _ l.fr fun f=>by
    have q:=E f;simp only[bP]at q ⊢;have N:=(q.2.2 _ _ _ v).2 rfl;simp only[ja]at N;obtain⟨ah,e,zs,O,hL,ai⟩:=d.ok.obj id _ v;rw[N];have ab:=gp.mono (fB.mono hk.free u) _ _ hL;rcases O.2 with ⟨m,S⟩|⟨g,ak,al,m,S,e3,e4,e5,e6,e7⟩
    .have hx:I=[]:=bz S;subst hx;rw[m];exact(VD.leaf rfl).2 ⟨a7,0,[],rfl,ae _,rfl,.inl rfl⟩
    .obtain⟨a2,an,U,f2,f3⟩:=Nb O;rw[m]at U;cases U;rw[m];refine(VD.leaf rfl).2 ⟨_,_,zs,rfl,e4,ab,f3.imp (fun h=>h) fun⟨g',q1,q2,q4,q3⟩=> ?_⟩;cases q1;refine⟨g,0,rfl,⟨q2, ?_, ?_,fun y=>(d.ok.bar _ y).2.1 ⟨id,_,v,by simp[dJ.blk,m,Value.ownBlock]⟩⟩,q3⟩
     .rintro ⟨j,o,x,h2⟩;simp only at x;rw[jR (fun i=> !Nat.beq i id)]at x;split at x
      .rename_i hj
       have:=d.ok.inj j id o _ g x v h2 (by simp[dJ.blk,m,Value.ownBlock]);simp_all
      .cases x
     .intro hm;obtain⟨_,hd⟩:=d.ok.mks g hm;simp_all
   simp_all
  .cases h
 .cases h
 .cases h;exact⟨c,d,Cx.Mono.refl c,rfl⟩
theorem Y0 (d:iM W0 b0 rd c st a ats) {id off:Nat} {t:Ty} {q:St} (h:TD id off t st=a6 q): ∃c',iM W0 b0 rd c' q a ats/\c.Mono c'/\c'.w=c.w:=by
 have same:a6 st=a6 q-> ∃c',iM W0 b0 rd c' q a ats/\c.Mono c'/\c'.w=c.w:=fun h=>by cases h;exact⟨c,d,Cx.Mono.refl c,rfl⟩
 obtain⟨N,O,S,u⟩:=st;simp only[TD]at h;split at h
 .rename_i i cs U
  split at h
  .rename_i J
   split at h
   .rename_i K
    cases h;have l:dM c.hp id=a6 (.box i cs):=by rw[d.hp];exact U
    obtain⟨x,us,z,s,A⟩:=d.ok.obj id _ l;have M: ∀m:off<us.toList.length,us.toList[off]=.slice a7 0 0:=fun m=>by
     have:=bH.getD s off;rw[J,Array.getD,dif_pos (by simpa using m)]at this
     assumption
    have p:(dJ.box i cs).like (c.mu id) (.box i (cs.set off (.val (.list K) []))) (c.mu id):=rfl;have j:=Cx.Le.put (w:=c.w) d.ok l p (ae _) (fun _ _ _=>rfl) (fun b f=>.inl f) (fun b L _ o=>⟨L,o⟩);have B:=Cx.Ok.put (w:=c.w) d.ok l p d.ok.bel (ae _) (fun _ _ _=>rfl) (fun b f=>.inl f) (fun b L _ o=>⟨L,o⟩) (by
     refine⟨by simp only[Cx.put,upd_same];exact x,us,by simp only[Cx.put,upd_same];exact z, ?_,A⟩;exact bH.le j _ _ (bH.setL off _ _ s fun m=>by
      rw[M m];simp only[bP];exact(VD.leaf rfl).2 ⟨a7,0,[],rfl,ae _,rfl,.inl rfl⟩))
    refine⟨c.put id (.box i (cs.set off (.val (.list K) []))) (c.mu id) c.w,⟨?_,d.nxt,B,bH.le j _ _ d.fr,Dl.le j _ _ d.stk, ?_, ?_⟩,j.mono,rfl⟩
    .simp only[Cx.put];rw[d.hp]
    .obtain⟨D,E,G,I⟩:=d.df;exact⟨D,E,G,I⟩
    .exact d.rd
   generalize id+500000+2000*off=nm at h;split at h
   .cases h
   .rename_i V
    rw[cond_eq_ite]at h;split at h
    .rename_i f
     cases h;simp only[af]at f;have W:u<=nm:=by simpa [Nat.ble_eq] using f.1
     have X:0<t.size:=by have:=f.2;simp[Nat.blt]at this;omega
     have Z:nm≠id:=fun e=>by simp_all
     obtain⟨c',hd,Y,hv⟩:=qX d.ok (st:=⟨N,O,S,u⟩) d.hp d.nxt V W (ae u) (y:=t) X (xs:=[]) (v:=.slice a7 0 0) (w:=c.w) (Below.refl _ _) oV [] ⟨by simp,.inl ⟨rfl,rfl⟩⟩ (by simp[gp]) rfl (fun _=>rfl);have g:=d.did hd;have l:dM c'.hp id=a6 (.box i cs):=by
      rw[hd.hp];simp only[dY]
      grind
     obtain⟨x,us,z,s,A⟩:=g.ok.obj id _ l;have M: ∀m:off<us.toList.length,us.toList[off]=.slice a7 0 0:=fun m=>by
      have:=bH.getD s off;rw[J,Array.getD,dif_pos (by simpa using m)]at this
      assumption
     have p:(dJ.box i cs).like (c'.mu id) (.box i (cs.set off (.slc nm 0 a7))) (c'.mu id):=rfl;have j:=Cx.Le.put (w:=c'.w) g.ok l p (ae _) (fun _ _ _=>rfl) (fun b f=>.inl f) (fun b L _ o=>⟨L,o⟩);have B:=Cx.Ok.put (w:=c'.w) g.ok l p g.ok.bel (ae _) (fun _ _ _=>rfl) (fun b f=>.inl f) (fun b L _ o=>⟨L,o⟩) (by
      refine⟨by simp only[Cx.put,upd_same];exact x,us,by simp only[Cx.put,upd_same];exact z, ?_,A⟩
      grind [bH.le,bH.setL])
     refine⟨c'.put id (.box i (cs.set off (.slc nm 0 a7))) (c'.mu id) c'.w,⟨?_,g.nxt,B,bH.le j _ _ g.fr,Dl.le j _ _ g.stk, ?_, ?_⟩,hd.le.mono.trans j.mono,Y⟩
     .simp only[Cx.put];rw[hd.hp]
     .obtain⟨D,E,G,I⟩:=g.df;exact⟨D,E,G,I⟩
     .exact g.rd
    .cases h
  .exact same h
 .exact same h
theorem Wh (k:Nat) (o:dJ) (i:Nat): ∀h:gG,dM (arf k o h) i=if k=i then a6 o else dM h i
 |[]=>by simp[arf,dY]
 |(j,p)::h=>by
  simp only[arf];rw[cond_eq_ite];split
  .rw[dY]
  .rename_i d
   have f:j≠k:=fun e=>d (by simp_all);rw[dY,Wh k o i h,dY]
   grind
theorem xA (i:Nat): ∀h:gG,dM (lG h) i=dM h i
 |[]=>rfl
 |(k,o)::h=>by simp only[lG];rw[Wh,xA i h,dY]
theorem iM.sorted (d:iM W0 b0 rd c st a ats): ∃c',iM W0 b0 rd c' {st with hp:=lG st.hp} a ats/\c.Mono c'/\c'.w=c.w:=by
 have g: ∀i,dM (lG c.hp) i=dM c.hp i:=fun i=>xA i _;have q: ∀(o:dJ) (l:Loc),o.like l o l:=fun o l=>by
  cases o<;>simp[dJ.like]
 have e:c.Le {c with hp:=lG c.hp}:=by
  refine⟨fun b f=>⟨⟨f.1,fun⟨j,o,s,m⟩=>f.2.1 ⟨j,o,by simp_all,m⟩,f.2.2⟩,rfl⟩,fun id hk=> ?_,fun id u _ h=>⟨u,by rw[<-g];exact h,q _ _⟩,fun _ h=>h,fun b L h=>⟨L,h⟩,ae _,rfl⟩;rcases hk with ⟨o,h⟩|h
  .exact .inl ⟨o,by simp_all⟩
  .exact .inr h
 have v:({c with hp:=lG c.hp}:Cx).Ok W0:=by
  refine⟨d.ok.bel,fun id o h=> ?_,fun i j o p b s m=>d.ok.inj i j o p b (by simp_all) (by simp_all),d.ok.mks,fun b f=>(e.out b (d.ok.bar b f)).1,d.ok.phi⟩;exact(d.ok.obj id o (by rw[<-g];exact h)).le e rfl fun b _=>rfl
 exact⟨{c with hp:=lG c.hp},⟨by show lG c.hp=lG st.hp;rw[d.hp],d.nxt,v,bH.le e _ _ d.fr,Dl.le e _ _ d.stk,d.df,d.rd⟩,e.mono,rfl⟩
theorem adS (e:iM W0 b0 rd c st a ats) {id off:Nat} {t:Ty} {d:St} (h:Py id off t st=a6 d): ∃c',iM W0 b0 rd c' d a ats/\c.Mono c'/\c'.w=c.w:=by
 simp only[Py]at h;split at h
 .rename_i q f
  cases h;obtain⟨s,g,i,j⟩:=Y0 e f;obtain⟨l,m,o,p⟩:=g.sorted;exact⟨l,m,i.trans o,p.trans j⟩
 .cases h
theorem ag1 (g:iM W0 b0 rd c st a ats) {s id N:Nat} {u:TypeId} {xs:List bK} (hn:st.fr.getD s .undef=.ptr id 0) (K:dM st.hp id=a6 (.box u xs)) (aF:id≠N)
  (ab:st.nxt.ble N=true) (ad:Ej [id,N] (lF (st.fr.set s .undef)++sH st.stk++(lF xs++xK (st.hp.filter fun e=> !(Nat.beq e.1 id||Nat.beq e.1 N))))=true):
  ∃c',iM W0 b0 rd c' {st with fr:=st.fr.set s (.ptr N 0),hp:=lG ((N,.box u xs)::st.hp.filter fun e=> !(Nat.beq e.1 id||Nat.beq e.1 N))} a ats/\c.Mono c'/\c'.w=c.w:=by
 have au: ∀U:s<a.tmps.toList.length,bP c (.ptr id 0) a.tmps.toList[s]:=fun U=>by
  have:=g.fr.getD s;rw[hn]at this;rwa [Array.getD,dif_pos (by simpa using U)]at this
 obtain⟨fr,stk,hp,nxt⟩:=st;have ag:=g.hp;have ah:=g.nxt;simp only at ag K ad hn ab ah;subst ag;subst ah;have ab:c.nxt<=N:=by simp_all
 have X: ∀i∈lF (fr.set s .undef)++sH stk++(lF xs++xK (c.hp.filter fun e=> !(Nat.beq e.1 id||Nat.beq e.1 N))),i≠id/\i≠N:=fun i A=>by
  have:=uF ad i A;simp_all
 have V: ∀i,dM (lG ((N,.box u xs)::c.hp.filter fun e=> !(Nat.beq e.1 id||Nat.beq e.1 N))) i=if N=i then a6 (.box u xs)else if i=id then a7 else dM c.hp i:=fun i=>by
  rw[xA,dY];split
  .rfl
  .rename_i av
   rw[jR (fun i=> !(Nat.beq i id||Nat.beq i N))];have d:Nat.beq i N=false:=Bool.eq_false_iff.2 fun h=>av (aj h).symm;simp_all [Bool.eq_false_iff]
 generalize hH:lG ((N,.box u xs)::c.hp.filter fun e=> !(Nat.beq e.1 id||Nat.beq e.1 N))=H at*;generalize E:({c with mu:=Go.Proofs.YtkichehglnecnaaGreatDoor.upd c.mu N (c.mu id),hp:=H}:Cx)=c2;have M:c2.hp=H:=by rw[<-E]
 have B:c2.w=c.w:=by rw[<-E]
 have ai:c2.nxt=c.nxt:=by rw[<-E]
 have W:c2.mks=c.mks:=by rw[<-E]
 have ak:c2.bar=c.bar:=by rw[<-E]
 have O:c2.mu N=c.mu id:=by rw[<-E];exact upd_same ..
 have J: ∀i,i≠N->c2.mu i=c.mu i:=fun i A=>by rw[<-E];simp[Go.Proofs.YtkichehglnecnaaGreatDoor.upd,A]
 have al: ∀b,(∃i o,dM c2.hp i=a6 o/\o.blk (c2.mu i)=a6 b)-> ∃i o,dM c.hp i=a6 o/\o.blk (c.mu i)=a6 b:=fun b ⟨i,o,d,m⟩=>by
  grind
 have an: ∀b,c.out b->c2.out b:=fun b D=>⟨by rw[B];exact D.1,fun h=>D.2.1 (al b h),by rw[W];exact D.2.2⟩;have aw: ∀b,c.free b->c2.free b/\c2.w.heap[b]? =c.w.heap[b]? :=fun b D=>⟨⟨by rw[B];exact D.1,fun h=>D.2.1 (al b h),by rw[W,ak];exact D.2.2⟩,by rw[B]⟩;have keeps: ∀l:List Nat,(∀i∈l,i≠id/\i≠N)->c.Keeps c2 l:=fun l Y=>by
  refine⟨aw,fun i A hk=> ?_,fun i A o' x=> ?_⟩
  .rcases hk with ⟨o,x⟩|hk
   .left
    grind
   .right;rw[ai];exact hk
  .rw[M,V,aq (fun e=>(Y i A).2 e.symm),aq (Y i A).1]at x;refine⟨o',x, ?_⟩;rw[J i (Y i A).2];exact o'.like_refl _
 have ax: ∀i o,i≠id->i≠N->dM c.hp i=a6 o->(i,o)∈c.hp.filter fun e=> !(Nat.beq e.1 id||Nat.beq e.1 N):=fun i o A ay x=>List.mem_filter.2 ⟨xy _ _ _ x,by
  have d:Nat.beq i N=false:=Bool.eq_false_iff.2 fun h=>ay (aj h);have m:Nat.beq i id=false:=Bool.eq_false_iff.2 fun h=>A (aj h);simp_all⟩
 have az:c2.Ok W0:=by
  refine⟨by rw[B];exact g.ok.bel,fun i o x=> ?_,fun i j o q b d m v y=> ?_,fun r aG=>by rw[B];exact g.ok.mks r (by simp_all),fun b D=>an b (g.ok.bar b (by simp_all)),g.ok.phi⟩
  .rw[M,V]at x;split at x
   .rename_i e;subst e;cases x
    obtain⟨d,Z,m,v,y⟩:=g.ok.obj id _ K;exact⟨by rw[O];exact d,Z,by rw[B,O];exact m,bH.keeps _ _ (keeps _ fun j hj=>X j (bu _ (List.mem_append_left _ hj))) v,y⟩
   .rename_i e
    split at x
    .cases x
    .rename_i G
     have I:=g.ok.obj i o x;have hm:=ax i o G (fun q=>e q.symm) x;have hk:=fun j hj=>X j (bu _ (bu _ (Ba _ _ hm j hj)));have ao:=J i (fun q=>e q.symm);cases o with
     |box e cs=>
      obtain⟨d,Z,m,v,y⟩:=I;refine⟨by rw[ao];exact d,Z,by simp_all,bH.keeps _ _ (keeps _ hk) v,y⟩
     |arr t ver xs=>
      obtain⟨I,e,zs,d,m,v⟩:=I;refine⟨I,e,zs,by simp_all, ?_,v⟩
      grind [gp.mono,fB.mono]
     |lp f fr ps jk bd ky n p=>
      obtain⟨I,d,L,m,v,y⟩:=I;refine⟨I,by rw[ao];exact d,L,by simp_all,bH.keeps _ _ (keeps _ hk) v,y⟩
     |dead=>trivial
     |mp kk vk es=>
      simp_all [Cx.ORel]
  .rw[M,V]at d m;split at d<;>split at m
   .omega
   .rename_i S G
    split at m
    .cases m
    .rename_i e3
     subst S;cases d;rw[O]at v;rw[J j (fun q=>G q.symm)]at y;exact absurd (g.ok.inj id j _ q b K m v y).symm e3
   .rename_i S G
    split at d
    .cases d
    .rename_i e3
     subst G;cases m;rw[O]at y;rw[J i (fun q=>S q.symm)]at v;exact absurd (g.ok.inj i id o _ b d K v y) e3
   .rename_i S G
    split at d
    .cases d
    .split at m
     .cases m
     .rw[J i (fun q=>S q.symm)]at v;rw[J j (fun q=>G q.symm)]at y;exact g.ok.inj i j o q b d m v y
 have aA:bH c (fr.set s .undef) a.tmps.toList:=bH.setL _ _ _ g.fr fun _=>by simp[bP]
 have kl:=keeps _ X;have aB:=bH.keeps _ _ kl.left.left aA;have iT:=bH.setL (z:=.ptr N 0) s _ _ aB fun U=>by
  have hv:=au U;simp only[bP]at hv ⊢;exact⟨hv.1,.inl ⟨_,by rw[M,V,am rfl]⟩,fun _ _ _=>by rw[O];exact hv.2.2 _ _ K⟩
 rw[List.set_set]at iT;exact⟨c2,⟨by rw[M],ai,az,iT,Dl.keeps _ _ kl.left.right g.stk,by rw[W];exact g.df,by rw[B];exact g.rd⟩,
  ⟨fun _ h=>by rw[W];exact h,fun b L h=>⟨L,by rw[B];exact h⟩,by simp_all,ak,fun b D=>⟨an b D,by rw[B]⟩⟩,B⟩
theorem adZ (d:iM W0 b0 rd c st a ats) {s:Nat} {t:Ty} {ab:St} (h:PY s t st=a6 ab): ∃c',iM W0 b0 rd c' ab a ats/\c.Mono c'/\c'.w=c.w:=by
 have ad: ∀W:s<a.tmps.toList.length,bP c (st.fr.getD s .undef) a.tmps.toList[s]:=fun W=>by
  have:=d.fr.getD s;rwa [Array.getD,dif_pos (by simpa using W)]at this
 unfold PY at h;generalize hN:1000000*st.stk.length+800000+s=N at h;split at h
 .rename_i id ag X
  rw[X]at ad;rw[cond_eq_ite]at h;split at h
  .cases h;exact d.sorted
  .rename_i K
   have K:id≠N:=fun e=>K (by simp[e]);split at h
   .rename_i u w S M
    obtain⟨g,h⟩:=dB h;simp only[af]at g;obtain⟨ah,ai⟩:=g;cases h;obtain⟨fr,az,hp,aX⟩:=st;have ak:=d.hp;have al:=d.nxt;simp only at ak M ai X ah al;subst ak;subst al;have ah:c.nxt<=N:=by simp_all
    have an: ∀i∈lF (fr.set s .undef)++sH az++xK (c.hp.filter fun e=> !(Nat.beq e.1 id||Nat.beq e.1 N)),i≠id/\i≠N:=fun i B=>by
     have:=uF ai i B;simp_all
    have Y: ∀i,dM (lG ((N,.arr u w S)::c.hp.filter fun e=> !(Nat.beq e.1 id||Nat.beq e.1 N))) i=if N=i then a6 (.arr u w S)else if i=id then a7 else dM c.hp i:=fun i=>by
     rw[xA,dY];split
     .rfl
     .rename_i aA
      rw[jR (fun i=> !(Nat.beq i id||Nat.beq i N))];have m:Nat.beq i N=false:=Bool.eq_false_iff.2 fun h=>aA (aj h).symm;simp_all [Bool.eq_false_iff]
    generalize hH:lG ((N,.arr u w S)::c.hp.filter fun e=> !(Nat.beq e.1 id||Nat.beq e.1 N))=H at*;generalize G:({c with mu:=Go.Proofs.YtkichehglnecnaaGreatDoor.upd c.mu N (c.mu id),hp:=H}:Cx)=v;have U:v.hp=H:=by rw[<-G]
    have E:v.w=c.w:=by rw[<-G]
    have ao:v.nxt=c.nxt:=by rw[<-G]
    have Z:v.mks=c.mks:=by rw[<-G]
    have au:v.bar=c.bar:=by rw[<-G]
    have av:v.mu N=c.mu id:=by rw[<-G];exact upd_same ..
    have O: ∀i,i≠N->v.mu i=c.mu i:=fun i B=>by rw[<-G];simp[Go.Proofs.YtkichehglnecnaaGreatDoor.upd,B]
    have aw: ∀b,(∃i o,dM v.hp i=a6 o/\o.blk (v.mu i)=a6 b)-> ∃i o,dM c.hp i=a6 o/\o.blk (c.mu i)=a6 b:=fun b ⟨i,o,m,y⟩=>by
     grind
    have ax: ∀b,c.out b->v.out b:=fun b g=>⟨by rw[E];exact g.1,fun h=>g.2.1 (aw b h),by rw[Z];exact g.2.2⟩;have aB: ∀b,c.free b->v.free b/\v.w.heap[b]? =c.w.heap[b]? :=fun b g=>⟨⟨by rw[E];exact g.1,fun h=>g.2.1 (aw b h),by rw[Z,au];exact g.2.2⟩,by rw[E]⟩;have keeps: ∀l:List Nat,(∀i∈l,i≠id/\i≠N)->c.Keeps v l:=fun l hl=>by
     refine⟨aB,fun i B hk=> ?_,fun i B o' x=> ?_⟩
     .rcases hk with ⟨o,x⟩|hk
      .left
       grind
      .right;rw[ao];exact hk
     .rw[U,Y,aq (fun e=>(hl i B).2 e.symm),aq (hl i B).1]at x;refine⟨o',x, ?_⟩;rw[O i (hl i B).2];exact o'.like_refl _
    have aF: ∀i o,i≠id->i≠N->dM c.hp i=a6 o->(i,o)∈c.hp.filter fun e=> !(Nat.beq e.1 id||Nat.beq e.1 N):=fun i o B aG x=>List.mem_filter.2 ⟨xy _ _ _ x,by
     have m:Nat.beq i N=false:=Bool.eq_false_iff.2 fun h=>aG (aj h);have y:Nat.beq i id=false:=Bool.eq_false_iff.2 fun h=>B (aj h);simp_all⟩
    have aH:v.Ok W0:=by
     refine⟨by rw[E];exact d.ok.bel,fun i o x=> ?_,fun i j o q b m y A D=> ?_,fun r aY=>by rw[E];exact d.ok.mks r (by simp_all),fun b g=>ax b (d.ok.bar b (by simp_all)),d.ok.phi⟩
     .rw[U,Y]at x;split at x
      .rename_i e;subst e;cases x
       obtain⟨aI,e,zs,aZ,hL,aJ⟩:=d.ok.obj id _ M;refine⟨aI,e,zs, ?_, ?_,aJ⟩
       .simp_all
       grind [gp.mono,fB.mono]
      .rename_i e
       split at x
       .cases x
       .rename_i I
        have J:=d.ok.obj i o x;have hm:=aF i o I (fun q=>e q.symm) x;have hk:=fun j hj=>an j (bu _ (Ba _ _ hm j hj));have ay:=O i (fun q=>e q.symm);cases o with
        |box e cs=>
         obtain⟨m,vs,y,A,D⟩:=J;refine⟨by rw[ay];exact m,vs,by simp_all,bH.keeps _ _ (keeps _ hk) A,D⟩
        |arr t ag S=>
         obtain⟨J,e,zs,m,y,A⟩:=J;refine⟨J,e,zs,by simp_all, ?_,A⟩
         grind [gp.mono,fB.mono]
        |lp f fr ps jk bd ky n p=>
         obtain⟨J,m,L,y,A,D⟩:=J;refine⟨J,by rw[ay];exact m,L,by simp_all,bH.keeps _ _ (keeps _ hk) A,D⟩
        |dead=>trivial
        |mp kk vk es=>
         simp_all [Cx.ORel]
     .rw[U,Y]at m y;split at m<;>split at y
      .omega
      .rename_i V I
       split at y
       .cases y
       .rename_i e3
        subst V;cases m;rw[av]at A;rw[O j (fun q=>I q.symm)]at D;exact absurd (d.ok.inj id j _ q b M y A D).symm e3
      .rename_i V I
       split at m
       .cases m
       .rename_i e3
        subst I;cases y;rw[av]at D;rw[O i (fun q=>V q.symm)]at A;exact absurd (d.ok.inj i id o _ b m M A D) e3
      .rename_i V I
       split at m
       .cases m
       .split at y
        .cases y
        .rw[O i (fun q=>V q.symm)]at A;rw[O j (fun q=>I q.symm)]at D;exact d.ok.inj i j o q b m y A D
    have aK:bH c (fr.set s .undef) a.tmps.toList:=bH.setL _ _ _ d.fr fun _=>by simp[bP]
    have kl:=keeps _ an;have aO:=bH.keeps _ _ kl.left.left aK;have iT:=bH.setL (z:=.slc N ag a7) s _ _ aO fun W=>by
     have hv:=ad W;simp only[bP]at hv ⊢;refine⟨hv.1,.inl ⟨_,by rw[U,Y,am rfl]⟩,fun t' u' bf bg=> ?_⟩
     grind
    rw[List.set_set]at iT;exact⟨v,⟨by rw[U],ao,aH,iT,Dl.keeps _ _ kl.left.right d.stk,by rw[Z];exact d.df,by rw[E];exact d.rd⟩,
     ⟨fun _ h=>by rw[Z];exact h,fun b L h=>⟨L,by rw[E];exact h⟩,by simp_all,au,fun b g=>⟨ax b g,by rw[E]⟩⟩,E⟩
   .cases h
 .rename_i id X
  rw[cond_eq_ite]at h;split at h
  .cases h;exact d.sorted
  .rename_i K
   have K:id≠N:=fun e=>K (by simp[e]);split at h
   .rename_i u S M
    obtain⟨g,h⟩:=dB h;simp only[af]at g;cases h;exact ag1 d X M K g.1 g.2
   .cases h
 .cases x:yO s t st with
  |none=>simp_all
  |some bi=>
   rw[x]at h;cases h;obtain⟨c1,aP,aQ,aS⟩:=Ox d x;obtain⟨v,aU,aV,aW⟩:=aP.sorted;exact⟨v,aU,aQ.trans aV,aW.trans aS⟩
theorem Vo {s:Nat} {t:Ty} {l:List (Nat×Ty)} {st d:St} (h:jC ((s,t)::l) st=a6 d):(∃t' st1,DZ s t' st=a6 st1/\jC l st1=a6 d)\/(∃t' st1,Py (s/100) (s %100) t' st=a6 st1/\jC l st1=a6 d)\/(∃t' st1,PY s t' st=a6 st1/\jC l st1=a6 d)\/ ∃st1,yO s t st=a6 st1/\jC l st1=a6 d:=by
 have own:(match yO s t st with|some st=>jC l st|none=>a7)=a6 d-> ∃st1,yO s t st=a6 st1/\jC l st1=a6 d:=fun h=>by
  grind
 cases t with
 |pair x y=>
  cases x with
  |unit=>
   grind [jC]
  |list z=>
   cases z with
   |unit=>
    grind [jC]
   |bool=>
    grind [jC]
   |_=>right;right;right;exact own h
  |_=>right;right;right;exact own h
 |_=>right;right;right;exact own h
theorem qY: ∀(l:List (Nat×Ty)) {c:Cx} {st:St},iM W0 b0 rd c st a ats-> ∀{u:St},jC l st=a6 u-> ∃c',iM W0 b0 rd c' u a ats/\c.Mono c'/\c'.w=c.w
 |[],c,st,q,u,h=>by cases h;exact⟨c,q,Cx.Mono.refl c,rfl⟩
 |(s,t)::l,c,st,q,u,h=>by
  rcases Vo h with ⟨y,v,d,e⟩|⟨y,v,d,e⟩|⟨y,v,d,e⟩|⟨v,d,e⟩
  .obtain⟨x,f,g,i⟩:=JM q d;obtain⟨j,m,o,p⟩:=qY l f e;exact⟨j,m,g.trans o,p.trans i⟩
  .obtain⟨x,f,g,i⟩:=adS q d;obtain⟨j,m,o,p⟩:=qY l f e;exact⟨j,m,g.trans o,p.trans i⟩
  .obtain⟨x,f,g,i⟩:=adZ q d;obtain⟨j,m,o,p⟩:=qY l f e;exact⟨j,m,g.trans o,p.trans i⟩
  .obtain⟨x,f,g,i⟩:=Ox q d;obtain⟨j,m,o,p⟩:=qY l f e;exact⟨j,m,g.trans o,p.trans i⟩
theorem qc (d:iM W0 b0 rd c st a ats) {y:List Nat} {i:List (Nat×Ty)} {e:St} (h:LG y i st=a6 e): ∃c',iM W0 b0 rd c' e a ats/\c.Mono c'/\c'.w=c.w:=by
 have j:iM W0 b0 rd c {st with fr:=Ha y 0 st.fr} a ats:=⟨d.hp,d.nxt,d.ok,AL 0 _ _ d.fr,d.stk,d.df,d.rd⟩;have go: ∀{f:Cx} {l:St},iM W0 b0 rd f l a ats->(match jC i l with
   |some st=>match gc (1000000*st.stk.length) .undef st with
    |some st=>a6 (XE st)
    |none=>a7
   |none=>a7)=a6 e-> ∃c',iM W0 b0 rd c' e a ats/\f.Mono c'/\c'.w=f.w:=fun {f l} j h=>by
  split at h
  .rename_i A g
   obtain⟨B,m,o,p⟩:=qY i j g;split at h
   .rename_i K D
    cases h;obtain⟨z,q,_,s,x,_,_⟩:=m.gc (v:=.undef) (u:=undef) (by simp[bP]) D;obtain⟨E,G,I,J⟩:=q.anew;exact⟨E,G,(o.trans s).trans I,J.trans (x.trans p)⟩
   .cases h
  .cases h
 unfold LG at h;split at h
 .rename_i A g
  split at g
  .grind
  .obtain⟨B,m,_,o,p,_,_⟩:=j.gc (v:=.undef) (u:=undef) (by simp[bP]) g;obtain⟨z,q,s,x⟩:=go m h;exact⟨z,q,o.trans s,x.trans p⟩
 .cases h
theorem G8: ∀(l:List (Nat×Ty)) {c:Cx} {st:St},iM W0 b0 rd c st a ats-> ∀{d:St},Fh l st=a6 d-> ∃c',iM W0 b0 rd c' d a ats/\c.Mono c'/\c'.w=c.w
 |[],c,st,e,d,h=>by cases h;exact⟨c,e,Cx.Mono.refl c,rfl⟩
 |(s,t)::l,c,st,e,d,h=>by
  simp only[Fh]at h;split at h
  .rename_i u f
   obtain⟨v,g,i,j⟩:=JM e f;obtain⟨m,o,p,q⟩:=G8 l g h;exact⟨m,o,i.trans p,q.trans j⟩
  .cases h
theorem Xv (d:iM W0 b0 rd c st a ats) {k:eG} {e:St} (h:avx k st=a6 e): ∃c',iM W0 b0 rd c' e a ats/\c.Mono c'/\c'.w=c.w:=by
 simp only[avx]at h;split at h
 .rename_i A f
  have g:iM W0 b0 rd c {st with fr:=Ha k.rets 0 st.fr} a ats:=⟨d.hp,d.nxt,d.ok,AL 0 _ _ d.fr,d.stk,d.df,d.rd⟩;obtain⟨B,i,j,l⟩:=G8 k.give g f;split at h
  .rename_i D m
   cases h;obtain⟨E,o,_,p,q,_,_⟩:=i.gc (v:=.undef) (u:=undef) (by simp[bP]) m;obtain⟨s,x,y,z⟩:=o.anew;exact⟨s,x,(j.trans p).trans y,z.trans (q.trans l)⟩
  .cases h
 .cases h
end
end
section
open Option renaming some → a6, none → a7
open Bool renaming and_eq_true → af, false_eq_true → ah
open List renaming mem_cons_of_mem → au
open Nat renaming le_refl → ae, lt_or_ge → az
open Go.RowKit
def nI {R:Type} (P:Program) (call:gy R):Prop:=
 ∀(W0:World) (b0:Nat) (rd:Option Nat) (j:bK) (l:List bK) (o:Option Nat) (st:St) (K:bK->St->Option R) (r:R),call j l o st K=a6 r->
  ∀(c:Cx) (a:Act) (ats:List (Array Value)) (h:Value) (i:Array Value),iM W0 b0 rd c st a ats->bP c j h->bH c l i.toList->
   ∃z v,K z st=a6 r/\bP c z v/\ ∀f,GK c f->(∃g m,(do let d<-Deferred.ofValue h i;invoke d.target d.args:Sem Next).run P f=.ok (.enter g m) f/\
    Calls P g m f (fun e p=>e=.returned v/\GK c p))\/(do let d<-Deferred.ofValue h i;invoke d.target d.args:Sem Next).run P f=.ok (.value v) f
section
variable {P:Program} {T:TT} {W0:World} {b0 n:Nat} {rd:Option Nat} {c:Cx} {R:Type} {r:R} {st:St} {a:Act} {ats:List (Array Value)}
theorem iM.ext (h:iM W0 b0 rd c st a ats) {w:World} (e:GK c w):iM W0 b0 rd (c.at_ w) st a ats:=by
 have d:=Cx.Le.ext e;exact⟨h.hp,h.nxt,h.ok.ext e,bH.le d _ _ h.fr,Dl.le d _ _ h.stk,let⟨f,g,i,j⟩:=h.df;⟨f,g,i,j⟩,fun l m=>let⟨L,o⟩:=h.rd l m;d.lp l L o⟩
theorem adQ (hT:TOk P T) {cl:Bool} {call:gy R} (L:nI P call) {o:Oper} (D:jI o.op=true) {K:bK->St->Option R} (h:dZ T cl call o st K=a6 r) (d:iM W0 b0 rd c st a ats):
  ∃z v,K z st=a6 r/\bP c z v/\ ∀w',GK c w'->o.quietAtIn (FW rd) n P a (GK c) w' v:=by
 by_cases hq2:iw o.op=true
 .obtain⟨z,u,j,l,p⟩:=A8 hT d.ok hq2 d.hp d.fr h;refine⟨z,u,j,l,fun w' q=> ?_⟩;unfold Oper.quietAtIn;rw[p w' q];exact⟨rfl,rfl⟩
 .obtain⟨s,M,E,G,I,J⟩:=o;cases M<;>simp only[jI,ah]at D<;>(try (exact absurd rfl hq2))
  case call cc=>
   obtain⟨y,e,i⟩:=cc;cases y with
   |builtin b=>cases b<;>simp only[ah]at D<;>exact absurd rfl hq2
   |invoke x m=>simp_all
   |value f=>
    simp only[dZ]at h;obtain⟨z,v,j,l,p⟩:=L W0 b0 rd _ _ s st K r h c a ats (a.eval f) (e.map a.eval) d (dN d.fr f) (by
     have:=bH.map_eval (c:=c) d.fr e.toList;simpa using this)
    refine⟨z,v,j,l,fun w' q=> ?_⟩;unfold Oper.quietAtIn;rcases p w' q with ⟨g,N,A,O⟩|A
    .have B:(execOp a.eval ⟨s,.call {callee:=.value f,args:=e,argTypes:=i},E,G,I,J⟩).run P w'=.ok (.enter g N) w':=A;rw[B];exact⟨rfl,uh rd,(callsIn_wide (n:=n-1)).2 O⟩
    .have B:(execOp a.eval ⟨s,.call {callee:=.value f,args:=e,argTypes:=i},E,G,I,J⟩).run P w'=.ok (.value v) w':=A;rw[B];exact⟨rfl,rfl⟩
theorem MV (hT:TOk P T) {cl:Bool} {call:gy R} (s:nI P call) (ops:Array Oper) {K:St->Option R}: ∀(l:List Oper) (st:St) (a:Act),(∀o∈l,jI o.op=true)->ig T cl call ops K l st=a6 r->iM W0 b0 rd c st a ats->
  wpQuietIn (FW rd) n P ops (GK c) (fun m=> ∃f,K f=a6 r/\iM W0 b0 rd c f m ats) l a
 |[],st,a,u,h,e=>by
  simp only[ig]at h;exact⟨st,h,e⟩
 |o::l,st,a,u,h,e=>by
  simp only[ig]at h;have D: ∀o∈l,jI o.op=true:=fun G I=>u G (au _ I);have y: ∀(st:St) (a:Act),iM W0 b0 rd c st a ats->dZ T cl call o st (fun v st=>ig T cl call ops K l (st.put o.dst v))=a6 r->
    o.quietIn (FW rd) n P a (GK c) (wpQuietIn (FW rd) n P ops (GK c) (fun m=> ∃f,K f=a6 r/\iM W0 b0 rd c f m ats) l):=fun st a e h=>by
   obtain⟨z,v,p,J,L⟩:=adQ (n:=n) hT s (u o (by simp)) h e;exact⟨v,L,MV hT s ops l _ _ D p (e.put J)⟩
  have A: ∀(st:St),iM W0 b0 rd c st a ats->ig T cl call ops K l (st.put o.dst (.tup []))=a6 r->wpQuietIn (FW rd) n P ops (GK c) (fun m=> ∃f,K f=a6 r/\iM W0 b0 rd c f m ats) l (a.put o.dst undef):=fun st e h=>
   MV hT s ops l (st.put o.dst (.tup [])) (a.put o.dst undef) D h (e.put (by simp only[bP];exact⟨#[],rfl,by simp[bH]⟩))
  simp only[wpQuietIn];refine⟨fun _ _ _ _=>trivial, ?_⟩;cases hg:o.guard with
  |none=>
   rw[hg]at h;rw[am (by simp[Region.wanted,hg])];exact y st a e h
  |some M=>
   obtain⟨j,N⟩:=M;rw[hg]at h;simp only at h;split at h
   .cases h
   .rename_i d hd
    have g:=I9 ops j d hd a.tmps;have i:=e.fr.getD d;split at h
    .rename_i b B
     rw[B]at i;simp only[bP]at i;have O:=i.bool_inv;have V:d<a.tmps.size:=by
      rcases az d a.tmps.size with p|p
      .exact p
      simp_all [undef]
     have E:a.tmps[d]? =a6 (.bool b):=by
      simp_all
     rw[E]at g;simp only at g;have S:a.put (a6 d) (.bool b)=a:=by
      simp only[Act.put];obtain⟨W,X⟩:=Array.getElem?_eq_some_iff.1 E;have:a.tmps.setIfInBounds d (.bool b)=a.tmps:=by
       grind
      rw[this]
     have q:iM W0 b0 rd c (st.put (a6 d) (.val .bool b)) a ats:=by
      have:=e.put (dst:=a6 d) (z:=.val .bool b) (v:=.bool b) (by simp_all [bP]);rwa [S]at this
     cases b<;>cases N<;>(try simp only[aa,ac]at h)
     .rw[am (by simp[Region.wanted,hg,g])];exact y _ a q h
     .rw[aq (by simp[Region.wanted,hg,g])];exact A _ q h
     .rw[aq (by simp[Region.wanted,hg,g])];exact A _ q h
     .rw[am (by simp[Region.wanted,hg,g])];exact y _ a q h
    .rename_i B
     rw[B]at i;simp only[bP]at i;obtain⟨Y,O,_⟩:=i;have U:yielded ops a.tmps j=a7:=by
      rw[g];cases he:a.tmps[d]? with
      |none=>rfl
      |some x=>
       simp_all
     rw[aq (by simp[Region.wanted,hg,U])];exact A st e h
    .cases h
section
variable {ops:Array Oper} {md:Region.Mode} {C:World->Prop} {F:Fence}
theorem UX {o:Oper} (hd:qV o.op=false) {a:Act} {K:Act->Prop} {g:Act->World->Prop} {j:Exit->Act->World->Prop} {w:World} (i:C w) (h: ∀a w',C w'->K a->g a w')
  (l:o.askedIn F P a C) (m:o.quietIn F n P a C K):o.wpIn F n P a w g j:=by
 obtain⟨v,p,y⟩:=m;have d:=p w i;unfold Oper.quietAtIn at d;unfold Oper.wpIn;refine⟨l w i, ?_⟩;rw[xM hd];generalize (execOp a.eval o).run P w=r at*;cases r with
 |ok x w'=>
  cases x<;>simp only[Oper.quietUponIn]at d<;>simp only[Oper.uponIn]
  case value u=>
   simp_all
  case skip=>
   simp_all
  case enter f args=>
   obtain⟨q,hd,s⟩:=d;rw[q];exact⟨hd,s.mono fun e z ⟨A,B⟩=>by simp_all⟩
 |halt x w'=>simp only[Oper.quietUponIn]at d
theorem NP {i:Nat} (hd: ∀(i:Nat) (o:Oper),ops[i]? =a6 o->qV o.op=false) {a:Act} {K:Act->Prop} {f:Act->World->Prop} {j:Exit->Act->World->Prop} {w:World} (g:C w) (h: ∀a w',C w'->K a->f a w')
  (d:qOpIn F n P ops C i K a):wpOpIn F n P ops j i f a w:=by
 unfold qOpIn at d;unfold wpOpIn;split
 .simp_all
 .rename_i o l
  simp only[l]at d;obtain⟨m,d⟩:=d;split
  .rename_i e;simp only[e,if_true]at d;grind [UX]
  .rename_i e;simp only[e]at d;exact⟨m w g,h _ _ g d⟩
theorem zn {Q:Act->Prop} {g:Exit->Act->World->Prop} (hd: ∀(i:Nat) (o:Oper),ops[i]? =a6 o->qV o.op=false) (f: ∀a w,C w->Q a->g .normal a w): ∀(d:Nat) (j:Array Bool) (a:Act) (w:World),C w->
  wpAnyQIn F n P md ops C Q d j a->wpAnyIn F n P md ops g d j a w
 |0,_,_,_,e,h=>⟨h.1,f _ _ e h.2⟩
 |d+1,_,_,_,e,h=>⟨fun l=>f _ _ e (h.1 l),fun i m=>NP hd e (fun p q s=>zn hd f d _ p q s) (h.2 i m)⟩
theorem I8 {id:Nat} {Q:Exit->Act->World->Prop} {a:Act} {w:World} (hd: ∀(i:Nat) (o:Oper),ops[i]? =a6 o->qV o.op=false) (f:P.follows .mixedOrders=true) (d:Region.lexB .any ops=true) (g:C {w with drawn:=w.drawn+1})
  (h:wpQuietIn F n P ops C (fun e=> ∀w',C w'->Q .normal e w') ops.toList a):(Code.region id ops true).wpIn F n P Q a w:=by
 simp only[Region.lexB,af]at d;refine wpIn_region_any f (zn (Q:=fun e=> ∀w',C w'->Q .normal e w') hd (fun _ w' j h=>h w' j) _ _ _ _ g ?_);have:=wpAnyQIn_lex (F:=F) (n:=n) (C:=C) (md:=.any) d.1 ops.toList 0 (Array.replicate ops.size false) a (by simp) (by simpa using d.2) h;simpa using this
end
theorem xZ {F:Fence} {ops:Array Oper} {C:World->Prop} {Q g:Act->Prop} (h: ∀a,Q a->g a): ∀(l:List Oper) (a:Act),wpQuietIn F n P ops C Q l a->wpQuietIn F n P ops C g l a
 |[],a,d=>h a d
 |o::l,a,d=>by
  simp only[wpQuietIn]at d ⊢;refine⟨d.1, ?_⟩;have e:=d.2;split
  .rename_i f
   rw[am f]at e;exact Oper.quietIn_mono (xZ h l) e
  .rename_i f
   rw[aq f]at e;exact xZ h l _ e
theorem Vq {d:Op} (h:jI d=true):qV d=false:=by cases d<;>first|rfl|(simp[jI]at h)
theorem NT (hT:TOk P T) (l:P.follows .mixedOrders=true) {cl:Bool} {call:gy R} (m:nI P call) {id:Nat} {ops:Array Oper} (f:KN ops=true) {K:St->Option R} {Q:Exit->Act->World->Prop}
  (h:ig T cl call ops K ops.toList st=a6 r) (p:iM W0 b0 rd c st a ats) (q: ∀c' d e,K d=a6 r->iM W0 b0 rd c' d e ats->c.Mono c'->Q .normal e c'.w):
  (Code.region id ops true).wpIn (FW rd) n P Q a c.w:=by
 simp only[KN,af]at f;have g: ∀o∈ops.toList,jI o.op=true:=List.all_eq_true.1 f.1;refine I8 (C:=GK c) (fun i o y=>Vq (g o (by grind))) l f.2 ⟨rfl,rfl,rfl,ae _,fun _ _=>rfl⟩ ?_;refine xZ (fun e s u j=> ?_) _ _ (MV (n:=n) hT m ops ops.toList st a g h p);obtain⟨d,v,x⟩:=s;exact q (c.at_ u) d e v (x.ext j) (Cx.Le.ext j).mono
end
end
section
open Option renaming some → a6, none → a7
open Bool renaming and_eq_true → af, false_eq_true → ah
open List renaming map_cons → ak
open Nat renaming le_refl → ae
open Go.RowKit
section
variable {P:Program} {T:TT} {W0:World} {b0 n:Nat} {rd:Option Nat} {c:Cx} {R:Type} {r:R} {st:St} {a:Act} {ats:List (Array Value)} {t:TypeId}
theorem ayH (hT:TOk P T) (U:c.Ok W0) {cl:Bool} {call:gy R} {o:Oper} {st:St} {a:Act} {K:bK->St->Option R} (M:IP o.op=true) (I:c.hp=st.hp) (m:bH c st.fr a.tmps.toList)
  (h:dZ T cl call o st K=a6 r): ∃z u,K z st=a6 r/\bP c z u/\ ∀w',(execOp a.eval o).run P w'=.ok (.value u) w':=by
 have G: ∀{s:Sem Value} {u:Value} {w':World},s.run P w'=.ok u w'->(do pure (Next.value (<-s)):Sem Next).run P w'=.ok (.value u) w':=fun V=>by
  simp[Sem.run_bind,V]
 obtain⟨aw,W,ty,ax,ay,az⟩:=o;simp only at M;cases W<;>simp only[IP,ah]at M
 case move x=>exact⟨_,_,h,dN m x,fun w'=>rfl⟩
 case assign x=>exact⟨_,_,h,dN m x,fun w'=>rfl⟩
 case pick x y z=>
  simp only[dZ]at h;have X:=dN m x;split at h
  .rename_i b A
   rw[A]at X;simp only[bP]at X;have ab:=X.bool_inv;cases b
   .exact⟨_,_,h,dN m z,fun w'=>by simp[execOp,ab,asBool]⟩
   .exact⟨_,_,h,dN m y,fun w'=>by simp[execOp,ab,asBool]⟩
  .cases h
 case nilCheck x=>
  simp only[dZ]at h;have d:=dN m x;split at h
  .rename_i id aj J
   rw[J]at d;split at h
   .rename_i bt cs ad
    have N:=d;simp only[bP]at d;rw[<-I]at ad;have D:=d.2.2 _ _ ad;exact⟨_,_,h,N,fun w'=>by simp[execOp,D]⟩
   .cases h
  .rename_i y e J
   rw[J]at d;have N:=d;simp only[bP]at d;obtain⟨b,o,zs,D,_⟩:=d;exact⟨_,_,h,N,fun w'=>by simp[execOp,D]⟩
  .rename_i id an i aj J
   rw[J]at d;split at h
   .rename_i e u xs ag
    replace h:=dB h;obtain⟨E,h⟩:=h;have E:u=an:=by simpa using E
    subst E;have N:=d;simp only[bP]at d;rw[<-I]at ag;obtain⟨g,n,cp,_,D⟩:=(d.2.2 _ _ _ ag).2 rfl;exact⟨_,_,h,N,fun w'=>by simp[execOp,D]⟩
   .cases h
  .cases h
 case binOp W t x y yt=>
  simp only[dZ]at h;rw[<-I]at h;obtain⟨z,u,j,p,q⟩:=atq (P:=P) (ox:=x) (oy:=y) (K:=fun v=>K v st) hT U h (dN m x) (dN m y);exact⟨z,u,j,p,fun w'=>G (q w')⟩
 case unOp W t x=>
  simp only[dZ]at h;obtain⟨z,u,j,p,q⟩:=aHF (P:=P) (K:=fun v=>K v st) h (dN m x);exact⟨z,u,j,p,fun w'=>G (q w')⟩
 case slice t x lo hi mx=>
  simp only[dZ]at h;rw[<-I]at h;obtain⟨z,u,j,p,q⟩:=ajZ (P:=P) (K:=fun v=>K v st) hT U h (dN m x) (lQ.map m lo) (lQ.map m hi) (lQ.map m mx);exact⟨z,u,j,p,fun w'=>G (q w')⟩
 case fieldAddr t x f=>
  simp only[dZ]at h;rw[<-I]at h;obtain⟨z,u,j,p,q⟩:=Oz (P:=P) (K:=fun v=>K v st) hT h (dN m x);exact⟨z,u,j,p,fun w'=>G (q w')⟩
 case field t x f=>
  simp only[dZ]at h;obtain⟨z,u,j,p,q⟩:=ajX (P:=P) (K:=fun v=>K v st) hT h (dN m x);exact⟨z,u,j,p,fun w'=>G (q w')⟩
 case indexAddr t x i=>
  simp only[dZ]at h;rw[<-I]at h;obtain⟨z,u,j,p,q⟩:=OA (P:=P) (K:=fun v=>K v st) hT U h (dN m x) (dN m i);exact⟨z,u,j,p,fun w'=>G (q w')⟩
 case index t x i=>
  simp only[dZ]at h;split at h
  .rename_i s n V Y
   replace h:=gu h;obtain⟨j,h⟩:=h;have d:=dN m x;rw[V]at d;obtain⟨p,q⟩:=ajY (P:=P) hT d (dN m i) Y j;exact⟨_,_,h,p,fun w'=>G (q w')⟩
  .cases h
 case extract x n=>
  simp only[dZ]at h;have d:=dN m x;split at h
  .rename_i l hl
   rw[hl]at d;split at h
   .rename_i v D
    simp only[bP]at d;obtain⟨vs,J,ai⟩:=d;obtain⟨Y,D⟩:=List.getElem?_eq_some_iff.1 D;have ao:=bH.length _ _ ai;simp at ao;have j:=bH.get _ _ ai n Y (by simp;omega);rw[D]at j;simp only[Array.getElem_toList]at j;refine⟨_,_,h,j,fun w'=>G ?_⟩;rw[J];have:vs[n]? =a6 vs[n]:=Array.getElem?_eq_getElem (by omega);simp[Instr.extract,this]
   .cases h
  .cases h
 case call cc=>
  obtain⟨aA,O,au⟩:=cc;simp only at M;have B:=bH.map_eval (c:=c) m O.toList;split at M
  all_goals try (cases M;done)
  .
   simp only[dZ,jY]at h;split at h<;>try (cases h;done)
   .rename_i x A d
    split at h<;>try (cases h;done)
    rename_i t ht
    rw[<-I]at h;obtain⟨L,av⟩: ∃L,O= #[L]:=by
     obtain⟨l⟩:=O
     match l,d with
     |[L],_=>exact⟨L,rfl⟩
    subst av;obtain⟨t0⟩:=au;simp only at ht;subst ht;simp only[ak,List.map_nil,List.cons.injEq,and_true]at d;subst d;obtain⟨z,u,j,p,q⟩:=q_len (P:=P) (K:=fun v=>K v st) hT U h (dN m L) (ty:=ty);exact⟨z,u,j,p,fun w'=>by simp[execOp,resolve,invoke,builtin,Sem.run_bind,q w']⟩
   all_goals (rename_i A _;cases A)
  .
   simp only[dZ,jY]at h;split at h<;>try (cases h;done)
   all_goals try (rename_i A _;cases A;done)
   rename_i k n l A d
   split at h<;>try (cases h;done)
   rename_i ns Z
   rw[d]at B;obtain⟨S⟩:=O;cases S with
   |nil=>simp[bH]at B
   |cons L S=>
    simp only[ak,bH]at B;have E:=B.1;simp only[bP]at E;have j:=E.int_inv;have p:=uj _ _ _ Z B.2;exact⟨_,_,h,by simp only[bP];exact VD.int_mk,fun w'=>by simp[execOp,resolve,invoke,builtin,Sem.run_bind,Builtin.min_,j,p,Ud]⟩
  .
   simp only[dZ,jY]at h;split at h<;>try (cases h;done)
   all_goals try (rename_i A _;cases A;done)
   rename_i k n l A d
   split at h<;>try (cases h;done)
   rename_i ns Z
   rw[d]at B;obtain⟨S⟩:=O;cases S with
   |nil=>simp[bH]at B
   |cons L S=>
    simp only[ak,bH]at B;have E:=B.1;simp only[bP]at E;have j:=E.int_inv;have p:=uj _ _ _ Z B.2;exact⟨_,_,h,by simp only[bP];exact VD.int_mk,fun w'=>by simp[execOp,resolve,invoke,builtin,Sem.run_bind,Builtin.max_,j,p,Uc]⟩
def iF {e:Type} (x:Sem e):Prop:= ∀P w v d,x.run P w=.ok v d->Below w.heap.size w d
theorem iF.pure {d:Type} (v:d):iF (pure v:Sem d):=fun P w v e h=>by simp_all [Below.refl]
theorem iF.looks {d:Type} {x:Sem d} (h:x.Looks):iF x:=fun P w v f e=>by rw[h.ok e];exact Below.refl _ _
theorem iF.bind {g j:Type} {x:Sem g} {f:g->Sem j} (hx:iF x) (hf: ∀a,iF (f a)):iF (x>>=f):=fun P w v l h=>by
 rw[Sem.run_bind]at h;cases hr:x.run P w with
 |halt e d=>simp_all
 |ok u d=>
  rw[hr,Result.andThen_ok]at h;have i:=hx P w u d hr;exact i.trans ((hf u P d v l h).mono i.size)
theorem iF.never {d:Type} {x:Sem d} (h: ∀P w v w',x.run P w≠ .ok v w'):iF x:=fun P w v w' e=>absurd e (h P w v w')
theorem iF.ite {d:Type} {p:Prop} [Decidable p] {x y:Sem d} (hx:iF x) (e:iF y):iF (if p then x else y):=by split<;>assumption
theorem iF.new (o:Obj):iF (newObj o):=fun P w v d h=>by
 have e:(newObj o).run P w=.ok w.heap.size (w.alloc o):=rfl;rw[e]at h;cases h;exact(Below.refl _ _).alloc (ae _) o
theorem vK (t:TypeId):iF (underlying t):=.looks (underlying_looks t)
theorem afE (t:TypeId):iF (typeInfo t):=.looks (typeInfo_looks t)
theorem RX (t:TypeId):iF (sizeOf t):=.looks (sizeOf_looks t)
theorem qh {d:Type} (s:String):iF (stuck s:Sem d):=.looks (stuck_looks s)
theorem G7 {d:Type} (u:Unsupported):iF (unsupported u:Sem d):=.looks (unsupported_looks u)
theorem air (t:TypeId):iF (isAgg t):=by
 unfold isAgg;refine(vK t).bind fun d=> ?_;split<;>exact .pure _
theorem acT (t:TypeId):iF (zeroValue t):=by
 unfold zeroValue;refine(afE t).bind fun d=> ?_;split
 .exact .pure _
 .exact G7 _
theorem afD (v:Value):iF (Instr.sureAddr v):=by
 unfold Instr.sureAddr;split
 .exact .pure _
 .exact qh _
theorem amP (t:TypeId) (a:Addr):iF (loadVar t a):=by
 unfold loadVar;refine(air t).bind fun d=> ?_;split
 .exact(RX t).bind fun k=>(iF.looks (loadCells_looks a k)).bind fun _=>.pure _
 .exact .looks (load_looks _ _)
theorem amN (v:Value):iF (asIntOf v):=by
 unfold asIntOf;split
 .exact .pure _
 .exact G7 _
 .exact qh _
theorem aq7 (v:Value):iF (asBool v):=by
 unfold asBool;split
 .exact .pure _
 .exact qh _
theorem Tn {d g:Type} {x:Sem d} {f:d->Sem g} (hf: ∀a P w v w',(f a).run P w≠ .ok v w'): ∀P w v w',(x>>=f).run P w≠ .ok v w':=fun P w v w' h=>by
 rw[Sem.run_bind]at h;cases hr:x.run P w with
 |halt e i=>simp_all
 |ok u i=>simp_all
theorem Ve {d:Type} (v:Value): ∀P w u w',(goPanic v:Sem d).run P w≠ .ok u w':=fun P w u w' h=>by cases h
theorem IE {d:Type} (e:RuntimeError): ∀P w u w',(runtimePanic e:Sem d).run P w≠ .ok u w':=by
 grind [runtimePanic,Tn,Ve]
theorem U6 {d:Type} (k:IntKind) (x y:Int) (code:BoundsCode):iF (boundsPanic k x y code:Sem d):=by
 unfold boundsPanic;dsimp only;split<;>exact .never (Tn fun _=>IE _)
theorem acR (e:TypeId) (cs:Array Value):iF (newRow e cs):=by
 unfold newRow;exact(iF.new _).bind fun _=>.pure _
theorem aBE (t:TypeId) (cs:Array Value) (off:Nat):iF (part t cs off):=by
 unfold part;refine(air t).bind fun b=> ?_;split
 .exact(RX t).bind fun _=>.pure _
 .split
  .exact .pure _
  .exact qh _
theorem aq9 (t:TypeId) (v:Value):iF (Instr.loadAt t v):=by
 unfold Instr.loadAt;exact(afD v).bind fun a=>amP t a
theorem amO (t:Value) (i:Nat):iF (Instr.extract t i):=by
 unfold Instr.extract;split
 .split
  .exact .pure _
  .exact qh _
 .exact qh _
theorem awx (t:TypeId) (x i:Value):iF (Instr.index t x i):=by
 unfold Instr.index;refine(amN i).bind fun e=> ?_;refine(vK t).bind fun d=> ?_
 repeat' first
  |exact U6 _ _ _ _
  |exact qh _
  |exact .pure _
  |exact(RX _).bind fun _=>aBE _ _ _
  |split
  |dsimp only
theorem aGJ (t:TypeId) (v:Value):iF (Instr.box t v):=by
 unfold Instr.box newVar;exact(acR _ _).bind fun _=>.pure _
theorem aww (t:TypeId):iF (Instr.alloc t true (.tuple #[])):=by
 unfold Instr.alloc;refine(acT t).bind fun z=> ?_;dsimp only;unfold newVar;exact(acR _ _).bind fun _=>.pure _
theorem Yu (r:Nat):(getObj r).Looks:=fun _=>trivial
theorem acQ (r:Nat):iF (getObj r):=.looks (Yu r)
theorem awy (r:Nat):iF (Go.shape r):=.looks (fun _=>trivial)
theorem ara (r:Nat):iF (viewAt r):=by
 unfold viewAt
 repeat' first
  |exact .pure _
  |exact awy _
  |exact acQ _
  |(refine iF.bind ?_ fun _=> ?_)
  |split
  |dsimp only
theorem aq8 (t:TypeId):iF (elemOf t):=by
 unfold elemOf;refine(vK t).bind fun d=> ?_;split
 .exact .pure _
 .exact qh _
theorem aGK (d:Array TypeId) (ty:TypeId) (args:Array Value):iF (Builtin.len_ d ty args):=by
 unfold Builtin.len_
 repeat' first
  |exact .pure _
  |exact qh _
  |exact vK _
  |exact acQ _
  |(refine iF.bind ?_ fun _=> ?_)
  |split
  |dsimp only
theorem acS (d:Array TypeId) (ty:TypeId) (args:Array Value):iF (Builtin.unsafeSliceData_ d ty args):=by
 obtain⟨l⟩:=args
 match l with
 |[]=>exact qh _
 |_::_::_=>exact qh _
 |[v]=>
  cases v with
  |slice a n c=>
   cases a with
   |none=>exact iF.pure _
   |some a=>
    have e:Builtin.unsafeSliceData_ d ty #[.slice (a6 a) n c]=(do
      if c≠0 then pure (.pointer (a6 a))
      else if(<-viewAt a.block).isSome then pure (.pointer (a6 a))
      else pure (.pointer (a6 ⟨<-newObj (.view a (<-elemOf ty)),0,a7⟩))):=rfl
    rw[e]
    repeat' first
     |exact .pure _
     |exact ara _
     |exact aq8 _
     |exact iF.new _
     |(refine iF.bind ?_ fun _=> ?_)
     |split
     |dsimp only
  |_=>exact qh _
theorem afN {o:Oper} (hk:Po o.op=true) (d:Operand->Value) (P:Program) (w:World) (v:Next) (w':World) (h:(execOp d o).run P w=.ok v w'):(∃u,v=.value u)/\Below w.heap.size w w':=by
 have f: ∀{s:Sem Value},iF s->(do pure (Next.value (<-s)):Sem Next).run P w=.ok v w'->(∃u,v=.value u)/\Below w.heap.size w w':=fun {s} D h=>by
  rw[Sem.run_bind]at h;cases hr:s.run P w with
  |halt e E=>simp_all
  |ok u E=>
   rw[hr,Result.andThen_ok,Sem.run_pure]at h;cases h;exact⟨⟨u,rfl⟩,D P w u w' hr⟩
 obtain⟨l,G,g,m,p,q⟩:=o;simp only at hk;cases G<;>simp only[Po,ah]at hk
 case move x=>cases h;exact⟨⟨_,rfl⟩,Below.refl _ _⟩
 case assign x=>cases h;exact⟨⟨_,rfl⟩,Below.refl _ _⟩
 case pick x y z=>
  have e:execOp d ⟨l,.pick x y z,g,m,p,q⟩=(do pure (Next.value (<-(do pure (if<-asBool (d x)then d y else d z):Sem Value))):Sem Next):=by
   simp[execOp,bind_assoc]
  rw[e]at h;exact f ((aq7 _).bind fun _=>.pure _) h
 case load t x=>exact f (aq9 t (d x)) h
 case index t x i=>exact f (awx t (d x) (d i)) h
 case extract x i=>exact f (amO (d x) i) h
 case box t x=>exact f (aGJ t (d x)) h
 case alloc t=>exact f (aww t) h
 case call cc=>
  obtain⟨A,j,B⟩:=cc;cases A with
  |builtin b=>
   cases b<;>simp only[ah]at hk
   case len=>
    grind [execOp,builtin,resolve,invoke,aGK]
   case unsafeSliceData=>
    have e:execOp d ⟨l,.call {callee:=.builtin .unsafeSliceData,args:=j,argTypes:=B},g,m,p,q⟩=(do pure (Next.value (<-Builtin.unsafeSliceData_ B g (j.map d))):Sem Next):=by
     rfl
    grind [acS]
  |_=>simp at hk
theorem oM {ops:Array Oper} (h:mP ops=true) (i:Nat) (o:Oper) (d:ops[i]? =a6 o):qV o.op=false/\ ∀cs b,o.op≠ .select cs b:=by
 have:=List.all_eq_true.1 h o (by grind)
 grind [qV]
def qf (P:Program) (ops:Array Oper) (C:World->Prop) (o:Oper) (v:Value) (a:Act):Prop:=
 (Region.wanted o (yielded ops a.tmps)=true/\ ∀w,C w->(execOp a.eval o).run P w=.ok (.value v) w)\/(Region.wanted o (yielded ops a.tmps)=false/\v=undef)
def XB (P:Program) (C:World->Prop) (o:Oper):Prop:=(∀w,C w)\/ ∀e w v d,C w->(execOp e o).run P w=.ok v d->(∃u,v=.value u)/\C d
variable {ops:Array Oper} {C:World->Prop} {Q:Exit->Act->World->Prop}
theorem qf.of_same {o:Oper} {v:Value} {a d:Act} (h:qf P ops C o v a) (i:execOp d.eval o=execOp a.eval o)
  (f:Region.wanted o (yielded ops d.tmps)=Region.wanted o (yielded ops a.tmps)):qf P ops C o v d:=by
 rcases h with ⟨e,g⟩|⟨e,g⟩
 .exact .inl ⟨by rw[f];exact e,fun w j=>by simp_all⟩
 .exact .inr ⟨by rw[f];exact e,g⟩
theorem qf.wpOpIn {i:Nat} {o:Oper} {v:Value} {a:Act} (hd:mP ops=true) (hi:ops[i]? =a6 o) (e:qf P ops C o v a) {K:Act->World->Prop} {w:World} (f:C w) (h:K (a.put o.dst v) w):wpOpIn (FW rd) n P ops Q i K a w:=by
 unfold Go.wpOpIn;simp only[hi];rcases e with ⟨d,g⟩|⟨d,rfl⟩
 .rw[am d];refine⟨qN o w _, ?_⟩;rw[xM (oM hd i o hi).1,g w f];exact h
 .rw[aq (by rw[d];simp)]
  grind [qN]
theorem aeI {j:Nat} {e g:Oper} {v:Value} (hd:mP ops=true) (hi: ∃i:Nat,ops[i]? =a6 e) (o:ops[j]? =a6 g) (z:e.apart ops g=true) (A:XB P C g) (G: ∀c a w,¬Q (.panic c) a w) {K:Act->World->Prop} {a:Act} {w:World} (I:C w)
  (l:qf P ops C e v a) (h:wpOpIn (FW rd) n P ops Q j K (a.put e.dst v) w):wpOpIn (FW rd) n P ops Q j (fun p w'=>C w'/\qf P ops C e v p/\K (p.put e.dst v) w') a w:=by
 obtain⟨q,J,s⟩:=Oper.apart_spec z;obtain⟨i,hi⟩:=hi;have B:=(oM hd i e hi).2;obtain⟨y,D⟩:=oM hd j g o;have L: ∀(a:Act),qf P ops C e v a-> ∀u,qf P ops C e v (a.put g.dst u):=fun a l u=>l.of_same (execOp_put e B a g.dst u s) (wanted_put e a g.dst u s);unfold wpOpIn at*;simp only[o]at*;rw[wanted_put g a e.dst v q]at h;split
 .rename_i m
  rw[am m]at h;unfold Oper.wpIn at*;refine⟨qN g w _, ?_⟩;have h:=h.2;rw[xM y,execOp_put g D a e.dst v q]at h;rw[xM y];have hk:(∀w,C w)\/ ∀x w',(execOp a.eval g).run P w=.ok x w'->(∃u,x=.value u)/\C w':=by
   rcases A with hk|hk
   all_goals grind
  generalize (execOp a.eval g).run P w=r at*;cases r with
  |ok x w'=>
   have E:(∀w,C w)\/((∃u,x=.value u)/\C w'):=by
    simp_all
   cases x<;>simp only[Oper.uponIn]at h ⊢
   case value u=>
    grind [Act.put_comm]
   case skip=>
    grind [Act.put_comm]
   case defer d=>
    rcases E with hk|hk
    .have M: ∀d,qf P ops C e v {a with defers:=d::a.defers}:=fun d=>l.of_same rfl rfl
     grind [Act.put_comm,Act.put_defers]
    simp_all
   case enter f args=>
    grind [Act.put_comm]
   case row row args=>
    grind [Act.put_comm]
   grind [Act.put_comm]
  |halt x w'=>
   cases x<;>simp only[Oper.uponIn]at h ⊢;simp_all
 .rename_i m
  rw[aq m]at h
  grind [qN,Act.put_comm]
theorem MN {l:List Nat} {i:Nat}:WC l i=true↔i∈l:=by
 simp_all [WC]
theorem EX {i:Nat} {o:Oper} {v:Value} (hd:mP ops=true) (hi:ops[i]? =a6 o) (E: ∀c a w,¬Q (.panic c) a w) (D:List Nat) (G: ∀j∈D,j≠i->EW ops j D=true):
  ∀(p:Nat) (d:Array Bool) (a:Act) (w:World),C w->(∀j∈D,d.getD j true=false)->
   (∀j m,ops[j]? =a6 m->j∉D->d.getD j true=false->o.apart ops m=true/\XB P C m)->i∈D->
   i∈Region.ready .any ops d->qf P ops C o v a->
   wpAnyIn (FW rd) n P .any ops Q p (d.setIfInBounds i true) (a.put o.dst v) w->wpAnyIn (FW rd) n P .any ops Q (p+1) d a w:=by
 have I: ∀(d:Array Bool) (j:Nat),(∀j∈D,d.getD j true=false)->j∈Region.ready .any ops d->j≠i->j∉D:=fun d j q l f s=>by
  have g:=G j s f;unfold EW at g;obtain⟨_,m,u,J⟩:=mem_ready.1 l;rw[u]at g;obtain⟨e,he,K⟩:=Array.any_eq_true'.1 g;simp only[af]at K
  grind [MN]
 intro p
 induction p with
 |zero=>
  intro d a w g q _ y z x H;refine⟨fun h=>(by simp_all),fun j l=> ?_⟩;by_cases f:j=i
  .subst f;exact x.wpOpIn hd hi g H
  .have:=ready_mono l f;rw[H.1]at this;cases this
 |succ p L=>
  intro d a w g q A y z x H;refine⟨fun h=>(by simp_all),fun j l=> ?_⟩;by_cases f:j=i
  .subst f;exact x.wpOpIn hd hi g H
  .have M:=H.2 j (ready_mono l f);have s:=I d j q l f;obtain⟨N,m,u,J⟩:=mem_ready.1 l;obtain⟨O,S⟩:=A j m u s N;have U:=aeI hd ⟨i,hi⟩ u O S E g x M;have V: ∀k∈D,(d.setIfInBounds j true).getD k true=false:=fun k hk=>by
    rw[getD_set_ne true (fun e=>s (by rw[e];exact hk))];exact q k hk
   have W: ∀k ok,ops[k]? =a6 ok->k∉D->(d.setIfInBounds j true).getD k true=false->o.apart ops ok=true/\XB P C ok:=fun k ok hk X ab=>by
    refine A k ok hk X ?_;by_cases hjk:j=k
    all_goals simp_all
   refine wpOpIn_mono (fun Y Z B=>L (d.setIfInBounds j true) Y Z B.1 V W y (ready_mono z (Ne.symm f)) B.2.1 ?_) U;simp_all [Array.setIfInBounds_comm]
theorem Jy {cl:Bool} {call:gy R} {K:St->Option R} (o:Oper) (l:List Oper) (st:St):ig T cl call ops K (o::l) st=ig T cl call ops (ig T cl call ops K l) [o] st:=by
 simp only[ig]
theorem adP {cl:Bool} {call:gy R} {K:St->Option R} {o:Oper} (h:ig T cl call ops K [o] st=a6 r) (f:iM W0 b0 rd c st a ats):
  (Region.wanted o (yielded ops a.tmps)=true/\ ∃st1,iM W0 b0 rd c st1 a ats/\dZ T cl call o st1 (fun v st=>K (st.put o.dst v))=a6 r)\/
  (Region.wanted o (yielded ops a.tmps)=false/\ ∃st1,iM W0 b0 rd c st1 (a.put o.dst undef) ats/\K st1=a6 r):=by
 simp only[ig]at h;have y: ∀(st:St),iM W0 b0 rd c st a ats->iM W0 b0 rd c (st.put o.dst (.tup [])) (a.put o.dst undef) ats:=fun st f=>f.put (by simp only[bP];exact⟨#[],rfl,by simp[bH]⟩);cases hg:o.guard with
 |none=>
  grind [Region.wanted]
 |some m=>
  obtain⟨j,p⟩:=m;rw[hg]at h;simp only at h;split at h
  .cases h
  .rename_i d hd
   have g:=I9 ops j d hd a.tmps;have e:=f.fr.getD d;have q:=bH.length _ _ f.fr;rw[Array.length_toList]at q;split at h
   .rename_i b i
    rw[i]at e;simp only[bP]at e;have s:=e.bool_inv;have A:d<a.tmps.size:=by
     grind
    have l:a.tmps[d]? =a6 (.bool b):=by
     simp_all
    rw[l]at g;simp only at g;have u:a.put (a6 d) (.bool b)=a:=by
     simp only[Act.put];obtain⟨B,D⟩:=Array.getElem?_eq_some_iff.1 l;have:a.tmps.setIfInBounds d (.bool b)=a.tmps:=by
      grind
     rw[this]
    have E:iM W0 b0 rd c (st.put (a6 d) (.val .bool b)) a ats:=by
     have:=f.put (dst:=a6 d) (z:=.val .bool b) (v:=.bool b) (by simp_all [bP]);rwa [u]at this
    cases b<;>cases p<;>(try simp only[aa,ac]at h)
    .grind [Region.wanted]
    .grind [Region.wanted]
    .grind [Region.wanted]
    grind [Region.wanted]
   .rename_i i
    rw[i]at e;simp only[bP]at e;obtain⟨G,s,_⟩:=e;have I:yielded ops a.tmps j=a7:=by
     rw[g];cases he:a.tmps[d]? with
     |none=>rfl
     |some x=>
      simp_all
    grind [Region.wanted]
   .cases h
theorem aeC {e:Array Bool} {i:Nat} {pure:Bool} {f:Oper} (hi:ops[i]? =a6 f) (h:UH ops e i pure=true): ∃D:List Nat,i∈D/\(∀j∈D,e.getD j true=false)/\(∀j∈D,j≠i->EW ops j D=true)/\
  ∀j d,ops[j]? =a6 d->j∉D->e.getD j true=false->f.apart ops d=true/\(pure=true\/Po d.op=true):=by
 unfold UH at h;rw[hi]at h;simp only[af]at h;obtain⟨l,m,o⟩:=h;refine⟨_,MN.1 l,fun j g=> ?_,fun j g q=> ?_,fun j d p s u=> ?_⟩
 .simp_all
 .have:=List.all_eq_true.1 m j g;simp_all
 .have:=List.all_eq_true.1 o j (List.mem_range.2 (Array.getElem?_eq_some_iff.1 p).1);simp_all [MN]
theorem WJ {f:Op->Bool} {i:Nat} (h:agd ops f i=true): ∃o,ops[i]? =a6 o/\f o.op=true:=by
 grind [agd]
theorem ag0 {d:Op} (h:IP d=true):iw d=true:=by
 cases d<;>simp_all [IP,iw,jI]
theorem EJ (hT:TOk P T) {cl:Bool} {call:gy R} (E:mi P W0 n call) (hd:mP ops=true) {K:St->Option R} {Q:Act->World->Prop}:
  ∀(m:Nat) (g:Array Bool) (l:List Nat) (c:Cx) (st:St) (a:Act),uG ops m g=a6 l->ig T cl call ops K (l.filterMap fun i=>ops[i]?) st=a6 r->iM W0 b0 rd c st a ats->
   (∀c' M S,K M=a6 r->iM W0 b0 rd c' M S ats->c.Mono c'->Q S c'.w)->wpAnyIn (FW rd) n P .any ops (fun e a w=>e=.normal/\Q a w) m g a c.w
 |0,g,l,c,st,a,d,h,G,y=>by
  simp only[uG]at d;rw[cond_eq_ite]at d;split at d
  .rename_i he
   cases d;simp only[List.filterMap_nil,ig]at h;exact⟨by simpa using he,rfl,y c st a h G (Cx.Mono.refl c)⟩
  .cases d
 |m+1,g,l,c,st,a,d,h,G,y=>by
  have U: ∀c (a:Act) (w:World),¬(Exit.panic c=.normal/\Q a w):=fun c a w h=>by cases h.1
  have take: ∀(i:Nat) (q:Bool) (p:List Nat),i∈Region.ready .any ops g->(if q then agd ops IP i=true else agd ops iw i=true)->UH ops g i q=true->uG ops m (g.setIfInBounds i true)=a6 p->
    ig T cl call ops K ((i::p).filterMap fun i=>ops[i]?) st=a6 r->wpAnyIn (FW rd) n P .any ops (fun e a w=>e=.normal/\Q a w) (m+1) g a c.w:=fun i q p V av ag I h=>by
   obtain⟨o,N,hq,ai⟩: ∃o,ops[i]? =a6 o/\iw o.op=true/\(q=true->IP o.op=true):=by
    grind [WJ,ag0]
   obtain⟨D,W,X,Y,d4⟩:=aeC N ag;simp only[List.filterMap_cons,N]at h;rw[Jy]at h;have Z: ∀j J,ops[j]? =a6 J->j∉D->g.getD j true=false->o.apart ops J=true/\XB P (fun w=>q=true\/GK c w) J:=fun j J aj al hl=>by
    obtain⟨e1,L⟩:=d4 j J aj al hl;refine⟨e1, ?_⟩;rcases L with L|L
    .exact .inl fun w=>.inl L
    .refine .inr fun ρ w v w' B hx=> ?_;obtain⟨hu,hb⟩:=afN L ρ P w v w' hx;exact⟨hu,B.imp (fun h=>h) fun B=>B.trans (hb.mono B.size)⟩
   have ab:q=true\/GK c c.w:=.inr (Below.refl _ _);rcases adP h G with ⟨s,A,f,x⟩|⟨s,A,f,x⟩
   .have hy: ∃z u,ig T cl call ops K (p.filterMap fun i=>ops[i]?) (A.put o.dst z)=a6 r/\bP c z u/\qf P ops (fun w=>q=true\/GK c w) o u a:=by
     cases q with
     |true=>
      obtain⟨z,u,k1,k2,k3⟩:=ayH hT f.ok (ai rfl) f.hp f.fr x;exact⟨z,u,k1,k2,.inl ⟨s,fun w _=>k3 w⟩⟩
     |false=>
      obtain⟨z,u,k1,k2,k3⟩:=A8 hT f.ok hq f.hp f.fr x;exact⟨z,u,k1,k2,.inl ⟨s,fun w B=>k3 w (B.resolve_left (by simp))⟩⟩
    obtain⟨z,u,k1,k2,k3⟩:=hy;exact EX hd N U D Y m g a c.w ab X Z W V k3 (EJ hT E hd m _ p c (A.put o.dst z) (a.put o.dst u) I k1 (f.put k2) y)
   .exact EX hd N U D Y m g a c.w ab X Z W V (.inr ⟨s,rfl⟩) (EJ hT E hd m _ p c A (a.put o.dst undef) I x f y)
  simp only[uG]at d;split at d
  .rename_i O
   cases d;simp only[List.filterMap_nil,ig]at h;exact⟨fun _=>⟨rfl,y c st a h G (Cx.Mono.refl c)⟩,by rw[O];simp⟩
  .rename_i k rs O
   split at d
   .grind
   .split at d
    .grind
    .split at d
     .split at d
      .rename_i p I
       cases d;obtain⟨_,ok,ad,_⟩:=mem_ready.1 (show k∈Region.ready .any ops g by rw[O];simp);simp only[List.filterMap_cons,ad]at h;rw[Jy]at h;refine wpAnyIn_all O (by simp) fun j hj=> ?_;obtain rfl:j=k:=by simpa using hj
       unfold wpOpIn;simp only[ad];rcases adP h G with ⟨s,A,f,x⟩|⟨s,A,f,x⟩
       .rw[am s];exact TB hT E x f fun c' z u M k1 k2 k3 k4=>EJ hT E hd m _ p c' (M.put ok.dst z) (a.put ok.dst u) I k1 (k2.put k3) fun an ao au q1 q2 q3=>y an ao au q1 q2 (k4.trans q3)
       .rw[aq (by rw[s];simp)];exact⟨qN ok c.w _,EJ hT E hd m _ p c A (a.put ok.dst undef) I x f y⟩
      .cases d
     .cases d
theorem Vp (hT:TOk P T) (i:P.follows .mixedOrders=true) {cl:Bool} {call:gy R} (j:mi P W0 n call) {id:Nat} {l:List Oper} (hp:agW ops=a6 l) {K:St->Option R} {Q:Exit->Act->World->Prop}
  (h:ig T cl call ops K l st=a6 r) (m:iM W0 b0 rd c st a ats) (o: ∀c' d f,K d=a6 r->iM W0 b0 rd c' d f ats->c.Mono c'->Q .normal f c'.w):
  (Code.region id ops true).wpIn (FW rd) n P Q a c.w:=by
 unfold agW at hp;rw[cond_eq_ite]at hp;split at hp
 .rename_i hd
  split at hp
  .rename_i p q
   cases hp;have g:GK c {c.w with drawn:=c.w.drawn+1}:=⟨rfl,rfl,rfl,ae _,fun _ _=>rfl⟩;have s:=EJ (Q:=fun a w=>Q .normal a w) hT j hd ops.size _ p (c.at_ {c.w with drawn:=c.w.drawn+1}) st a q h (m.ext g) fun c' d f k1 k2 k3=>o c' d f k1 k2 ((Cx.Le.ext g).mono.trans k3);exact Code.wpIn_mono (fun e a w u=>by simp_all) (wpIn_region_any i s)
  .cases hp
 .cases hp
end
end
section
open Option renaming some → a6, none → a7
open List renaming mem_cons_of_mem → au
open Nat renaming lt_of_lt_of_le → aZ
open Go.RowKit
def vF {R:Type} (P:Program) (W0:World) (j:nD R):Prop:=
 ∀(f:FuncId) (g:List bK) (st:St) (K:bK->St->Option R) (r:R),j (.call f g) st K=a6 r->
  ∀(b0:Nat) (rd:Option Nat) (c:Cx) (a:Act) (ats:List (Array Value)) (d:Array Value),iM W0 b0 rd c st a ats->bH c g d.toList->
   ∀h:Ending->World->Prop,(∀e z u i,K z i=a6 r->iM W0 b0 rd e i a ats->bP e z u->c.Mono e->h (.returned u) e.w)->
    (callFunc f d).run P c.w=.ok (.enter f d) c.w/\Calls P f d c.w h
section
variable {P:Program} {T:TT} {W0:World} {b0 n:Nat} {rd:Option Nat} {c:Cx} {R:Type} {r:R} {st:St} {a:Act} {ats:List (Array Value)}
def Ex.xt:Ex->Exit
 |.normal=>.normal
 |.exit i=>.exit i
 |.goto l=>.goto l
 |.ret=>.ret
section
variable {F:Fence} {b:Frame} {k:List Item} {cs:List Frame} {w:World} {Q:Exit->Act->World->Prop}
theorem qL {x:Code}:step P (lone (b.atR a (.code (.scope x)::k)) cs w)=.next (lone (b.atR a (.code x:: .inScope x::k)) cs w):=
 step_lone_go (by rfl)
theorem Vu {x:Code}:step P (lone (b.atR a (.inScope x::k)) cs w)=.next (lone (b.atR a k) cs w):=
 step_lone_go (by rfl)
theorem aht {x:Code} (h:x.wpIn F n P (fun e a w=>(∀l,e≠ .goto l)/\Q e a w) a w):(Code.scope x).wpIn F n P Q a w:=by
 intro b k cs s m o;have d:(lone (b.atR a (.code (.scope x)::k)) cs w).fenced P F:=fenced_calm m o rfl;obtain⟨e,g,i,⟨B,j⟩,f⟩:=h b (.inScope x::k) cs s m o;cases e with
 |normal=>exact⟨.normal,g,i,j,.head d qL (StepsIn.trans f (.one (fenced_calm m o rfl) Vu))⟩
 |exit p=>
  have q:exitTo p (.inScope x::k)=exitTo p k:=by simp[exitTo]
  exact⟨.exit p,g,i,j,fun u hk=>.head d qL (f.1 u (by rw[q];exact hk)),
   fun v hk=>let⟨y,z,A⟩:=f.2 v (by rw[q];exact hk);⟨y,z,.head d qL A⟩⟩
 |goto l=>simp_all
 |ret=>exact⟨_,g,i,j,.of_steps (.one d qL) f⟩
 |panic D=>exact⟨_,g,i,j,.of_steps (.one d qL) f⟩
 |outgrown=>exact⟨_,g,i,j,.of_steps (.one d qL) f⟩
end
theorem asM (d:c.Ok W0):c.Le {c with w:=c.w.alloc (.deferred (a6 [])),mks:=c.w.heap.size::c.mks}/\({c with w:=c.w.alloc (.deferred (a6 [])),mks:=c.w.heap.size::c.mks}:Cx).Ok W0:=by
 have f:=nS c.w (.deferred (a6 []));have j:c.Le {c with w:=c.w.alloc (.deferred (a6 [])),mks:=c.w.heap.size::c.mks}:=
  ⟨fun b g=>⟨⟨aZ g.1 f.size,g.2.1,by
    intro p;rcases List.mem_cons.1 p with e|e
    .have:=g.1;omega
    .exact g.2.2 e⟩,f.block b g.1⟩,fun _ h=>h,fun id o _ i=>⟨o,i,o.like_refl _⟩,fun r l=>au _ l,fun b L m=>⟨L,(f.block b (Array.getElem?_eq_some_iff.1 m).1).trans m⟩,f.size,rfl⟩
 refine⟨j,⟨d.bel.trans (f.mono d.size),fun id o i=>(d.obj id o i).le j rfl fun b q=>f.block b ((d.obj id o i).lt q).2,d.inj,fun r l=> ?_,fun b f=>(j.out b (d.bar b f)).1,d.phi⟩⟩;rcases List.mem_cons.1 l with e|e
 .subst e;exact⟨d.size,World.alloc_heap_new _ _⟩
 .exact⟨(d.mks r e).1,(f.block r (d.mark_lt e)).trans (d.mks r e).2⟩
theorem aCV (g:c.Ok W0) {st:St} (h:c.hp=st.hp) (h2:c.nxt=st.nxt) {id n':Nat} (m:dM st.hp id=a7) (p:st.nxt<=id) (x:st.nxt<=n') {f:FuncId} {fr:List bK} {L:Loop} (q:bH c fr L.tmps.toList) (s:L.state=.ready) (hp:L.pending=a7) {d:Option Nat} (u: ∀k,d=a6 k->uI f k=a6 (L.assign,L.body)):
  ∃c',Dk W0 c st c' {st with hp:=(id,.lp f fr L.params.toList L.assign L.body d 0 a7)::st.hp,nxt:=n'}/\c'.w=c.w.alloc (.loop L)/\bP c' (.yld id) (.func (.yield c.w.heap.size) #[] #[])/\c'.mks=c.mks:=by
 have hk:=AZ h h2 m p;have e:=nS c.w (.loop L);have i: ∀b,dJ.blk (.lp f fr L.params.toList L.assign L.body d 0 a7) ⟨c.w.heap.size,undef⟩=a6 b->c.w.heap.size<=b:=fun b e=>by
  simp_all [dJ.blk]
 have j:=Cx.Le.push (o:=.lp f fr L.params.toList L.assign L.body d 0 a7) (l:=⟨c.w.heap.size,undef⟩) (nxt:=n') (w:=c.w.alloc (.loop L)) hk (by omega) e.size e.block i;have v:(c.push id (.lp f fr L.params.toList L.assign L.body d 0 a7) ⟨c.w.heap.size,undef⟩ n' (c.w.alloc (.loop L))).ORel W0.heap.size id (.lp f fr L.params.toList L.assign L.body d 0 a7):=by
  refine⟨u,by simp[Cx.push,upd_same];exact g.size,L, ?_,bH.le j _ _ q,rfl,rfl,rfl,s,hp⟩;simp only[Cx.push,upd_same];exact World.alloc_heap_new c.w _
 refine⟨_,⟨?_,rfl,rfl,rfl,g.push hk (by omega) e i v,j⟩,rfl, ?_,rfl⟩
 .simp[Cx.push,h]
 .simp only[bP];refine⟨rfl,.inl ⟨_,by simp[Cx.push,dY];rfl⟩,fun _ _ _ _ _ _ _ _ _=>by simp[Cx.push,upd_same]⟩
theorem IX (g:c.Ok W0) {id:Nat} {f:FuncId} {fr:List bK} {h:List Nat} {jk i:Code} {l:Option Nat} {k:Nat} {p:Option Ex} (s:dM c.hp id=a6 (.lp f fr h jk i l k p)) {L:Loop} (v:c.w.heap[(c.mu id).blk]? =a6 (.loop L)) (d:Loop)
  {o':dJ} (u:o'=.dead\/(∃o q,o'=.lp f fr h jk i l o q/\aoF o q d/\d.tmps=L.tmps/\d.params=L.params/\d.assign=L.assign/\d.body=L.body)):
  ∃c',c'.hp=iT c.hp id o'/\c'.nxt=c.nxt/\c.Le c'/\c'.Ok W0/\c'.w=c.w.putObj (c.mu id).blk (.loop d)/\c'.mks=c.mks:=by
 have E:(c.mu id).blk<c.w.heap.size:=(Array.getElem?_eq_some_iff.1 v).1;obtain⟨G,I,J,x,K,M,N,O,e4⟩:=g.obj id _ s;rw[v]at x;have S:J=L:=by cases x;rfl
 subst S;have hk:(dJ.lp f fr h jk i l k p).like (c.mu id) o' (c.mu id):=by
  rcases u with rfl|⟨o,q,rfl,_⟩<;>simp[dJ.like]
 have y:c.w.heap.size<=(c.w.putObj (c.mu id).blk (.loop d)).heap.size:=by simp
 have m: ∀b,b<c.w.heap.size->(dJ.lp f fr h jk i l k p).blk (c.mu id)≠a6 b->(c.w.putObj (c.mu id).blk (.loop d)).heap[b]? =c.w.heap[b]? :=fun b _ U=>
  World.putObj_heap_other fun e=>U (by rw[e];rfl)
 have z: ∀b,o'.blk (c.mu id)=a6 b->(dJ.lp f fr h jk i l k p).blk (c.mu id)=a6 b\/c.w.heap.size<=b:=fun b m=>by
  rcases u with rfl|⟨o,q,rfl,_⟩
  .cases m
  .exact .inl m
 have A: ∀(b:Nat) (B:Loop),(dJ.lp f fr h jk i l k p).blk (c.mu id)=a6 b->c.w.heap[b]? =a6 (Obj.loop B)-> ∃V:Loop,(c.w.putObj (c.mu id).blk (.loop d)).heap[b]? =a6 (Obj.loop V):=fun b B m _=>by
  grind [dJ.blk,World.putObj_heap_same]
 have W:Below W0.heap.size W0 (c.w.putObj (c.mu id).blk (.loop d)):=
  ⟨g.bel.os,g.bel.tape,g.bel.output,by omega,fun j X=>(World.putObj_heap_other (by omega)).trans (g.bel.block j X)⟩
 have D:=Cx.Le.put g s hk y m z A;refine⟨c.put id o' (c.mu id) (c.w.putObj (c.mu id).blk (.loop d)),rfl,rfl,D,Cx.Ok.put g s hk W y m z A ?_,rfl,rfl⟩;rcases u with rfl|⟨o,q,rfl,Y,Z,h3,h4,h5⟩
 .trivial
 .refine⟨G,by simp only[Cx.put,upd_same];exact I,d, ?_,bH.le D _ _ (by rw[Z];exact K),by rw[h3];exact M,by rw[h4];exact N,by rw[h5];exact O,Y⟩;simp only[Cx.put,upd_same];exact World.putObj_heap_same E
end
end
section
open Option renaming some → a6, none → a7
open Go.RowKit
section
variable {T:TT} {cl:Bool} {R:Type} {r:R} {sg:FuncId->Option Sum}
theorem Ar {dst:Option Nat} {o:dJ} {st:St} {K:Nat->St->Option R} (h:alloc cl dst o st K=a6 r): ∃i d,K i d=a6 r:=by
 unfold alloc at h
 grind
theorem aIv {b:Bool} {k:Option R} (h:lZ b k=a6 r):k=a6 r:=(dB h).2
theorem aBw {d:BinOp} {t:TypeId} {x y:bK} {K:bK->Option R} (h:acn T d t x y K=a6 r): ∃z,K z=a6 r:=by
 unfold acn at h;simp only[lZ,cond_eq_ite]at h
 grind
theorem awf {hp:gG} {d:BinOp} {t:TypeId} {x y:bK} {K:bK->Option R} (h:Rx T hp d t x y K=a6 r): ∃z,K z=a6 r:=by
 unfold Rx at h;simp only[cond_eq_ite]at h
 grind [aBw]
theorem aGl {d:UnOp} {x:bK} {K:bK->Option R} (h:aqv d x K=a6 r): ∃z,K z=a6 r:=by
 unfold aqv at h
 grind
theorem awg {hp:gG} {t:TypeId} {a:bK} {K:bK->Option R} (h:L6 T hp t a K=a6 r): ∃z,K z=a6 r:=by
 unfold L6 at h
 grind
theorem aBx {d:gG} {st:St} {a v:bK} {K:St->Option R} (h:aco d st a v K=a6 r): ∃z,K z=a6 r:=by
 unfold aco at h;simp only[cond_eq_ite]at h
 repeat' split at h
 all_goals first|cases h;done|exact⟨_,h⟩
theorem aqy {st:St} {t:TypeId} {a v:bK} {K:St->Option R} (h:Jw T st t a v K=a6 r): ∃z,K z=a6 r:=by
 unfold Jw at h;simp only[cond_eq_ite]at h
 repeat' split at h
 all_goals first|cases h;done|exact⟨_,h⟩
theorem afu {s d:TypeId} {x:bK} {hp:gG} {K:bK->Option R} (h:Aq T s d x hp K=a6 r): ∃z,K z=a6 r:=by
 unfold Aq at h;simp only[lZ,cond_eq_ite]at h
 grind
theorem aqx {hp:gG} {t:TypeId} {x:bK} {lo hi d:Option bK} {K:bK->Option R} (h:Jv T hp t x lo hi d K=a6 r): ∃z,K z=a6 r:=by
 unfold Jv at h;simp only[lZ,cond_eq_ite]at h
 grind
theorem X9 {hp:gG} {t:TypeId} {x:bK} {f:Nat} {K:bK->Option R} (h:uw T hp t x f K=a6 r): ∃z,K z=a6 r:=by
 unfold uw at h;simp only[cond_eq_ite]at h
 repeat' split at h
 all_goals first|cases h;done|exact⟨_,h⟩
theorem aqw {t:TypeId} {x:bK} {f:Nat} {K:bK->Option R} (h:Jt T t x f K=a6 r): ∃z,K z=a6 r:=by
 unfold Jt at h
 repeat' split at h
 all_goals first|cases h;done|exact⟨_,h⟩
theorem Ya {hp:gG} {t:TypeId} {x i:bK} {K:bK->Option R} (h:uy T hp t x i K=a6 r): ∃z,K z=a6 r:=by
 unfold uy at h;simp only[lZ,cond_eq_ite]at h
 repeat' split at h
 all_goals first|cases h;done|exact⟨_,h⟩
theorem aBy {hp:gG} {t:TypeId} {x:bK} {K:bK->Option R} (h:acp T hp t x K=a6 r): ∃z,K z=a6 r:=by
 unfold acp at h;simp only[lZ,cond_eq_ite]at h
 grind
theorem amE {dst:Option Nat} {t:TypeId} {s x:bK} {st:St} {K:bK->St->Option R} (h:Jr T cl dst t s x st K=a6 r): ∃z d,K z d=a6 r:=by
 unfold Jr at h;simp only[lZ,cond_eq_ite]at h
 repeat' split at h
 all_goals first|cases h;done|exact⟨_,_,h⟩|grind [Ar]
theorem afs {dst:Option Nat} {t t':TypeId} {s x:bK} {st:St} {K:bK->St->Option R} (h:Ap T cl dst t t' s x st K=a6 r): ∃z d,K z d=a6 r:=by
 unfold Ap at h;simp only[lZ,cond_eq_ite]at h
 repeat' split at h
 all_goals first|cases h;done|exact⟨_,_,h⟩|grind [Ar]
theorem aft {o:Oper} {b:Builtin} {d:List TypeId} {args:List bK} {st:St} {K:bK->St->Option R} (h:jY T cl o b d args st K=a6 r): ∃z e,K z e=a6 r:=by
 unfold jY at h;simp only[lZ,cond_eq_ite]at h
 grind [aBy,amE,afs]
def yg (sg:FuncId->Option Sum) (call:gy R):Prop:= ∀g s d e st (K:bK->St->Option R) r,sg g=a6 s->call (.fn g []) d e st K=a6 r-> ∃z f,K z f=a6 r
theorem aqz {s:Sum} {args:List bK} {dst:Option Nat} {st:St} {K:bK->St->Option R} (h:s.call cl args dst st K=a6 r): ∃z d,K z d=a6 r:=by
 unfold Sum.call at h;simp only[cond_eq_ite]at h;split at h
 .split at h
  .rename_i x e
   cases hf:s.f x with
   |none=>simp_all [bF]
   |some y=>
    grind [bF,Ar]
  .cases h
 .cases h
theorem ahR {call:gy R} (hx:yg sg call) {o:Oper} {st:St} {K:bK->St->Option R} (hp:wF sg o.op=true) (h:dZ T cl call o st K=a6 r): ∃z d,K z d=a6 r:=by
 obtain⟨j,e,l,m,p,q⟩:=o;cases e with
 |call c=>
  simp only[dZ]at h;simp only[wF]at hp;split at h
  .exact aft h
  .rename_i f i
   rw[i]at hp;cases f with
   |func g=>
    simp only at hp;cases hs:sg g with
    |none=>simp_all
    |some s=>exact hx g s _ _ _ _ _ hs h
   |_=>simp at hp
  .cases h
 |store t x y=>
  grind [dZ,aqy,aBx]
 |_=>
  simp only[dZ,lZ,cond_eq_ite]at h
  repeat' split at h
  all_goals first
   |cases h;done
   |exact⟨_,_,h⟩
   |(obtain⟨_,_,h⟩:=Ar h;exact⟨_,_,h⟩)
   |(obtain⟨_,_,h⟩:=Ar h;obtain⟨_,_,h⟩:=Ar h;exact⟨_,_,h⟩)
   |(obtain⟨_,h⟩:=awg h;exact⟨_,_,h⟩)
   |(obtain⟨_,h⟩:=awf h;exact⟨_,_,h⟩)
   |(obtain⟨_,h⟩:=aGl h;exact⟨_,_,h⟩)
   |(obtain⟨_,h⟩:=afu h;exact⟨_,_,h⟩)
   |(obtain⟨_,h⟩:=aqx h;exact⟨_,_,h⟩)
   |(obtain⟨_,h⟩:=X9 h;exact⟨_,_,h⟩)
   |(obtain⟨_,h⟩:=aqw h;exact⟨_,_,h⟩)
   |grind [Ya]
theorem XN {E:Env} {d:nD R}:yg E.sg (xg E d):=fun g s e f st K r i h=>by
 grind [xg,aqz]
theorem aE9:yg (R:=R) sg (GU sg cl):=fun g s e f st K r d h=>by
 simp only[GU,d]at h;exact aqz (dB h).2
theorem ana {o:Op} (h:iw o=true):wF sg o=true:=by
 cases o with
 |call c=>
  grind [iw,wF]
 |_=>rfl
theorem Io {call:gy R} (hx:yg sg call) {ops:Array Oper} {d:List bK}: ∀(l:List Nat) {st:St} {K:St->Option R},yS T cl call ops d l st K=a6 r-> ∃e,K e=a6 r
 |[],st,K,h=>⟨st,h⟩
 |i::l,st,K,h=>by
  simp only[yS]at h;split at h
  .rw[cond_eq_ite]at h;split at h
   .rename_i f
    obtain⟨_,_,h⟩:=ahR hx (ana f) h;exact Io hx l (dB h).2
   .exact Io hx l (dB h).2
  .cases h
theorem Yb {call:gy R} (hx:yg sg call) {ops:Array Oper} (hp: ∀o∈ops.toList,wF sg o.op=true) {j:Nat} {log:List Nat} {st:St} {K:St->Option R} (h:uB T cl call ops j log st K=a6 r): ∃d,K d=a6 r:=by
 unfold uB at h;split at h
 .rename_i e f
  obtain⟨_,_,h⟩:=ahR hx (hp e (by grind)) (dB h).2
  grind [Io]
 .cases h
theorem Vf {d e:Type} {o:Option d} {k:d->Option e} {y:e} (h:bF o k=a6 y): ∃x,o=a6 x/\k x=a6 y:=by
 cases o with
 |none=>simp[bF]at h
 |some x=>exact⟨x,rfl,h⟩
theorem zk {k:Option R} {r:R}: ∀(l:List (Option Unit)),QJ l k=a6 r->k=a6 r/\ ∀x∈l,x=a6 ()
 |[],h=>⟨h,fun _ d=>by cases d⟩
 |o::l,h=>by
  simp only[QJ]at h;obtain⟨⟨⟩,f,e⟩:=Vf h;obtain⟨g,i⟩:=zk l e
  grind
theorem Ry {ops:Array Oper} (hp: ∀o∈ops.toList,wF sg o.op=true) {m:gy St} {p:gy Unit} (e:yg sg m) (f:yg sg p): ∀(n:Nat) {R:Type} {r:R} {call:gy R},yg sg call-> ∀(l:Array Bool) (log:List Nat) (st:St) (K:St->Option R),
  mD T cl sg m p ops n call l log st K=a6 r-> ∃s,K s=a6 r
 |0,R,r,call,d,l,log,st,K,h=>by simp[mD]at h
 |n+1,R,r,call,d,l,log,st,K,h=>by
  have q: ∀{i:Nat} {g:Oper},ops[i]? =a6 g->wF sg g.op=true:=fun {i g} j=>hp g (by grind);simp only[mD]at h;split at h
  .exact⟨st,h⟩
  .split at h
   .split at h
    .rename_i j
     obtain⟨_,_,h⟩:=ahR d (q j) (dB h).2;exact Ry hp e f n d _ _ _ _ h
    .cases h
   .split at h
    .split at h
     .rename_i j
      obtain⟨_,_,h⟩:=ahR (aE9 (sg:=sg)) (q j) (dB h).2;exact Ry hp e f n d _ _ _ _ h
     .cases h
    .split at h
     .obtain⟨_,h⟩:=Yb d hp h;exact Ry hp e f n d _ _ _ _ h
     .rw[cond_eq_ite]at h;split at h
      .grind
      .obtain⟨_,h⟩:=Yb d hp h;obtain⟨_,h⟩:=Ry hp e f n d _ _ _ _ h;replace h:=(dB h).2
       grind [zk]
end
end
section
open Option renaming some → a6, none → a7
open Bool renaming and_eq_true → af, false_eq_true → ah, and_true → ax, not_false → aB, true_and → aU, not_eq_true → bg
open List renaming map_cons → ak, mem_cons_of_mem → au, length_map → aI, mem_cons_self → aP, cons_append → aW
open Nat renaming le_refl → ae, eq_of_beq_eq_true → aj
open Go.RowKit
section
variable {P:Program} {T:TT} {W0:World} {b0 n:Nat} {rd:Option Nat} {c:Cx} {st:St} {a:Act} {sg:FuncId->Option Sum} {cl:Bool} {ats:List (Array Value)} {ops:Array Oper}
def rM:(t:Ty)->t.den->List Value
 |.unit,_=>[]
 |.bool,x=>[.bool x]
 |.int k,x=>[.int k x]
 |.str,x=>[.string ⟨x.toArray⟩]
 |.list _,_=>[]
 |.pair a b,x=>rM a x.1++rM b x.2
theorem uJ {w:World} {fr:Nat->Prop}: ∀(t:Ty) (x:t.den),t.rigid=true-> ∀cs,fB w fr t x cs↔cs=rM t x
 |.unit,x,_,cs=>by rfl
 |.bool,x,_,cs=>by rfl
 |.int k,x,_,cs=>by rfl
 |.str,x,_,cs=>by rfl
 |.list t,x,h,cs=>by simp[Ty.rigid]at h
 |.pair a b,x,h,cs=>by
  simp only[Ty.rigid,af]at h;simp only[fB,rM,uJ a x.1 h.1,uJ b x.2 h.2];simp
def Jn (t:Ty) (x:t.den):Value:=if t.isAgg then .agg (rM t x).toArray else(rM t x).headD undef
theorem VD.rigid {t:Ty} {x:t.den} (h:t.rigid=true) (v:Value):VD c t x v↔v=Jn t x:=by
 cases ha:t.isAgg with
 |true=>
  rw[VD.agg ha];simp only[Jn,ha,if_true,uJ t x h];constructor
  .rintro ⟨cs,rfl,d⟩;rw[<-d]
  simp_all
 |false=>
  rw[VD.leaf ha,uJ t x h];have: ∃u,rM t x=[u]:=by cases t<;>first|exact⟨_,rfl⟩|(simp[Ty.rigid]at h;done)|grind [Ty.isAgg]
  grind [Jn]
def rv1:bK->Value
 |.val t x=>Jn t x
 |_=>undef
def rv:bK->Value
 |.tup l=>.tuple (l.map rv1).toArray
 |v=>rv1 v
theorem aj3 {v:bK} (h:v.rigid=true) (u:Value):bP c v u↔u=rv1 v:=by
 cases v<;>simp only[bK.rigid,ah]at h;simp_all [bP,rv1,VD.rigid]
theorem aj6: ∀(l:List bK),l.all bK.rigid=true-> ∀us,bH c l us↔us=l.map rv1
 |[],_,[]=>by simp[bH]
 |[],_,u::us=>by simp[bH]
 |v::l,_,[]=>by simp[bH]
 |v::l,h,u::us=>by
  simp only[List.all_cons,af]at h;simp only[bH,aj3 h.1,aj6 l h.2,ak,List.cons.injEq]
theorem IW {v:bK} (h:v.rigidR=true) (u:Value):bP c v u↔u=rv v:=by
 cases v with
 |tup l=>
  simp only[bK.rigidR]at h;simp only[bP,rv,aj6 l h];constructor
  .rintro ⟨e,rfl,d⟩;rw[<-d]
  simp_all
 |val t x=>exact aj3 (v:=.val t x) h u
 |_=>simp[bK.rigidR,bK.rigid]at h
theorem I5 (id:Nat): ∀(rs:List (Ty×Bool)) y,(rs.all fun r=> !r.2&&r.1.rigid)=true->(ou id rs y).all bK.rigid=true
 |[],_,_=>rfl
 |(t,true)::rs,y,h=>by simp at h
 |(t,false)::rs,y,h=>by
  simp only[List.all_cons,aB,aU,af]at h;simp only[ou,List.all_cons,bK.rigid,h.1,aU];exact I5 id rs y.2 h.2
theorem Ub: ∀(l:List bK),l.all bK.rigid=true->(MZ l).rigidR=true
 |[],_=>rfl
 |[v],h=>by
  simp only[List.all_cons,List.all_nil,ax]at h;cases v<;>simp only[bK.rigid,ah]at h;exact h
 |v::d::l,h=>h
theorem bH.mk {c:Cx}: ∀(l:List bK) (xs:List Value),l.length=xs.length->(∀(i:Nat) (h:i<l.length) (e:i<xs.length),bP c l[i] xs[i])->bH c l xs
 |[],[],_,_=>by simp[bH]
 |[],_::_,h,_=>by simp at h
 |_::_,[],h,_=>by simp at h
 |v::l,x::xs,h,d=>by
  simp only[bH];exact⟨d 0 (by simp) (by simp),bH.mk l xs (by simpa using h) fun i f g=>by
   have:=d (i+1) (by simp;omega) (by simp;omega);simpa using this⟩
def uY (ops:Array Oper) (k:Nat):Option Nat:=(ops[k]?).bind (·.dst)
def gq (ops:Array Oper) (a:Act):List (Nat×Value)->Act
 |[]=>a
 |(k,v)::l=>(gq ops a l).put (uY ops k) v
theorem zV (a:Act): ∀(q l:List (Nat×Value)),gq ops a (q++l)=gq ops (gq ops a l) q
 |[],l=>rfl
 |(k,v)::q,l=>by simp only[aW,gq];rw[zV a q l]
theorem zW (a:Act): ∀l,(gq ops a l).defers=a.defers
 |[]=>rfl
 |(k,v)::l=>by rw[gq,put_defers,zW a l]
theorem uH (a:Act): ∀l,(gq ops a l).tmps.size=a.tmps.size
 |[]=>rfl
 |(k,v)::l=>by
  rw[gq];cases uY ops k with
  |none=>exact uH a l
  |some d=>simp only[Act.put,Array.size_setIfInBounds];exact uH a l
def aoC (ops:Array Oper) (x y:Oper):Prop:= ∀d,y.dst=a6 d->d∉x.looksAt ops/\x.dst≠a6 d
theorem MB {x y:Oper} (h:Fq ops x y=true):aoC ops x y:=fun d hd=>by
 simp_all [Fq]
theorem xJ (a:Act) {d:Option Nat} {v:Value}: ∀(l:List (Nat×Value)),(∀m∈l.map (·.1),∀e,uY ops m=a6 e->d≠a6 e)->gq ops (a.put d v) l=(gq ops a l).put d v
 |[],_=>rfl
 |(k,u)::l,h=>by
  rw[gq,gq,xJ a l fun m f=>h m (au _ f)];simp_all [Act.put_comm]
theorem DT (a:Act) {o:Oper} (d: ∀cs b,o.op≠ .select cs b): ∀(l:List (Nat×Value)),(∀m∈l.map (·.1),∀e,uY ops m=a6 e->e∉o.looksAt ops)->execOp (gq ops a l).eval o=execOp a.eval o
 |[],_=>rfl
 |(k,u)::l,h=>by
  rw[gq,execOp_put (ops:=ops) o d _ _ _ (h k aP)];exact DT a d l fun m f=>h m (au _ f)
def iH (ops:Array Oper) (lA:Array Bool) (log:List Nat):List Nat->Prop
 |[]=>True
 |k::l=>iH ops lA log l/\lA.getD k true=false/\k∈log/\k∉l/\ ∃ok,ops[k]? =a6 ok/\jI ok.op=true/\ok.guard=a7/\(∀d,ok.dst=a6 d->d∉ok.looksAt ops)/\
   (∀e∈ok.after,Region.binds .any e=true->lA.getD e.on false=true\/e.on∈l)/\
   (∀m∈l,∃f,ops[m]? =a6 f/\aoC ops f ok/\(uf ops k m=false->f.apart ops ok=true))
def Ib (rd:Option Nat) (n:Nat) (P:Program) (c:Cx) (a:Act) (o:Oper) (v:Value):Prop:= ∀d,GK c d->o.quietAtIn (FW rd) n P a (GK (c.at_ d)) d v
theorem Ib.congr {a d:Act} {o:Oper} {v:Value} (h:execOp d.eval o=execOp a.eval o) (e:Ib rd n P c a o v):Ib rd n P c d o v:=fun f g=>by
 have:=e f g;simp_all [Oper.quietAtIn]
theorem Ib.of_run {a:Act} {o:Oper} {v:Value} (h: ∀w',GK c w'->(execOp a.eval o).run P w'=.ok (.value v) w'):Ib rd n P c a o v:=fun w' d=>by
 unfold Oper.quietAtIn;rw[h w' d];exact⟨rfl,rfl⟩
theorem Ib.ext {a:Act} {o:Oper} {v:Value} {w:World} (d:GK c w) (h:Ib rd n P c a o v):Ib rd n P (c.at_ w) a o v:=fun e f=>h e (Below.trans d (f.mono d.size))
theorem Ib.wpOp {a:Act} {i:Nat} {o:Oper} {v:Value} (hd:mP ops=true) (hi:ops[i]? =a6 o) (m:o.guard=a7) (h:Ib rd n P c a o v) {Q:Exit->Act->World->Prop} {K:Act->World->Prop} (l: ∀w',GK c w'->K (a.put o.dst v) w'):wpOpIn (FW rd) n P ops Q i K a c.w:=by
 unfold Go.wpOpIn;simp only[hi];rw[am (by simp[Region.wanted,m])];refine⟨qN o c.w _, ?_⟩;rw[xM (oM hd i o hi).1];have d:=h c.w (Below.refl _ _);unfold Oper.quietAtIn at d;generalize (execOp a.eval o).run P c.w=x at d ⊢
 match x,d with
 |.ok (.value u) w',d=>
  obtain⟨g,j⟩:=d;subst g j;exact l _ (Below.refl _ _)
 |.ok .skip w',d=>
  obtain⟨g,j⟩:=d;subst g j;exact l _ (Below.refl _ _)
 |.ok (.enter f z) w',d=>
  obtain⟨g,j,p⟩:=d;subst g;refine⟨j,CallsIn.mono p fun e A q=> ?_⟩;obtain⟨s,y⟩:=q;subst s;exact l _ y
def kH (rd:Option Nat) (n:Nat) (P:Program) (ops:Array Oper) (c:Cx) (a:Act):List (Nat×Value)->Prop
 |[]=>True
 |(k,v)::l=>kH rd n P ops c a l/\ ∃ok,ops[k]? =a6 ok/\Ib rd n P c (gq ops a l) ok v
theorem kH.ext {w:World} (d:GK c w) {a:Act}: ∀{l:List (Nat×Value)},kH rd n P ops c a l->kH rd n P ops (c.at_ w) a l
 |[],_=>trivial
 |(k,v)::l,h=>⟨kH.ext d h.1,let⟨ok,e,f⟩:=h.2;⟨ok,e,f.ext d⟩⟩
def ui (sg:FuncId->Option Sum) (cl:Bool) (o:Oper) (fr:List bK) (z:bK):Prop:=
 jI o.op=true/\(∃e i,o.op=.call e/\e.callee=.value i)/\z.rigidR=true/\(∀d,o.dst=a6 d->z=fr.getD d .undef)/\
  ∃f g,jB o fr=f::g/\ ∀(j:Option Nat) (h:St) (K:bK->St->Option Unit),GU sg cl f g j h K=K z h
theorem QL (hT:TOk P T) (g:nI (R:=Unit) P (GU sg cl)) {o:Oper} {z:bK} {e:List bK} (i:ui sg cl o e z) (j:jB o e=jB o st.fr) {a:Act} (l:iM W0 b0 rd c st a ats):bP c z (rv z)/\Ib rd n P c a o (rv z):=by
 obtain⟨m,⟨x,y,A,B⟩,f,_,D,E,p,G⟩:=i;rw[j]at p;refine⟨(IW f _).2 rfl,fun q s=> ?_⟩
 classical
 have h:dZ T cl (GU sg cl) o st (fun d _=>if d=z then a6 ()else a7)=a6 ():=by
  simp_all [jB,dZ]
 obtain⟨d,v,g1,g2,g3⟩:=adQ (n:=n) hT g m h (l.ext s);have u:d=z:=by
  simp_all
 rw[u]at g2;rw[<-(IW f v).1 g2];exact g3 q (Below.refl _ _)
def LK (sg:FuncId->Option Sum) (cl:Bool) (ops:Array Oper) (fr:List bK) (l:List Nat):Prop:= ∀k∈l,∀ok,ops[k]? =a6 ok->iw ok.op=false-> ∃z,ui sg cl ok fr z
theorem MH {l:Array Bool} {m:Nat} (d:l.getD m false=true) (h2:l.getD m true=false):False:=by
 grind
theorem aeH {lA:Array Bool} {j m:Nat} (f:j∈Region.ready .any ops lA) (i:lA.getD m true=false):uf ops j m=false:=by
 obtain⟨_,g,h,l⟩:=mem_ready.1 f;unfold uf;rw[h];cases d:g.after.any fun e=>Region.binds .any e&&Nat.beq e.on m with
 |false=>exact d
 |true=>
  obtain⟨e,o,d⟩:=Array.any_eq_true'.1 d;simp only[af]at d
  grind [aj]
theorem iH.un {lA:Array Bool} {log:List Nat}: ∀{l:List Nat},iH ops lA log l-> ∀k∈l,lA.getD k true=false
 |k::l,h,m,d=>by
  rcases List.mem_cons.1 d with e|d
  .rw[e];exact h.2.1
  .exact iH.un h.1 m d
theorem iH.log {lA:Array Bool} {log:List Nat}: ∀{l:List Nat},iH ops lA log l-> ∀k∈l,k∈log
 |k::l,h,m,d=>by
  rcases List.mem_cons.1 d with e|d
  .rw[e];exact h.2.2.1
  .exact iH.log h.1 m d
theorem iH.mono {lA:Array Bool} {log d:List Nat} (hl: ∀k∈log,k∈d): ∀{l:List Nat},iH ops lA log l->iH ops lA d l
 |[],_=>trivial
 |k::l,h=>⟨iH.mono hl h.1,h.2.1,hl _ h.2.2.1,h.2.2.2⟩
theorem iH.set {lA:Array Bool} {log:List Nat} {j:Nat}: ∀{l:List Nat},iH ops lA log l->j∉l->iH ops (lA.setIfInBounds j true) log l
 |[],_,_=>trivial
 |k::l,h,d=>by
  obtain⟨f,g,i,m,ok,o,p,q,s,u,v⟩:=h;refine⟨iH.set f fun h=>d (au _ h), ?_,i,m,ok,o,p,q,s,fun e x y=> ?_,v⟩
  .rw[getD_set_ne true (fun e=>d (by rw[e];exact aP))];exact g
  .exact(u e x y).imp getD_set_true fun h=>h
theorem xN {lA:Array Bool} {j:Nat} (d:j<lA.size):(lA.setIfInBounds j true).getD j false=true:=by simp[d]
theorem iH.take {lA:Array Bool} {log:List Nat} {k:Nat} (hk:k<lA.size): ∀{l:List Nat},iH ops lA log l->k∈l->iH ops (lA.setIfInBounds k true) log (l.erase k)
 |m::l,h,d=>by
  obtain⟨f,g,i,j,ok,o,p,q,s,z,u⟩:=h;by_cases e:m=k
  .simp_all [iH.set]
  .rw[List.erase_cons_tail (by simpa using e)];have v:k∈l:=(List.mem_cons.1 d).resolve_left fun h=>e h.symm;refine⟨iH.take hk f v, ?_,i,fun h=>j (List.mem_of_mem_erase h),ok,o,p,q,s,fun A B D=> ?_,fun x y=>u x (List.mem_of_mem_erase y)⟩
   .rw[getD_set_ne true (fun h=>e h.symm)];exact g
   grind [getD_set_true,xN]
theorem uu {k:Nat} {o:Oper} (h:ops[k]? =a6 o):uY ops k=o.dst:=by simp[uY,h]
theorem kH.put {a:Act} {c:Cx} (hd:mP ops=true) {d:Option Nat} {v:Value}: ∀{l:List (Nat×Value)},kH rd n P ops c a l->
  (∀m∈l.map (·.1),∃f,ops[m]? =a6 f/\(∀e,f.dst=a6 e->d≠a6 e)/\(∀e,d=a6 e->e∉f.looksAt ops))->kH rd n P ops c (a.put d v) l
 |[],_,_=>trivial
 |(k,u)::l,h,i=>by
  obtain⟨o,ok,g,p⟩:=h;refine⟨kH.put hd o fun m j=>i m (au _ j),ok,g,p.congr ?_⟩;obtain⟨f,g1,g2,g3⟩:=i k aP;rw[g]at g1;cases g1;rw[xJ a l fun m j e q=> ?_,execOp_put (ops:=ops) ok (oM hd k ok g).2 _ _ _ g3]
  grind [uu]
theorem WQ {a:Act} {c:Cx} (hd:mP ops=true) {lA:Array Bool} {log:List Nat} {k:Nat} {ok:Oper} (g:ops[k]? =a6 ok) (hk:k∈Region.ready .any ops lA):
  ∀{l:List (Nat×Value)},iH ops lA log (l.map (·.1))->kH rd n P ops c a l->k∈l.map (·.1)->
   ∃v d,Ib rd n P c a ok v/\d.map (·.1)=(l.map (·.1)).erase k/\kH rd n P ops c (a.put ok.dst v) d/\gq ops (a.put ok.dst v) d=gq ops a l
 |(m,u)::l,s,y,z=>by
  obtain⟨A,J,K,L,B,f,M,N,O,S,U⟩:=s;obtain⟨i,V,j,o⟩:=y;rw[f]at j;cases j;by_cases e:m=k
  .subst e;rw[g]at f;cases f;have W: ∀x∈l.map (·.1),∃p,ops[x]? =a6 p/\p.apart ops ok=true:=fun x D=>by
    grind [aeH,iH.un]
   refine⟨u,l,o.congr ?_,by simp,kH.put hd i fun x D=> ?_, ?_⟩
   .grind [DT,oM,Oper.apart_spec,uu]
   .grind [Oper.apart_spec]
   grind [gq,uu,xJ,Oper.apart_spec]
  .have E:k∈l.map (·.1):=(List.mem_cons.1 z).resolve_left fun h=>e h.symm;obtain⟨v,d,G,X,I,q⟩:=WQ hd g hk A i E;refine⟨v,(m,u)::d,G, ?_,⟨I,B,f,by rw[q];exact o⟩,by rw[gq,gq,q]⟩;simp_all
theorem Am {d:Type} {f:d->d->Bool} (hf: ∀x y,f x y=true->x=y): ∀(a b:List d),xk f a b=true->a=b
 |[],[],_=>rfl
 |[],_::_,h=>by simp[xk]at h
 |_::_,[],h=>by simp[xk]at h
 |x::l,y::m,h=>by
  simp only[xk,af]at h;rw[hf x y h.1,Am hf l m h.2]
theorem LZ: ∀(t:Ty) (x y:t.den),X8 t x y=true->x=y
 |.unit,(),(),_=>rfl
 |.bool,x,y,h=>by simpa [X8] using h
 |.int _,x,y,h=>by simpa [X8,bT] using h
 |.str,x,y,h=>by simpa [X8,gI] using h
 |.list t,x,y,h=>Am (LZ t) x y h
 |.pair a b,x,y,h=>by
  simp only[X8,af]at h;exact Prod.ext (LZ a _ _ h.1) (LZ b _ _ h.2)
theorem aqo {t u:Ty} {x:t.den} {y:u.den} (h:(match ku t y with|some y=>X8 t x y|none=>false)=true): ∃e:u=t,x=cast (congrArg Ty.den e) y:=by
 grind [mf,LZ]
theorem amA {a b:Option (Int×Int)} (h:afr a b=true):a=b:=by
 cases a<;>cases b<;>simp_all [afr,bT,Prod.ext_iff]
theorem kD {a b:Nat} (h:Nat.beq a b=true):a=b:=aj h
mutual
theorem aqt: ∀(a b:bK),UY a b=true->a=b
 |.undef,b,h=>by grind [UY]
 |.val t x,b,h=>by
  cases b<;>simp only[UY,ah]at h;obtain⟨e,h⟩:=aqo h;simp_all
 |.nils,b,h=>by grind [UY]
 |.nilp,b,h=>by grind [UY]
 |.nilfn,b,h=>by grind [UY]
 |.emp,b,h=>by grind [UY]
 |.tup l,b,h=>by
  cases b<;>simp only[UY,ah]at h;rw[qR l _ h]
 |.agg l,b,h=>by
  cases b<;>simp only[UY,ah]at h;rw[qR l _ h]
 |.cellp t x,b,h=>by
  cases b<;>simp only[UY,ah]at h;obtain⟨e,h⟩:=aqo h;simp_all
 |.lst t x n,b,h=>by
  cases b<;>simp only[UY,ah,af]at h;obtain⟨j,d⟩:=h;split at d
  .rename_i z g
   obtain⟨e,p⟩:=mf g;have q:=LZ (.list t) x z d
   grind
  .cases d
 |.ptr i o,b,h=>by
  cases b<;>simp only[UY,ah,af]at h;simp_all
 |.slc i v w,b,h=>by
  cases b<;>simp only[UY,ah,af]at h
  grind [kD,amA]
 |.ep i v m o,b,h=>by
  cases b<;>simp only[UY,ah,af]at h;rw[kD h.1,kD h.2.1,kD h.2.2.1,kD h.2.2.2]
 |.fn f l,b,h=>by
  cases b<;>simp only[UY,ah,af]at h;rw[kD h.1,qR l _ h.2]
 |.mfn f l,b,h=>by
  cases b<;>simp only[UY,ah,af]at h;rw[kD h.1,qR l _ h.2]
 |.mpv i,b,h=>by
  cases b<;>simp only[UY,ah]at h;rw[kD h]
 |.yld i,b,h=>by
  cases b<;>simp only[UY,ah]at h;rw[kD h]
 |.slf i,b,h=>by
  cases b<;>simp only[UY,ah]at h;rw[kD h]
 |.sd i v,b,h=>by
  cases b<;>simp only[UY,ah,af]at h;simp_all
theorem qR: ∀(a b:List bK),Il a b=true->a=b
 |[],[],_=>rfl
 |[],_::_,h=>by simp[Il]at h
 |_::_,[],h=>by simp[Il]at h
 |a::l,b::m,h=>by
  simp only[Il,af]at h;rw[aqt a b h.1,qR l m h.2]
end
theorem o9: ∀(B:List Nat) (fr:List bK),(oU ops B fr).length=fr.length
 |[],_=>rfl
 |i::B,fr=>by
  simp only[oU];split
  .rw[List.length_set];exact o9 B fr
  .exact o9 B fr
theorem ab5 {k d:Nat} {B:List Nat} {fr:List bK} (h:uY ops k=a6 d):oU ops (k::B) fr=(oU ops B fr).set d .undef:=by
 have e:(ops[k]?).bind (·.dst)=a6 d:=h;simp only[oU,e]
theorem ab4 {k:Nat} {B:List Nat} {fr:List bK} (h:uY ops k=a7):oU ops (k::B) fr=oU ops B fr:=by
 have d:(ops[k]?).bind (·.dst)=a7:=h;simp only[oU,d]
theorem VG: ∀(B:List Nat) (fr:List bK) (i:Nat) (h:i<fr.length) (e:i<(oU ops B fr).length),(oU ops B fr)[i]=.undef\/((oU ops B fr)[i]=fr[i]/\ ∀k∈B,uY ops k≠a6 i)
 |[],fr,i,h,e=>.inr ⟨rfl,fun k hk=>by cases hk⟩
 |k::B,fr,i,h,e=>by
  have f:=o9 (ops:=ops) B fr;have g:=VG B fr i h (by rw[f];exact h);cases hd:uY ops k with
  |some d=>
   simp only[ab5 hd]
   grind
  |none=>
   simp_all [ab4]
theorem aDU (X:Act) (d:Option Nat) (v:Value) (i:Nat) (e:d≠a6 i) (h:i<(X.put d v).tmps.size) (f:i<X.tmps.size):(X.put d v).tmps[i]=X.tmps[i]:=by
 cases d with
 |none=>rfl
 |some d=>
  simp_all [Act.put]
theorem WS (a:Act) (i:Nat): ∀(l:List (Nat×Value)),(∀k∈l.map (·.1),uY ops k≠a6 i)-> ∀(h:i<(gq ops a l).tmps.size) (d:i<a.tmps.size),(gq ops a l).tmps[i]=a.tmps[i]
 |[],_,h,d=>rfl
 |(k,v)::l,hk,h,d=>by
  have e:i<(gq ops a l).tmps.size:=by rw[uH];exact d
  rw[<-WS a i l (fun m f=>hk m (au _ f)) e d];exact aDU _ _ _ _ (hk k aP) h e
theorem alz {c:Cx} {fr:List bK} {l:List (Nat×Value)} {B:List Nat} (h:bH c fr (gq ops a l).tmps.toList) (j: ∀k∈l.map (·.1),k∈B):bH c (oU ops B fr) a.tmps.toList:=by
 have g:=bH.length _ _ h;rw[Array.length_toList (xs:=(gq ops a l).tmps),uH]at g;refine bH.mk _ _ (by simp_all [o9]) fun i d f=> ?_;rw[o9]at d;have f:i<a.tmps.size:=by simpa using f
 rcases VG (ops:=ops) B fr i d (by assumption)with e|⟨e,hk⟩
 .rw[e];simp[bP]
 .rw[e];have:=bH.get _ _ h i d (by simp_all [uH])
  grind [WS]
theorem OB {o:Oper} (h:jI o.op=true): ∀cs b,o.op≠ .select cs b:=fun cs b e=>by simp_all [jI]
theorem anb {d:Op} (h:iw d=true):jI d=true:=by
 cases d<;>first|exact h|skip
 rename_i e
 obtain⟨f,g,i⟩:=e;cases f with
 |builtin b=>cases b<;>first|exact h|(simp[iw]at h)
 |value v=>rfl
 |invoke x m=>simp[iw]at h
def aoA (T:TT) (cl:Bool) {R:Type} (call:gy R) (ops:Array Oper) (d:List bK) (st:St) (k:Nat):Prop:=∃ok,ops[k]? =a6 ok/\((iw ok.op=true/\ ∃(r:R) (K:St->Option R),(dZ T cl call ok st fun z s=>cond (sameAt ok.dst z st) (K s) a7)=a6 r)\/ (iw ok.op=false/\jB ok d=jB ok st.fr/\Aa ok.dst d=Aa ok.dst st.fr))
theorem CS {R:Type} {r:R} (hT:TOk P T) {call:gy R} {g:List bK} {K:St->Option R} (f:iM W0 b0 rd c st a ats): ∀(B:List Nat),
  yS T cl call ops g B st K=a6 r->K st=a6 r/\ ∀k∈B,aoA T cl call ops g st k
 |[],h=>⟨h,fun k hk=>by cases hk⟩
 |k::B,h=>by
  simp only[yS]at h;split at h
  .rename_i ok j
   cases hq:iw ok.op with
   |true=>
    rw[hq]at h;simp only[aa]at h;have l:=h;obtain⟨z,u,g1,g2,g3⟩:=A8 hT f.ok hq f.hp f.fr h;replace g1:=dB g1;obtain⟨g4,g5⟩:=CS hT f B g1.2;refine⟨g4,fun m d=> ?_⟩;rcases List.mem_cons.1 d with e|d
    .exact⟨ok,by rw[e];exact j,.inl ⟨hq,r,fun _=>yS T cl call ops g B st K,l⟩⟩
    .exact g5 m d
   |false=>
    rw[hq]at h;simp only[ac]at h;replace h:=dB h;obtain⟨i,h⟩:=h;simp only[af]at i;obtain⟨g4,g5⟩:=CS hT f B h;refine⟨g4,fun m d=> ?_⟩;rcases List.mem_cons.1 d with e|d
    .exact⟨ok,by rw[e];exact j,.inr ⟨hq,qR _ _ i.1,qR _ _ i.2⟩⟩
    .exact g5 m d
  .cases h
theorem ui.same {o:Oper} {fr e:List bK} {z:bK} (h:ui sg cl o fr z) (p:jB o fr=jB o e) (h2:Aa o.dst fr=Aa o.dst e):ui sg cl o e z:=by
 obtain⟨f,g,i,q,j,l,s,m⟩:=h;refine⟨f,g,i,fun d hd=> ?_,j,l,by simp_all,m⟩;simp_all [Aa]
theorem adW {d:Nat} {z:bK} (h:z=st.fr.getD d .undef):st.put (a6 d) z=st:=by
 obtain⟨fr,e,f,g⟩:=st;simp only[St.put];have:fr.set d z=fr:=by
  subst h;apply List.ext_getElem
  all_goals grind
 rw[this]
theorem ayI (X:Act) (d:Option Nat) (v u:Value):(X.put d v).put d u=X.put d u:=by
 cases d with
 |none=>rfl
 |some d=>simp[Act.put]
theorem VB (hT:TOk P T) (hd:mP ops=true) (I:nI (R:=Unit) P (GU sg cl)) {R:Type} {call:gy R} {W:List bK} {lA:Array Bool} {log:List Nat}: ∀(l q:List (Nat×Value)),iH ops lA log (l.map (·.1))->iM W0 b0 rd c st (gq ops (gq ops a l) q) ats->
  (∀k∈l.map (·.1),aoA T cl call ops W st k)->LK sg cl ops st.fr (l.map (·.1))->(∀m∈q.map (·.1),∃i,ops[m]? =a6 i/\ ∀k∈l.map (·.1),∃ok,ops[k]? =a6 ok/\aoC ops ok i)->
  ∃f,f.map (·.1)=l.map (·.1)/\iM W0 b0 rd c st (gq ops (gq ops a f) q) ats/\kH rd n P ops c a f
 |[],q,_,y,_,_,_=>⟨[],rfl,y,trivial⟩
 |(k,v)::l,q,X,y,J,hF,L=>by
  obtain⟨Y,s2,s3,s4,ok,o,M,s7,Z,s9,al⟩:=X;have ab: ∀m∈(q++[(k,v)]).map (·.1),∃i,ops[m]? =a6 i/\ ∀x∈l.map (·.1),∃N,ops[x]? =a6 N/\aoC ops N i:=fun m g=>by
   grind
  obtain⟨f,e1,j,ad⟩:=VB hT hd I l (q++[(k,v)]) Y (by rw[zV];exact y) (fun m g=>J m (au _ g)) (fun m g=>hF m (au _ g)) ab;rw[zV]at j;have hX:gq ops (gq ops a f) [(k,v)]=(gq ops a f).put (uY ops k) v:=rfl;rw[hX]at j;have A:=uu o;have ag:execOp (gq ops ((gq ops a f).put (uY ops k) v) q).eval ok=execOp (gq ops a f).eval ok:=by
   rw[DT _ (OB M) q fun m g e he=> ?_,execOp_put (ops:=ops) ok (OB M) _ _ _ (by rw[A];exact Z)];obtain⟨i,h1,B⟩:=L m g;obtain⟨O,p,D⟩:=B k aP;rw[o]at p;cases p;exact(D e (by grind [uu])).1
  have S: ∀u,gq ops ((gq ops a f).put (uY ops k) u) q=(gq ops (gq ops a f) q).put (uY ops k) u:=fun u=>xJ _ q fun m g e he h=>by
   obtain⟨i,h1,B⟩:=L m g;obtain⟨O,p,D⟩:=B k aP;rw[o]at p;cases p;exact(D e (by grind [uu])).2 (by simp_all)
  have U: ∀(z:bK) (u:Value),bP c z u->st.put ok.dst z=st->Ib rd n P c (gq ops ((gq ops a f).put (uY ops k) v) q) ok u->
    ∃E,E.map (·.1)=((k,v)::l).map (·.1)/\iM W0 b0 rd c st (gq ops (gq ops a E) q) ats/\kH rd n P ops c a E:=fun z u g2 ai g3=>by
   refine⟨(k,u)::f,by simp[e1], ?_,ad,ok,o,g3.congr ag.symm⟩;have:=j.put (dst:=ok.dst) g2;rw[ai,S v,A,ayI,<-A,<-S u]at this;exact this
  obtain⟨O,V,a2⟩:=J k aP;rw[o]at V;cases V;rcases a2 with ⟨G,r,K,a3⟩|⟨G,_,_⟩
  .obtain⟨z,u,g1,g2,g3⟩:=A8 hT j.ok G j.hp j.fr a3;rw[cond_eq_ite]at g1;split at g1
   .rename_i s
    refine U z u g2 ?_ (.of_run g3);cases hdst:ok.dst with
    |none=>rfl
    |some d=>
     rw[hdst]at s;exact adW (aqt _ _ s)
   .cases g1
  .obtain⟨z,s⟩:=hF k aP ok o G;obtain⟨g2,g3⟩:=QL (n:=n) hT I s rfl j;refine U z _ g2 ?_ g3;cases hdst:ok.dst with
   |none=>rfl
   |some d=>exact adW (s.2.2.2.1 d hdst)
theorem Fz (hT:TOk P T) (hd:mP ops=true) (M:nI (R:=Unit) P (GU sg cl)) {R:Type} {r:R} {call:gy R} (N:mi P W0 n call) {lA:Array Bool} {log:List Nat} {l:List (Nat×Value)} {j:Nat} {K:St->Option R}
  (hF:LK sg cl ops st.fr (l.map (·.1))) (hj:j∈Region.ready .any ops lA) (y:iH ops lA log (l.map (·.1))) (ad:j∉l.map (·.1)) (d:iM W0 b0 rd c st (gq ops a l) ats)
  (h:uB T cl call ops j log st K=a6 r) {next:Act->World->Prop} {Q:Exit->Act->World->Prop}
  (O: ∀c' p q f,K p=a6 r->f.map (·.1)=l.map (·.1)->iM W0 b0 rd c' p (gq ops q f) ats->kH rd n P ops c' q f->LK sg cl ops p.fr (l.map (·.1))->c.Mono c'->next q c'.w):wpOpIn (FW rd) n P ops Q j next a c.w:=by
 unfold uB at h;split at h
 .rename_i g S
  replace h:=dB h;obtain⟨s,h⟩:=h;simp only[af]at s;have U:g.guard=a7:=by simpa using s.1
  unfold wpOpIn;simp only[S];rw[am (by simp[Region.wanted,U])];have A: ∀k∈l.map (·.1),k∈log.filter fun i=> !uf ops j i:=fun k hk=>List.mem_filter.2 ⟨iH.log y k hk,by grind [aeH,iH.un]⟩;have ag: ∀k∈l.map (·.1),∃ok,ops[k]? =a6 ok/\ok.apart ops g=true:=fun k hk=>by
   have V:=s.2;unfold as3 at V
   grind
  have W:iM W0 b0 rd c {st with fr:=oU ops (log.filter fun i=> !uf ops j i) st.fr,stk:=st.fr::st.stk} a ((gq ops a l).tmps::ats):=
   ⟨d.hp,d.nxt,d.ok,alz d.fr A,⟨d.fr,d.stk⟩,by have:=d.df;rwa [zW]at this,d.rd⟩
  refine TB hT N h W fun c' z u X k1 k2 k3 k4=> ?_;split at k1
  .rename_i fr v Y
   have o:=k2.stk;rw[Y]at o;simp only[Dl]at o;have Z:iM W0 b0 rd c' {X with fr:=fr,stk:=v} (gq ops a l) ats:=
    ⟨k2.hp,k2.nxt,k2.ok,o.1,o.2,by rw[zW];exact k2.df,k2.rd⟩
   have x:=Z.put (dst:=g.dst) k3;have ab:(gq ops a l).put g.dst u=gq ops (a.put g.dst u) l:=(xJ a l fun m B e he hh=>by
    grind [Oper.apart_spec,uu]).symm
   rw[ab]at x;obtain⟨g1,g2⟩:=CS hT x _ k1;have D: ∀k∈l.map (·.1),aoA T cl call ops st.fr _ k:=fun k hk=>g2 k (List.mem_reverse.2 (A k hk));have E:LK sg cl ops _ (l.map (·.1)):=fun k hk ok G I=>by
    obtain⟨z,hz⟩:=hF k hk ok G I;obtain⟨ai,J,b2⟩:=D k hk;rw[G]at J;cases J;rcases b2 with ⟨L,_⟩|⟨_,b4,b5⟩
    .rw[I]at L;cases L
    .exact⟨z,hz.same b4 b5⟩
   obtain⟨f,e1,e2,e3⟩:=VB (n:=n) hT hd M l [] y x D E (fun m B=>by cases B);exact O c' _ _ f g1 e1 e2 e3 E k4
  .cases k1
 .cases h
def WfH (h:gG):Prop:= ∀id f e g jk d k n p,dM h id=a6 (.lp f e g jk d (a6 k) n p)->uI f k=a6 (jk,d)
theorem iM.tidy {c:Cx} {st:St} {a:Act} (cl:Bool) (d:iM W0 b0 rd c st a ats): ∃c',iM W0 b0 rd c' (tidy cl st) a ats/\c.Mono c'/\c'.w=c.w:=by
 cases cl with
 |true=>exact⟨c,d,Cx.Mono.refl c,rfl⟩
 |false=>
  have g: ∀i,dM (lG c.hp) i=dM c.hp i:=fun i=>xA i _;have q: ∀(o:dJ) (l:Loc),o.like l o l:=fun o l=>by
   cases o<;>simp[dJ.like]
  have e:c.Le {c with hp:=lG c.hp}:=by
   refine⟨fun b f=>⟨⟨f.1,fun⟨j,o,s,m⟩=>f.2.1 ⟨j,o,by simp_all,m⟩,f.2.2⟩,rfl⟩,fun id hk=> ?_,fun id u _ h=>⟨u,by rw[<-g];exact h,q _ _⟩,fun _ h=>h,fun b L h=>⟨L,h⟩,ae _,rfl⟩;rcases hk with ⟨o,h⟩|h
   .exact .inl ⟨o,by simp_all⟩
   .exact .inr h
  have v:({c with hp:=lG c.hp}:Cx).Ok W0:=by
   refine⟨d.ok.bel,fun id o h=> ?_,fun i j o p b s m=>d.ok.inj i j o p b (by simp_all) (by simp_all),d.ok.mks,fun b f=>(e.out b (d.ok.bar b f)).1,d.ok.phi⟩;exact(d.ok.obj id o (by rw[<-g];exact h)).le e rfl fun b _=>rfl
  exact⟨{c with hp:=lG c.hp},⟨by show lG c.hp=lG st.hp;rw[d.hp],d.nxt,v,bH.le e _ _ d.fr,Dl.le e _ _ d.stk,d.df,d.rd⟩,e.mono,rfl⟩
theorem iM.wf {c:Cx} {st:St} {a:Act} (d:iM W0 b0 rd c st a ats):WfH st.hp:=fun id f e g jk i k n p h=>by
 rw[<-d.hp]at h;exact(d.ok.obj id _ h).1 k rfl
def WfO:dJ->Prop
 |.lp f _ _ jk bd (a6 k) _ _=>uI f k=a6 (jk,bd)
 |_=>True
theorem NM: ∀(h:gG),tu h=true->WfH h-> ∀e∈h,WfO e.2
 |[],_,_,e,d=>by simp at d
 |(k,o)::h,g,m,e,d=>by
  simp only[tu,af,Bool.not_eq_true']at g;rcases List.mem_cons.1 d with rfl|d
  .cases o with
   |lp f i j jk l ky n p=>
    cases ky with
    |none=>trivial
    |some q=>exact m k f i j jk l q n p (by simp[dY])
   |_=>trivial
  .refine NM h g.2 (fun id f i j jk l q n p u=>m id f i j jk l q n p ?_) e d;rw[dY];by_cases hk:k=id
   .subst hk;have:=xy _ _ _ u;have s:=g.1;rw[List.any_eq_false]at s;exact absurd (by simp:Nat.beq k k=true) (s _ this)
   simp_all
theorem awc {a b:Ex} (h:aBt a b=true):a=b:=by
 cases a<;>cases b<;>simp only[aBt,ah]at h<;>first|rfl|rw[kD h]
theorem aqr {a b:Option Ex} (h:aqp a b=true):a=b:=by
 cases a<;>cases b<;>simp only[aqp,ah]at h
 .rfl
 .rw[awc h]
theorem avs {o:gG} {i:Nat} {a b x:dJ} (s:WfH o) (hb:WfO b) (d:eqO a b=true) (h:UM o i a=a6 x):x=b:=by
 cases a with
 |box t l=>
  cases b<;>simp only[eqO,ah,af]at d;cases h;rw[kD d.1,qR _ _ d.2]
 |arr t v y=>
  cases b<;>simp only[eqO,ah,af]at d;cases h
  grind [mf,LZ,kD]
 |dead=>
  cases b<;>simp only[eqO,ah]at d;cases h;rfl
 |mp k v l=>
  cases b<;>simp only[eqO,ah,af,decide_eq_true_eq]at d;obtain⟨rfl,rfl,rfl⟩:=d;cases h;rfl
 |lp f fr ps jk bd ky n p=>
  cases b<;>simp only[eqO,ah,af]at d
  rename_i g G I J K L m q
  obtain⟨u,M,N,e,O,S⟩:=d;split at e
  .rename_i k U
   have z:=kD u;have A:=kD e;subst z A;simp only[UM]at h;split at h
   .rename_i B
    replace h:=dB h;obtain⟨j,h⟩:=h;simp only[af]at j
    rename_i g2 _ _ V W k2 _ _
    have D:=kD j.1;have E:=kD j.2;subst D E;have X:=s _ _ _ _ _ _ _ _ _ B
    grind [WfO,qR,Am,kD,aqr]
   .cases h
  .cases e
theorem UK {f:gG} (g:WfH f): ∀(a b x:gG),(∀e∈b,WfO e.2)->eqH a b=true->UJ f a=a6 x->x=b
 |[],b,x,_,d,h=>by
  cases b with
  |nil=>cases h;rfl
  |cons _ _=>simp[eqH]at d
 |(i,o)::a,b,x,l,d,h=>by
  cases b with
  |nil=>simp[eqH]at d
  |cons e b=>
   obtain⟨j,q⟩:=e;simp only[eqH,af]at d;simp only[UJ]at h;split at h
   .rename_i y m
    split at h
    .rename_i z p
     cases h;rw[avs g (l _ aP) d.2.1 m,UK g a b z (fun e d=>l e (au _ d)) d.2.2 p,kD d.1]
    .cases h
   .cases h
theorem ano {d:gG} {a b m:St} (h:settle d a=a6 m) (e:WfH d) (h2:aqs a b=true) (f:tu b.hp=true) (hb:WfH b.hp):m=b:=by
 unfold settle at h;split at h
 .rename_i hp g
  cases h;unfold aqs at h2;simp only[af]at h2;obtain⟨j,l,i,o⟩:=h2;have p:=UK e _ _ _ (NM _ f hb) i g;obtain⟨q,s,u,v⟩:=a;obtain⟨x,y,z,A⟩:=b
  grind [qR,Am,kD]
 .cases h
theorem ahn {e:gG} {i:Nat} {a x:dJ} (g:WfH e) (o:WfO a) (h:UM e i a=a6 x):x=a:=by
 cases a with
 |lp f fr ps jk bd ky n p=>
  cases ky with
  |none=>simp[UM]at h
  |some k=>
   simp only[UM]at h;split at h
   .rename_i j
    replace h:=dB h;obtain⟨d,h⟩:=h;simp only[af]at d;have l:=kD d.1;have m:=kD d.2;subst l m;have q:=g _ _ _ _ _ _ _ _ _ j;simp_all [WfO]
   .cases h
 |_=>simp_all [UM]
theorem UL {d:gG} (f:WfH d): ∀(a x:gG),(∀e∈a,WfO e.2)->UJ d a=a6 x->x=a
 |[],x,_,h=>by cases h;rfl
 |(i,o)::a,x,g,h=>by
  simp only[UJ]at h;split at h
  .rename_i y j
   split at h
   .rename_i z l
    cases h;rw[ahn f (g _ aP) j,UL f a z (fun e m=>g e (au _ m)) l]
   .cases h
  .cases h
theorem aei {d:gG} {a m:St} (h:settle d a=a6 m) (e:WfH d) (f:tu a.hp=true) (g:WfH a.hp):m=a:=by
 unfold settle at h;split at h
 .rename_i hp i
  cases h;rw[UL e _ _ (NM _ f g) i]
 .cases h
theorem adz {e:gG} {L:List (Option St)} {m:St} (h:Ti e L=a6 m) (f:WfH e): ∀x∈L,∃b,x=a6 b/\(WfH b.hp->m=b):=by
 unfold Ti at h;split at h
 .rename_i a l
  replace h:=dB h;obtain⟨g,h⟩:=h;split at h
  .rename_i hp i
   cases h;intro x j;have d:=List.all_eq_true.1 g x j;cases x with
   |none=>simp at d
   |some b=>
    simp only[af]at d;refine⟨b,rfl,fun o=> ?_⟩;obtain⟨d,p⟩:=d;unfold aqs at d;simp only[af]at d;obtain⟨s,u,q,v⟩:=d;have y:=UK f _ _ _ (NM _ p o) q i;obtain⟨z,A,B,D⟩:=a;obtain⟨E,G,I,J⟩:=b
    grind [qR,Am,kD]
  .cases h
 .cases h
def aca (ops:Array Oper) (lA:Array Bool):Nat:=((List.range ops.size).filter fun i=> !lA.getD i true).length
theorem filter_lt {f:Type} {p q:f->Bool}: ∀(l:List f),(∀x∈l,q x=true->p x=true)->(∃x∈l,p x=true/\q x=false)->(l.filter q).length<(l.filter p).length
 |[],_,h=>by simp_all
 |y::l,h,d=>by
  have m:(l.filter q).length<=(l.filter p).length:=by
   clear d
   induction l with
   |nil=>simp
   |cons z l g=>
    grind
  obtain⟨x,d,i,j⟩:=d;simp only[List.filter_cons];rcases List.mem_cons.1 d with e|d
  .grind
  .have g:=filter_lt l (fun x d=>h x (au _ d)) ⟨x,d,i,j⟩
   grind
theorem Jl {lA:Array Bool} {j:Nat} (l:lA.size=ops.size) (d:j∈Region.ready .any ops lA):aca ops (lA.setIfInBounds j true)<aca ops lA:=by
 obtain⟨f,m,g,_⟩:=mem_ready.1 d;have i:j<ops.size:=(Array.getElem?_eq_some_iff.1 g).1;refine filter_lt _ (fun x o h=> ?_) ⟨j,List.mem_range.2 i,by rw[f];rfl, ?_⟩
 .by_cases e:j=x
  all_goals simp_all
 simp
theorem alD {lA:Array Bool} (h:aca ops lA=0):Region.ready .any ops lA=[]:=by
 simp_all [aca,Region.ready]
theorem iH.oldest {lA:Array Bool} {log:List Nat}: ∀{l:List Nat},iH ops lA log l->l≠[]-> ∃k∈l,k∈Region.ready .any ops lA
 |[],_,h=>absurd rfl h
 |[k],h,_=>by
  obtain⟨_,f,_,_,ok,g,_,_,_,i,_⟩:=h;simp_all [mem_ready]
 |k::m::l,h,_=>by
  obtain⟨x,d,e⟩:=iH.oldest h.1 (by simp);exact⟨x,au _ d,e⟩
structure Lag (n:Nat) (sg:FuncId->Option Sum) (cl:Bool) (P:Program) (W0:World) (b0:Nat) (rd:Option Nat) (ats:List (Array Value)) (ops:Array Oper) (c:Cx) (st:St) (lE:Array Bool) (log:List Nat) (a:Act) (lA:Array Bool) (l:List (Nat×Value)):Prop where
 rel:iM W0 b0 rd c st (gq ops a l) ats
 pst:iH ops lA log (l.map (·.1))
 run:kH rd n P ops c a l
 sA:lA.size=ops.size
 sE:lE.size=ops.size
 sub: ∀j,lA.getD j false=true->lE.getD j false=true
 cov: ∀j,lE.getD j false=true->lA.getD j false=true\/j∈l.map (·.1)
 hE: ∀k∈l.map (·.1),lE.getD k false=true
 fit:LK sg cl ops st.fr (l.map (·.1))
theorem Yt {l:Array Bool} {j:Nat} (h:j<l.size):l.getD j true=l.getD j false:=by simp[h]
theorem Lag.ready {d:Array Bool} {log:List Nat} {lA:Array Bool} {l:List (Nat×Value)} (h:Lag n sg cl P W0 b0 rd ats ops c st d log a lA l) {j:Nat} (g:j∈Region.ready .any ops lA) (u:j∉l.map (·.1)):j∈Region.ready .any ops d:=by
 obtain⟨v,i,f,m⟩:=mem_ready.1 g;have o:j<ops.size:=(Array.getElem?_eq_some_iff.1 f).1;refine mem_ready.2 ⟨?_,i,f,fun e p q=>h.sub _ (m e p q)⟩;cases hg:d.getD j true with
 |false=>rfl
 |true=>
  rw[Yt (by rw[h.sE];exact o)]at hg;rcases h.cov j hg with s|s
  all_goals grind
theorem Pq (hd:mP ops=true) {f:Array Bool} {log:List Nat} {Q:Act->World->Prop}
  (J:Region.ready .any ops f=[]-> ∀w,GK c w-> ∀a,iM W0 b0 rd (c.at_ w) st a ats->Q a w)
  (K: ∀(w:World),GK c w-> ∀(d:Nat) (a:Act) (lA:Array Bool) (l:List (Nat×Value)) (j:Nat),Lag n sg cl P W0 b0 rd ats ops (c.at_ w) st f log a lA l->aca ops lA<=d+1->j∈Region.ready .any ops lA->j∉l.map (·.1)->j∈Region.ready .any ops f->
   wpOpIn (FW rd) n P ops (fun e a w=>e=.normal/\Q a w) j (wpAnyIn (FW rd) n P .any ops (fun e a w=>e=.normal/\Q a w) d (lA.setIfInBounds j true)) a w):
  ∀(m d:Nat) (w:World),GK c w-> ∀(a:Act) (lA:Array Bool) (l:List (Nat×Value)),l.length=m->Lag n sg cl P W0 b0 rd ats ops (c.at_ w) st f log a lA l->aca ops lA<=d->
   wpAnyIn (FW rd) n P .any ops (fun e a w=>e=.normal/\Q a w) d lA a w:=by
 have D: ∀(w:World),GK c w-> ∀(a:Act) (lA:Array Bool) (l:List (Nat×Value)),Lag n sg cl P W0 b0 rd ats ops (c.at_ w) st f log a lA l->Region.ready .any ops lA=[]->Q a w:=fun w g a lA l h i=>by
  have L:l=[]:=by
   cases l with
   |nil=>rfl
   |cons x l=>
    obtain⟨k,_,hk⟩:=iH.oldest h.pst (by simp);simp_all
  subst L;refine J ?_ w g a h.rel;cases hrE:Region.ready .any ops f with
  |nil=>rfl
  |cons j X=>
   obtain⟨p,q,E,M⟩:=mem_ready.1 (show j∈Region.ready .any ops f by rw[hrE];simp);have u:j<ops.size:=(Array.getElem?_eq_some_iff.1 E).1;have:j∈Region.ready .any ops lA:=mem_ready.2 ⟨by
    cases hg:lA.getD j true with
    |false=>rfl
    |true=>
     rw[Yt (by rw[h.sA];exact u)]at hg;exact(MH (h.sub j hg) p).elim,q,E,fun e N O=>(h.cov _ (M e N O)).resolve_right (by simp)⟩
   simp_all
 intro m
 induction m using Nat.strongRecOn with
 |ind m y=>
  intro d w g a lA l s h S;cases d with
  |zero=>
   have i:=alD (ops:=ops) (lA:=lA) (by omega);exact⟨i,rfl,D w g a lA l h i⟩
  |succ d=>
   refine⟨fun i=>⟨rfl,D w g a lA l h i⟩,fun j o=> ?_⟩;by_cases hjl:j∈l.map (·.1)
   .obtain⟨Y,q,z,Z⟩:=mem_ready.1 o;obtain⟨v,A,g1,g2,g3,g4⟩:=WQ hd z o h.pst h.run hjl;have u:j<ops.size:=(Array.getElem?_eq_some_iff.1 z).1;have U:q.guard=a7:=by
     have: ∀(l:List Nat),iH ops lA log l->j∈l->q.guard=a7:=fun l=>by
      induction l with
      |nil=>intro _ h;cases h
      |cons k l y=>
       intro G s;rcases List.mem_cons.1 s with e|s
       .subst e;obtain⟨_,_,_,_,ok,h5,_,h7,_⟩:=G;simp_all
       .exact y G.1 s
     exact this _ h.pst hjl
    have V:A.length<m:=by
     grind [aI]
    refine g1.wpOp (c:=c.at_ w) hd z U fun I B=> ?_;have W:GK c I:=Below.trans g (B.mono g.size);refine y A.length V d I W _ _ A rfl ⟨by rw[g4];exact h.rel.ext B,by rw[g2];exact iH.take (by rw[h.sA];exact u) h.pst hjl,kH.ext B g3,by simpa using h.sA,h.sE,fun k hk=> ?_,fun k hk=> ?_,fun k hk=>h.hE k (by grind),fun k hk=>h.fit k (by grind)⟩ (by have:=Jl h.sA o;omega)
    .by_cases e:j=k
     .subst e;exact h.hE j hjl
     .rw[getD_set_ne false e]at hk;exact h.sub k hk
    .rcases h.cov k hk with p|p
     .exact .inl (getD_set_true p)
     grind [xN]
   .exact K w g d a lA l j h S o hjl (h.ready o hjl)
theorem amC {fr:List bK} {d:Nat} {z:bK} {x:Operand} (h:x≠ .tmp d):gV (fr.set d z) x=gV fr x:=by
 cases x with
 |tmp t=>
  grind [gV]
 |_=>rfl
theorem BG {o:Oper} {dst:Option Nat} {z:bK} (h: ∀d,dst=a6 d->d∉o.looksAt ops):jB o (st.put dst z).fr=jB o st.fr:=by
 cases dst with
 |none=>rfl
 |some d=>
  have f: ∀x∈o.op.operands,x≠ .tmp d:=fun x f e=>h d rfl (by
   subst e;exact List.mem_append_left _ (List.mem_filterMap.2 ⟨.tmp d,by simpa using f,rfl⟩))
  grind [jB,St.put,amC,Op.operands,Call.operands,List.map_congr_left]
theorem ag7 {o:Oper} {dst:Option Nat} {z:bK} (h: ∀d,dst=a6 d->o.dst≠a6 d):Aa o.dst (st.put dst z).fr=Aa o.dst st.fr:=by
 cases dst with
 |none=>rfl
 |some d=>
  cases ho:o.dst with
  |none=>rfl
  |some e=>
   have f:d≠e:=fun x=>h d rfl (by rw[ho,x]);simp_all [Aa,St.put]
theorem WG: ∀(rs:List (Ty×Bool)) y,(rs.all fun r=> !r.2&&r.1.rigid)=true->yM rs y=a7/\news rs=0/\(rs.all fun r=>r.1.rigid||(r.2&&r.1.elem.rigid))=true
 |[],_,_=>⟨rfl,rfl,rfl⟩
 |(t,true)::rs,y,h=>by simp at h
 |(t,false)::rs,y,h=>by
  simp only[List.all_cons,aB,aU,af]at h;obtain⟨d,e,f⟩:=WG rs y.2 h.2;simp_all [yM,news]
theorem VC {hp hp':gG}: ∀(d:List Ty) (args:List bK),args.all bK.calm=true->Ag hp d args=Ag hp' d args
 |[],[],_=>rfl
 |[],_::_,_=>rfl
 |_::_,[],_=>rfl
 |t::d,v::args,h=>by
  simp only[List.all_cons,af]at h;have e:v.as hp t=v.as hp' t:=by cases v<;>simp only[bK.calm,ah]at h<;>first|rfl|simp_all
  have f:=VC (hp:=hp) (hp':=hp') d args h.2;simp only[Ag,e,f]
theorem ag2 {R:Type} {r:R} {i:Nat} {e:Oper} {X:bK->St->Option R} (hi:Yy sg ops st.fr i=true) (u:ops[i]? =a6 e) (A: ∀d,e.dst=a6 d->d∉e.looksAt ops)
  (h:dZ T cl (GU sg cl) e st X=a6 r): ∃z,X z st=a6 r/\jI e.op=true/\ui sg cl e (st.put e.dst z).fr z:=by
 unfold Yy at hi;rw[u]at hi;simp only at hi;split at hi
 .rename_i g m j
  split at hi
  .rename_i s B
   simp only[af]at hi;obtain⟨⟨o,p⟩,N⟩:=hi;obtain⟨O,D,S,U,V,W⟩:=e;cases D with
   |call c=>
    obtain⟨E,Y,Z⟩:=c;cases E with
    |value v=>
     have G:=j;simp only[jB,List.cons.injEq]at j;simp only[dZ]at h;rw[j.1,j.2]at h;have I: ∀{R:Type} (dst:Option Nat) (l:St) (K:bK->St->Option R),GU sg cl (.fn g []) m dst l K=match Ag [] s.ps m with
       |some x=>bF (s.f x) fun y=>K (MZ (ou 0 s.rs y)) l
       |none=>a7:=fun {R} dst l K=>by
      simp only[GU,B,o,p,Bool.and_self,aa,Sum.call];have q:=o;unfold KP at q;rw[VC (hp:=l.hp) (hp':=[]) _ _ p];cases Ag [] s.ps m with
      |none=>simp
      |some x=>
       simp only;cases hf:s.f x with
       |none=>simp[bF]
       |some y=>
        obtain⟨J,L,M⟩:=WG s.rs y q;simp[bF,J,L,M]
     rw[I]at h;split at h
     .rename_i x hx
      cases hf:s.f x with
      |none=>rw[hf]at h;cases h
      |some y=>
       rw[hf]at h;refine⟨_,h,rfl,rfl,⟨_,v,rfl,rfl⟩,Ub _ (I5 0 s.rs y o),fun d hd=> ?_,.fn g [],m, ?_,fun dst l K=> ?_⟩
       .simp_all [O1,St.put]
       .rw[BG (ops:=ops) A];exact G
       simp_all [bF]
     .cases h
    |_=>simp[jB]at j
   |_=>simp[jB]at j
  .cases hi
 .cases hi
theorem wK (hT:TOk P T) (hd:mP ops=true) (G: ∀R:Type,nI (R:=R) P (GU sg cl)) {ao:gy St} (V:mi P W0 n ao) {av:gy Unit} (W:mi P W0 n av) (X:yg sg ao) (Y:yg sg av): ∀(J:Nat) {R:Type} {r:R} {call:gy R} (Z:mi P W0 n call) (hx:yg sg call) {K:St->Option R} {Q:Act->World->Prop}
  (L:Array Bool) (log:List Nat) (c:Cx) (st:St),mD T cl sg ao av ops J call L log st K=a6 r->
  (∀c' p q,K p=a6 r->iM W0 b0 rd c' p q ats->c.Mono c'->Q q c'.w)-> ∀(v:Nat) (a:Act) (lA:Array Bool) (l:List (Nat×Value)),Lag n sg cl P W0 b0 rd ats ops c st L log a lA l->aca ops lA<=v->
   wpAnyIn (FW rd) n P .any ops (fun e a w=>e=.normal/\Q a w) v lA a c.w
 |0,R,r,call,Z,hx,K,Q,L,log,c,st,h,hQ,v,a,lA,l,f,M=>by simp[mD]at h
 |J+1,R,r,call,Z,hx,K,Q,L,log,c,st,h,hQ,v,a,lA,l,f,M=>by
  have aw: ∀(w:World) (q:Act) (lA:Array Bool) (l x:List (Nat×Value)) (j:Nat) (c':Cx) (p:St) (a:Act),Lag n sg cl P W0 b0 rd ats ops (c.at_ w) st L log a lA l->j∈Region.ready .any ops lA->j∉l.map (·.1)->x.map (·.1)=l.map (·.1)->
    iM W0 b0 rd c' p (gq ops q x) ats->kH rd n P ops c' q x->LK sg cl ops p.fr (l.map (·.1))->Lag n sg cl P W0 b0 rd ats ops c' p (L.setIfInBounds j true) log q (lA.setIfInBounds j true) x:=fun w q lA l x j c' p a f y A B e2 e3 e4=>by
   obtain⟨_,oj,aS,_⟩:=mem_ready.1 y;have aF:j<ops.size:=(Array.getElem?_eq_some_iff.1 aS).1;refine⟨e2,by rw[B];exact iH.set f.pst A,e3,by simpa using f.sA,by simpa using f.sE,fun k hk=> ?_,fun k hk=> ?_,fun k hk=>getD_set_true (f.hE k (by simp_all)),by rw[B];exact e4⟩
   .by_cases e:j=k
    .subst e;exact xN (by rw[f.sE];exact aF)
    .rw[getD_set_ne false e]at hk ⊢;exact f.sub k hk
   .by_cases e:j=k
    .grind [xN]
    .rw[getD_set_ne false e]at hk ⊢;rw[B];exact f.cov k hk
  have aG: ∀(i:Nat) (g:Oper) (z:bK) (u:Value),i∈Region.ready .any ops L->ops[i]? =a6 g->jI g.op=true->g.guard=a7->MS ops log i=true->
    mD T cl sg ao av ops J call (L.setIfInBounds i true) (i::log) (st.put g.dst z) K=a6 r->bP c z u->Ib rd n P c (gq ops a l) g u->
    (iw g.op=false-> ∃z,ui sg cl g (st.put g.dst z).fr z/\True)->(iw g.op=false->ui sg cl g (st.put g.dst z).fr z)->
    wpAnyIn (FW rd) n P .any ops (fun e a w=>e=.normal/\Q a w) v lA a c.w:=fun i g z u ab D hq aV ai g1 g2 g3 _ g4=>by
   obtain⟨aH,cb,aJ,aX⟩:=mem_ready.1 ab;rw[D]at aJ;cases aJ;have aF:i<ops.size:=(Array.getElem?_eq_some_iff.1 D).1;have aY:i∉l.map (·.1):=fun hm=>MH (f.hE i hm) aH;have aZ:lA.getD i true=false:=by
    cases hga:lA.getD i true with
    |false=>rfl
    |true=>
     rw[Yt (by rw[f.sA];exact aF)]at hga;exact(MH (f.sub i hga) aH).elim
   have E:=ai;unfold MS at E;rw[D]at E;simp only[af]at E;obtain⟨ay,E⟩:=E;have aK: ∀m∈l.map (·.1),∃om,ops[m]? =a6 om/\aoC ops om g/\(uf ops i m=false->om.apart ops g=true):=fun m hm=>by
    have h3:=List.all_eq_true.1 E m (iH.log f.pst m hm);split at h3
    .rename_i om cc
     simp only[af,Bool.or_eq_true]at h3
     grind [MB]
    .cases h3
   refine wK hT hd G V W X Y J Z hx (Q:=Q) (L.setIfInBounds i true) (i::log) c (st.put g.dst z) g1 hQ v a lA ((i,u)::l) ⟨?_, ?_,⟨f.run,g,D,g3⟩,f.sA,by simpa using f.sE,fun k hk=> ?_,fun k hk=> ?_,fun k hk=> ?_,fun k hk ok aO bd=> ?_⟩ M
   .have:=f.rel.put (dst:=g.dst) g2;simp_all [gq,uu]
   .exact⟨iH.mono (fun k hk=>au _ hk) f.pst,aZ,aP,aY,g,D,hq,aV,fun d ad=>(MB ay d ad).1,fun e he hb=>f.cov _ (aX e he hb),aK⟩
   .by_cases e:i=k
    .grind
    .rw[getD_set_ne false e];exact f.sub k hk
   .by_cases e:i=k
    .simp_all
    .rw[getD_set_ne false e]at hk;exact(f.cov k hk).imp (fun h=>h) fun h=>au _ h
   .rcases List.mem_cons.1 hk with e|hk
    .grind [xN]
    .exact getD_set_true (f.hE k hk)
   .rcases List.mem_cons.1 hk with e|hk
    .grind
    .obtain⟨z',bf⟩:=f.fit k hk ok aO bd;obtain⟨om,I,h2,_⟩:=aK k hk;rw[aO]at I;cases I;exact⟨z',bf.same (BG (ops:=ops) fun d ad=>(h2 d ad).1).symm (ag7 fun d ad=>(h2 d ad).2).symm⟩
  simp only[mD]at h;split at h
  .rename_i al
   exact Pq (n:=n) (sg:=sg) (cl:=cl) hd (fun _ w N a hr=>hQ (c.at_ w) st a h hr (Cx.Le.ext N).mono) (fun w N v a lA l j _ _ _ _ y=>by simp_all) _ v c.w (Below.refl _ _) a lA l rfl f M
  .rename_i k rs al
   split at h
   .rename_i i hf
    have an:=List.find?_some hf;simp only[af]at an;replace an:=an.1;have ab:=List.mem_of_find?_eq_some hf;rw[<-al]at ab;split at h
    .rename_i g D
     replace h:=dB h;obtain⟨O,h⟩:=h;simp only[af]at O;obtain⟨O,ai⟩:=O;have hq:iw g.op=true:=by
      grind [WJ]
     obtain⟨z,u,g1,g2,g3⟩:=A8 hT f.rel.ok hq f.rel.hp f.rel.fr h;exact aG i g z u ab D (anb hq) (by simpa using O) ai g1 g2 (.of_run g3) (fun h0=>by simp_all) (fun h0=>by simp_all)
    .cases h
   .split at h
    .rename_i i hf
     have an:=List.find?_some hf;have ab:=List.mem_of_find?_eq_some hf;rw[<-al]at ab;split at h
     .rename_i g D
      replace h:=dB h;obtain⟨O,h⟩:=h;simp only[af]at O;obtain⟨O,ai⟩:=O;have ay: ∀d,g.dst=a6 d->d∉g.looksAt ops:=by
       have E:=ai;unfold MS at E;rw[D]at E;simp only[af]at E;exact fun d ad=>(MB E.1 d ad).1
      obtain⟨z,g1,g2,g3⟩:=ag2 an D ay h;obtain⟨g4,g5⟩:=QL (n:=n) hT (G Unit) g3 (BG (ops:=ops) ay) f.rel;exact aG i g z _ ab D g2 (by simpa using O) ai g1 g4 g5 (fun _=>⟨z,g3,trivial⟩) (fun _=>g3)
     .cases h
    .split at h
     .refine Pq (n:=n) (sg:=sg) (cl:=cl) hd (fun hr=>by simp_all) (fun w N v a lA l j f M y A S=> ?_) _ v c.w (Below.refl _ _) a lA l rfl f M;rw[al]at S;obtain rfl:j=k:=by simpa using S
      refine Fz (c:=c.at_ w) hT hd (G Unit) Z f.fit y f.pst A f.rel h fun c' p q x k1 B k2 k3 k5 k4=> ?_;exact wK hT hd G V W X Y J Z hx (Q:=Q) _ log c' p k1 (fun az aA ag s q2 q3=>hQ az aA ag s q2 ((Cx.Le.ext N).mono.trans (k4.trans q3))) v q _ x (aw w q lA l x j c' p a f y A B k2 k3 k5) (by have:=Jl f.sA y;omega)
     .rw[cond_eq_ite]at h;split at h
      rotate_left
      .rename_i aQ
       simp only[Bool.or_eq_true,Bool.not_eq_true',not_or,bg,Bool.not_eq_false]at aQ;have hp: ∀o∈ops.toList,wF sg o.op=true:=fun o ho=>List.all_eq_true.1 aQ.2 o ho;refine Pq (n:=n) (sg:=sg) (cl:=cl) hd (fun hr=>by simp_all) (fun w N v a lA l j f M y A S=> ?_) _ v c.w (Below.refl _ _) a lA l rfl f M;rw[al]at S;rcases List.mem_cons.1 S with rfl|bi
       .refine Fz (c:=c.at_ w) hT hd (G Unit) Z f.fit y f.pst A f.rel h fun c' p q x k1 B k2 k3 k5 k4=> ?_;exact wK hT hd G V W X Y J Z hx (Q:=Q) _ log c' p k1 (fun az aA ag s q2 q3=>by
         replace s:=dB s;obtain⟨q0,s⟩:=s;obtain⟨c3,U,m3,w3⟩:=q2.tidy cl;split at s
         .rename_i m hm
          replace s:=(zk _ s).1;have:=aei hm f.rel.wf q0 U.wf;subst this;rw[<-w3];exact hQ c3 _ ag s U ((Cx.Le.ext N).mono.trans (k4.trans (q3.trans m3)))
         .cases s) v q _ x (aw w q lA l x j c' p a f y A B k2 k3 k5) (by have:=Jl f.sA y;omega)
       .obtain⟨_,I⟩:=Yb hx hp h;obtain⟨cd,I⟩:=Ry hp X Y J hx _ _ _ _ I;replace I:=(dB I).2;split at I
        .rename_i m hm
         obtain⟨hK,bn⟩:=zk _ I;have bt:=bn _ (List.mem_map.2 ⟨j,bi,rfl⟩);refine Fz (c:=c.at_ w) hT hd (G Unit) W f.fit y f.pst A f.rel bt fun c' p q x k1 B k2 k3 k5 k4=> ?_;exact wK hT hd G V W X Y J W Y (Q:=Q) _ log c' p k1 (fun az aA ag s q2 q3=>by
          replace s:=(dB s).1;simp only[af]at s;obtain⟨c3,U,m3,w3⟩:=q2.tidy cl;have:=ano hm f.rel.wf s.1 s.2 U.wf;subst this;rw[<-w3];exact hQ c3 _ ag hK U ((Cx.Le.ext N).mono.trans (k4.trans (q3.trans m3)))) v q _ x (aw w q lA l x j c' p a f y A B k2 k3 k5) (by have:=Jl f.sA y;omega)
        .cases I
      split at h
      .rename_i ch bu
       refine Pq (n:=n) (sg:=sg) (cl:=cl) hd (fun hr=>by simp_all) (fun w N v a lA l j f M y A S=> ?_) _ v c.w (Below.refl _ _) a lA l rfl f M;rw[al]at S;obtain⟨b,bz,bC⟩:=adz bu f.rel.wf _ (List.mem_map.2 ⟨j,S,rfl⟩);refine Fz (c:=c.at_ w) hT hd (G Unit) V f.fit y f.pst A f.rel bz fun c' p q x k1 B k2 k3 k5 k4=> ?_;exact wK hT hd G V W X Y J V X (Q:=Q) _ log c' p k1 (fun az aA ag s q2 q3=>by
        cases s;obtain⟨c3,U,m3,w3⟩:=q2.tidy cl;have:=bC U.wf;subst this;rw[<-w3];exact hQ c3 _ ag h U ((Cx.Le.ext N).mono.trans (k4.trans (q3.trans m3)))) v q _ x (aw w q lA l x j c' p a f y A B k2 k3 k5) (by have:=Jl f.sA y;omega)
      .cases h
theorem afO (hT:TOk P T) (p:P.follows .mixedOrders=true) (hd:mP ops=true) (q: ∀R:Type,nI (R:=R) P (GU sg cl)) {g:gy St} (s:mi P W0 n g) {i:gy Unit} (u:mi P W0 n i) (v:yg sg g) (x:yg sg i) {R:Type} {r:R} {call:gy R} (y:mi P W0 n call) (hx:yg sg call) {id m:Nat} {K:St->Option R} {Q:Exit->Act->World->Prop}
  (h:mD T cl sg g i ops m call (Array.replicate ops.size false) [] st K=a6 r) (z:iM W0 b0 rd c st a ats) (A: ∀c' d f,K d=a6 r->iM W0 b0 rd c' d f ats->c.Mono c'->Q .normal f c'.w):
  (Code.region id ops true).wpIn (FW rd) n P Q a c.w:=by
 have o:GK c {c.w with drawn:=c.w.drawn+1}:=⟨rfl,rfl,rfl,ae _,fun _ _=>rfl⟩;have B:=z.ext o;have D:=wK (Q:=fun a w=>Q .normal a w) hT hd q s u v x m y hx _ [] (c.at_ {c.w with drawn:=c.w.drawn+1}) st h (fun c' d f k1 k2 k3=>A c' d f k1 k2 ((Cx.Le.ext o).mono.trans k3)) ops.size a
  (Array.replicate ops.size false) [] ⟨B,trivial,trivial,by simp,by simp,fun j l=>l,fun j l=>.inl l,(fun k hk=>by cases hk),(fun k hk=>by cases hk)⟩ (by
   grind [aca])
 exact Code.wpIn_mono (fun e a w E=>by simp_all) (wpIn_region_any p D)
end
end
section
open Option renaming some → a6, none → a7
open Bool renaming and_eq_true → af
open Nat renaming le_trans → aG
open Go.RowKit
section
variable {P:Program} {T:TT} {W0:World} {b0:Nat} {rd:Option Nat} {R:Type} {r:R} {ats:List (Array Value)}
theorem aoy {F:Fence} {n:Nat} {Q:Exit->Act->World->Prop} {a:Act} {w:World} {e:Ex} {d:Code} (f:e.code=a6 d) (h:Q e.xt a w):d.wpIn F n P Q a w:=by
 cases e<;>simp only[Ex.code,Option.some.injEq,reduceCtorEq]at f<;>subst f
 .exact wpIn_exit h
 .exact wpIn_goto h
 .exact wpIn_ret h
theorem Sl {n:Nat} {F:St->(Ex->St->Option R)->Option R} {K:Ex->St->Option R} {Q:Exit->Act->World->Prop} {code:Code} {kp:Option eG}
  (hF: ∀(E:Ex->St->Option R) (G:Exit->Act->World->Prop) (c:Cx) (st:St) (a:Act),F st E=a6 r->iM W0 b0 rd c st a ats->b0<=c.w.heap.size->(∀e c' g z,E e g=a6 r->iM W0 b0 rd c' g z ats->c.Mono c'->G e.xt z c'.w)->code.wpIn (FW rd) n P G a c.w)
  {c:Cx} {st:St} {a:Act} (m:Nat) (h:iter kp F m st K=a6 r) (I:iM W0 b0 rd c st a ats) (hb:b0<=c.w.heap.size) (x: ∀e c' g z,K e g=a6 r->iM W0 b0 rd c' g z ats->c.Mono c'->Q e.xt z c'.w):
  (Code.loop code).wpIn (FW rd) n P Q a c.w:=by
 refine wpIn_loop_ghost (fun m a w=> ∃c' g,iter kp F m g K=a6 r/\iM W0 b0 rd c' g a ats/\c.Mono c'/\c'.w=w) m ⟨c,st,h,I,Cx.Mono.refl c,rfl⟩ ?_;rintro m a w ⟨J,L,D,M,f,rfl⟩;cases m with
 |zero=>simp[iter]at D
 |succ m=>
  simp only[iter]at D;refine hF _ _ J L a D M (aG hb f.size) fun e A B y d i j=> ?_;cases e with
  |normal=>
   simp only at d;simp only[Ex.xt,Exit.then];cases kp with
   |none=>exact⟨m,Nat.lt_succ_self m,A,B,d,i,f.trans j,rfl⟩
   |some k=>
    simp only at d;split at d
    .rename_i o p
     obtain⟨q,s,u,v⟩:=qc i p;exact⟨m,Nat.lt_succ_self m,q,o,d,s,(f.trans j).trans u,v⟩
    .cases d
  |ret=>
   simp only at d;simp only[Ex.xt,Exit.then];cases kp with
   |none=>exact x .ret A B y d i (f.trans j)
   |some k=>
    simp only at d;split at d
    .rename_i o p
     obtain⟨q,s,u,v⟩:=Xv i p;rw[<-v];exact x .ret q o y d s ((f.trans j).trans u)
    .cases d
  |exit id=>
   simp only at d;simp only[Ex.xt,Exit.then];cases kp with
   |none=>exact x (.exit id) A B y d i (f.trans j)
   |some k=>
    simp only at d;split at d
    .rename_i o p
     obtain⟨q,s,u,v⟩:=qc i p;rw[<-v];exact x (.exit id) q o y d s ((f.trans j).trans u)
    .cases d
  |goto l=>
   simp only at d;simp only[Ex.xt,Exit.then];cases kp with
   |none=>exact x (.goto l) A B y d i (f.trans j)
   |some k=>
    simp only at d;split at d
    .rename_i o p
     obtain⟨q,s,u,v⟩:=qc i p;rw[<-v];exact x (.goto l) q o y d s ((f.trans j).trans u)
    .cases d
theorem VK {n:Nat} {F:St->(Ex->St->Option R)->Option R} {K:Ex->St->Option R} {Q:Exit->Act->World->Prop} {code:Code} {kp:Option eG}
  (hF: ∀(z:Ex->St->Option R) (A:Exit->Act->World->Prop) (c:Cx) (st:St) (a:Act),F st z=a6 r->iM W0 b0 rd c st a ats->b0<=c.w.heap.size->(∀e c' x y,z e x=a6 r->iM W0 b0 rd c' x y ats->c.Mono c'->A e.xt y c'.w)->code.wpIn (FW rd) n P A a c.w)
  {c:Cx} {st:St} {a:Act} (m:Nat) (h:iter kp (DL F) m st (uV 999999 K)=a6 r) (G:iM W0 b0 rd c st a ats) (hb:b0<=c.w.heap.size) (q: ∀e c' x y,K e x=a6 r->iM W0 b0 rd c' x y ats->c.Mono c'->Q e.xt y c'.w):
  code.wpIn (FW rd) n P Q a c.w:=by
 cases m with
 |zero=>simp[iter]at h
 |succ m=>
  simp only[iter,DL]at h;refine hF _ _ c st a h G hb fun e B D s d u v=> ?_;cases e with
  |normal=>
   simp only at d;cases kp with
   |none=>
    simp only[uV,beq_self_eq_true,aa]at d
    grind
   |some k=>
    simp only at d;split at d
    .rename_i f g
     obtain⟨i,j,o,p⟩:=qc u g;simp only[uV,beq_self_eq_true,aa]at d;rw[<-p];exact q .normal i f s d j (v.trans o)
    .cases d
  |ret=>
   simp only at d;cases kp with
   |none=>exact q .ret B D s d u v
   |some k=>
    simp only at d;split at d
    .rename_i f g
     obtain⟨i,j,o,p⟩:=Xv u g;rw[<-p];exact q .ret i f s d j (v.trans o)
    .cases d
  |exit id=>
   simp only at d;rw[cond_eq_ite]at d;split at d
   .cases d
   .rename_i I
    have E:(id==999999)=false:=by
     simp_all
    cases kp with
    |none=>
     simp only[uV,E,ac]at d
     grind
    |some k=>
     simp only at d;split at d
     .rename_i f g
      obtain⟨i,j,o,p⟩:=qc u g;simp only[uV,E,ac]at d;rw[<-p];exact q (.exit id) i f s d j (v.trans o)
     .cases d
  |goto l=>
   simp only at d;cases kp with
   |none=>exact q (.goto l) B D s d u v
   |some k=>
    simp only at d;split at d
    .rename_i f g
     obtain⟨i,j,o,p⟩:=qc u g;rw[<-p];exact q (.goto l) i f s d j (v.trans o)
    .cases d
theorem Ai {n:Nat} {f:FuncId} {args:Array Value} {w:World} {Rr:Ending->World->Prop} (h:Calls P f args w Rr):CallsIn (FW rd) n P f args w Rr:=(callsIn_wide (n:=n)).2 h
theorem adX {n:Nat} {f:FuncId} {cl:Bool} {ex:nD R} (ah:vF P W0 ex) {fv:Operand} {p:Array Tmp} {jk q:Code} {K:Ex->St->Option R} {Q:Exit->Act->World->Prop} {c:Cx} {st:St} {a:Act} {g:FuncId} {N:List bK}
  (O:bP c (.fn g N) (a.eval fv))
  {X:Option Nat} (ai: ∀k,X=a6 k->uI f k=a6 (jk,q))
  (h:alloc cl (a6 (700000+p.toList.headD 0)) (.lp f st.fr p.toList jk q X 0 a7) st (fun id st=>
    ex (.call g (.yld id::N)) {st with stk:=[.yld id]::st.stk} fun _ st=>match st.stk with
     |[.yld id]::stk=>match dM st.hp id with
      |some (.lp _ _ _ _ _ _ 0 a7)=>K .normal {st with stk:=stk,hp:=iT st.hp id .dead}
      |some (.lp _ _ _ _ _ _ 1 (a6 e))=>K e {st with stk:=stk,hp:=iT st.hp id .dead}
      |_=>a7
     |_=>a7)=a6 r)
  (j:iM W0 b0 rd c st a ats) (hb:b0<=c.w.heap.size) (hQ: ∀e c' ad a',K e ad=a6 r->iM W0 b0 rd c' ad a' ats->c.Mono c'->Q e.xt a' c'.w):
  (Code.rangeFunc fv p jk q).wpIn (FW rd) n P Q a c.w:=by
 obtain⟨id,n',h3,h4,h5,h⟩:=jc h;simp only[bP]at O;obtain⟨S,O,aj⟩:=O;refine wpIn_rangeFunc fun fn _=> ?_;obtain⟨s,d,aJ,G,ak,al,an⟩: ∃(s:List Deferred) (d:Cx),d.hp=c.hp/\iM W0 b0 rd d st {a with defers:=s++a.defers} ats/\c.Mono d/\c.Le0 d/\
   ∃L:Loop,L.tmps=a.tmps/\L.params=p/\L.assign=jk/\L.body=q/\L.state=.ready/\L.pending=a7/\(Instr.enterLoop fn a.tmps p jk q rd).run P c.w=.ok (d.w.heap.size,s) (d.w.alloc (.loop L)):=by
  cases rd with
  |none=>
   obtain⟨U,ao⟩:=asM j.ok;refine⟨[mkD c.w.heap.size],{c with w:=c.w.alloc (.deferred (a6 [])),mks:=c.w.heap.size::c.mks},rfl,⟨j.hp,j.nxt,ao,bH.le U _ _ j.fr,Dl.le U _ _ j.stk, ?_,fun l I=>by cases I⟩,U.mono,U.le0,{state:=.ready,pending:=a7,fn,tmps:=a.tmps,params:=p,assign:=jk,body:=q,defers:=c.w.heap.size},rfl,rfl,rfl,rfl,rfl,rfl, ?_⟩
   .obtain⟨Y,Z,e2,e3⟩:=j.df;refine⟨c.w.heap.size::Y,by simp[Z],List.nodup_cons.2 ⟨fun hm=> ?_,e2⟩,fun x hx=> ?_⟩
    .have:=j.ok.mark_lt (e3 _ hm).1;omega
    grind
   rfl
  |some l0=>
   obtain⟨L0,au⟩:=j.rd l0 rfl;exact⟨[],c,rfl,j,Cx.Mono.refl c,(Cx.Le.refl c).le0,{state:=.ready,pending:=a7,fn,tmps:=a.tmps,params:=p,assign:=jk,body:=q,defers:=L0.defers},rfl,rfl,rfl,rfl,rfl,rfl,run_enterLoop_inner au fn a.tmps p jk q⟩
 obtain⟨L,q1,q2,q3,q4,q5,q6,q7⟩:=an;subst q2 q3 q4;obtain⟨V,hd,aK,hy,_⟩:=aCV G.ok (st:=st) G.hp G.nxt h3 h4 h5 (f:=f) (fr:=st.fr) (L:=L) (by rw[q1];exact G.fr) q5 q6 ai;have v:=G.did hd;have ae:c.Mono V:=ak.trans hd.le.mono;have av:iM W0 b0 rd V {st with stk:=[.yld id]::st.stk,hp:=(id,.lp f st.fr L.params.toList L.assign L.body X 0 a7)::st.hp,nxt:=n'} {a with defers:=s++a.defers} (#[.func (.yield d.w.heap.size) #[] #[]]::ats):=
  ⟨v.hp,v.nxt,v.ok,v.fr,⟨by simpa [bH] using hy,v.stk⟩,v.df,v.rd⟩
 have aO:bH V N S.toList:=bH.le hd.le _ _ (bH.le0 al _ _ aj);have aP:=ah g (.yld id::N) _ _ r h b0 rd V {a with defers:=s++a.defers} (#[.func (.yield d.w.heap.size) #[] #[]]::ats) (#[.func (.yield d.w.heap.size) #[] #[]]++S) av (by simp_all [bH])
  (rangePost (FW rd) n P d.w.heap.size Q {a with defers:=s++a.defers}) (by
   intro c3 z u aw B i _ ag;have J:=i.stk;split at B
   .rename_i D aQ ax
    rw[ax]at J;obtain⟨W,J⟩:=J;simp only[bH,and_true]at W;have E: ∀{o},dM aw.hp D=a6 o->dM c3.hp D=a6 o:=fun {o} ho=>by rw[i.hp];exact ho
    simp only[bP]at W;split at B
    .rename_i f3 ay az aA aB aF y
     obtain⟨_,hB,L3,M,aH,Z,e2,e3,e4,e5⟩:=i.ok.obj D _ (E y);have A:=W.2.2 _ _ _ _ _ _ _ _ (E y);have A:d.w.heap.size=(c3.mu D).blk:=by simpa using A
     obtain⟨c4,p1,p2,m,p4,p5,p6⟩:=IX i.ok (E y) M {L3 with state:=.exhausted,pending:=a7} (o':=.dead) (.inl rfl);refine⟨_,_,(by rw[A];exact run_endLoop M (by rw[e4];decide)), ?_⟩;rw[e5];simp only;rw[<-p5];refine hQ .normal c4 _ _ B ⟨by rw[p1,i.hp],by rw[p2,i.nxt],p4,bH.le m _ _ i.fr,Dl.le m _ _ J, ?_, ?_⟩ ((ae.trans ag).trans m.mono)
     .obtain⟨Y,w1,w2,w3⟩:=i.df
      grind
     .intro l I;obtain⟨Ll,ab⟩:=i.rd l I;exact m.lp l Ll ab
    .rename_i f3 ay az aA aB aF e0 y
     obtain⟨_,hB,L3,M,aH,Z,e2,e3,e4,e5,e6⟩:=i.ok.obj D _ (E y);have A:=W.2.2 _ _ _ _ _ _ _ _ (E y);have A:d.w.heap.size=(c3.mu D).blk:=by simpa using A
     refine⟨_,_,(by rw[A];exact run_endLoop M (by rw[e4];decide)), ?_⟩;rw[e5];cases he0:e0.code with
     |none=>exact absurd he0 e6
     |some cd=>
      obtain⟨c4,p1,p2,m,p4,p5,p6⟩:=IX i.ok (E y) M {L3 with state:=.exhausted,pending:=a6 cd} (o':=.dead) (.inl rfl);simp only;refine aoy he0 ?_;rw[<-p5];refine hQ e0 c4 _ _ B ⟨by rw[p1,i.hp],by rw[p2,i.nxt],p4,bH.le m _ _ i.fr,Dl.le m _ _ J, ?_, ?_⟩ ((ae.trans ag).trans m.mono)
      .obtain⟨Y,w1,w2,w3⟩:=i.df
       grind
      .intro l I;obtain⟨Ll,ab⟩:=i.rd l I;exact m.lp l Ll ab
    .cases B
   .cases B)
 refine⟨d.w.heap.size,s,d.w.alloc (.loop L),{target:=.fn (.func g) S,args:= #[.func (.yield d.w.heap.size) #[] #[]]},d.w.alloc (.loop L),g,#[.func (.yield d.w.heap.size) #[] #[]]++S,d.w.alloc (.loop L),q7, ?_,fun _ _=>trivial, ?_,uh rd, ?_⟩
 .have aI:a.eval (.const (.func (.yield d.w.heap.size) #[] #[]))=.func (.yield d.w.heap.size) #[] #[]:=rfl;simp only[resolve,O];simp[go_sem,aI]
 .simp_all [invoke]
 simp_all [Ai]
def XC {R:Type} (E:Env) (e:nD R) (g:XD) (f:FuncId) (c:Code) (L:dA):Prop:=
 ∀(r:R) (st:St) (v:L.V) (K:Ex->St->Option R),(∀h i d,LG h i st=a6 d->WfH d.hp)->L.get st=a6 v->
  (bF (L.spec v) fun o=>dL o (fun a=>K (L.exA v) (L.stA st v a)) fun b=>K (L.exB v) (L.stB st v b))=a6 r->
  ∃m d,(match E.kp f (dC c)with|none=>d=st|some k=>LG k.slots k.owns st=a6 d)/\iter (E.kp f (dC c)) (run E e g f c) m d K=a6 r
def aeL {R:Type} (E:Env) (e:nD R) (g:XD) (f:FuncId) (c:Code) (L:dA):Prop:=
 ∀(r:R) (st:St) (v:L.V) (K:Ex->St->Option R),(∀h i d,LG h i st=a6 d->WfH d.hp)->L.get st=a6 v->
  (bF (L.spec v) fun o=>dL o (fun a=>K (L.exA v) (L.stA st v a)) fun b=>K (L.exB v) (L.stB st v b))=a6 r->
  ∃m d,(match E.kp f (800000+dC c)with|none=>d=st|some k=>LG k.slots k.owns st=a6 d)/\iter (E.kp f (800000+dC c)) (DL (run E e g f c)) m d K=a6 r
def jl {R:Type} (E:Env) (d:nD R) (e:XD) (f:FuncId):Code->Prop
 |.seq a b=>(jl E d e f a/\ ∀L,E.lp f (800000+dC b)=a6 L->L.dep.ble E.dp=true->aeL E d e f b L)/\jl E d e f b
 |.cond _ a b=>jl E d e f a/\jl E d e f b
 |.block _ c=>jl E d e f c
 |.scope c=>jl E d e f c
 |.loop c=>jl E d e f c/\ ∀L,E.lp f (dC c)=a6 L->L.dep.ble E.dp=true->XC E d e f c L
 |.rangeFunc _ _ jk g=>jl E d e f jk/\jl E d e f g/\(E.rf f (dC g)=true->uI f (dC g)=a6 (jk,g))
 |_=>True
theorem iJ {E:Env} {d:nD R} {e:XD} {f:FuncId} (h: ∀id,E.lp f id=a7) (h2: ∀id,E.rf f id=false): ∀c:Code,jl E d e f c
 |.seq a b=>⟨⟨iJ h h2 a,fun L g=>by simp_all⟩,iJ h h2 b⟩
 |.cond _ a b=>⟨iJ h h2 a,iJ h h2 b⟩
 |.block _ c=>iJ (E:=E) h h2 c
 |.scope c=>iJ (E:=E) h h2 c
 |.loop c=>⟨iJ h h2 c,fun L g=>by simp_all⟩
 |.rangeFunc _ _ a b=>⟨iJ h h2 a,iJ h h2 b,fun i=>by simp_all⟩
 |.skip|.label _|.region _ _ _|.exit _|.goto _|.ret|.refuse _=>trivial
def VS (E:Env) (n:Nat):XD:=⟨fun j st=>kK E n (R:=bK) j st fun v _=>a6 v,kK E n,kK E n⟩
def dQ (E:Env) (f:FuncId) (c:Code) (L:dA):Prop:=
 ∀(R:Type) (m:Nat),XC (R:=R) (E.at (m+L.dep)) (kK E (m+L.dep)) (VS E (m+L.dep)) f c L
def uX (E:Env) (f:FuncId) (c:Code) (L:dA):Prop:=
 ∀(R:Type) (m:Nat),aeL (R:=R) (E.at (m+L.dep)) (kK E (m+L.dep)) (VS E (m+L.dep)) f c L
def dO (E:Env) (f:FuncId) (c:Code):Prop:= ∀(R:Type) (m:Nat),jl (R:=R) (E.at m) (kK E m) (VS E m) f c
theorem jy {E:Env} {f:FuncId} (h: ∀id,E.lp f id=a7) (h2: ∀id,E.rf f id=false) (c:Code):dO E f c:=fun R m=>iJ (E:=E.at m) h h2 c
theorem Nj (hT:TOk P T) (hm:P.follows .mixedOrders=true) {n:Nat} {E:Env} (ay:E.T=T) {f:FuncId} {Z:nD R} {U:XD} (ai:mi P W0 n (xg E Z)) (hq:nI (R:=R) P (Rf E U.q)) (az:vF P W0 Z) (hS:mi P W0 n (xg E U.s)) (hU:mi P W0 n (xg E U.u)) (aA: ∀R:Type,nI (R:=R) P (GU E.sg E.cl)):
  ∀(code:Code),jl E Z U f code-> ∀(K:Ex->St->Option R) (Q:Exit->Act->World->Prop) (c:Cx) (st:St) (a:Act),run E Z U f code st K=a6 r->iM W0 b0 rd c st a ats->b0<=c.w.heap.size->
   (∀e c' p z,K e p=a6 r->iM W0 b0 rd c' p z ats->c.Mono c'->Q e.xt z c'.w)->code.wpIn (FW rd) n P Q a c.w:=by
 subst ay;intro code
 induction code with
 |skip=>intro _ K Q c st a h d B o;exact wpIn_skip (o .normal c st a h d (Cx.Mono.refl c))
 |label l=>intro _ K Q c st a h d B o;exact wpIn_label (o .normal c st a h d (Cx.Mono.refl c))
 |region id ops aB=>
  intro _ K Q c st a h d B o;simp only[run]at h;have aj: ∃M,Gg (E.kp f (600000+id)) st={st with fr:=M}/\bH c M a.tmps.toList:=by
   cases E.kp f (600000+id)with
   |none=>exact⟨st.fr,rfl,d.fr⟩
   |some k=>exact⟨_,rfl,AL _ _ _ d.fr⟩
  obtain⟨M,e1,e2⟩:=aj;rw[e1]at h;replace d:iM W0 b0 rd c {st with fr:=M} a ats:=⟨d.hp,d.nxt,d.ok,e2,d.stk,d.df,d.rd⟩;generalize ({st with fr:=M}:St)=st at h d;cases aB with
  |true=>
   simp only[aa]at h;rw[cond_eq_ite]at h;split at h
   .rename_i ae
    simp only[af]at ae;exact NT hT hm hq ae.1 h d fun c' p z j=>o .normal c' p z j
   .split at h
    .rename_i l aF
     exact Vp hT hm ai aF h d fun c' p z j=>o .normal c' p z j
    .rw[cond_eq_ite]at h;split at h
     .rename_i ae
      simp only[af]at ae;exact NT hT hm hq ae.1 h d fun c' p z j=>o .normal c' p z j
     replace h:=dB h;exact afO hT hm h.1 aA hS hU XN XN ai XN h.2 d fun c' p z j=>o .normal c' p z j
  |false=>
   simp only[ac]at h;exact wpIn_region_list (MW hT ai ops ops.toList c st a h d fun c' p z j=>o .normal c' p z j)
 |seq x y ihx V=>
  intro I K Q c st a h d B o;replace ihx:=ihx I.1.1;replace V:=V I.2;simp only[run]at h;refine wpIn_seq (ihx _ _ c st a h d B fun e c' p z j A D=> ?_);cases e with
  |normal=>
   have ah:=aG B D.size;have aw: ∀e W ab ad,K e ab=a6 r->iM W0 b0 rd W ab ad ats->c'.Mono W->Q e.xt ad W.w:=fun e W ab ad ak al an=>o e W ab ad ak al (D.trans an);have ao: ∀(N:Option eG) (m:Nat) (G:St),(match N with|none=>G=p|some k=>LG k.slots k.owns p=a6 G)->iter N (DL (run E Z U f y)) m G (uV 999999 K)=a6 r->y.wpIn (FW rd) n P Q z c'.w:=by
    intro N m G O h2;cases N with
    |none=>grind [VK]
    |some k=>
     obtain⟨c1,X,ag,au⟩:=qc A O;rw[<-au];exact VK V m h2 X (aG ah ag.size) fun e W ab ad ak al an=>aw e W ab ad ak al (ag.trans an)
   simp only[aGV,cutAt]at j;split at j
   .rename_i L hL
    replace j:=dB j;obtain⟨av,j⟩:=j;split at j
    .rename_i v S
     obtain⟨m,G,O,h2⟩:=I.1.2 L hL av r p v (uV 999999 K) (fun aH aI G ht=>let⟨c1,X,_,_⟩:=qc A ht;X.wf) S j;exact ao _ m G O h2
    .cases j
   .split at j
    .exact V _ _ c' p z j A ah aw
    .rename_i k hk
     split at j
     .rename_i G O
      exact ao (a6 k) bJ G O j
     .cases j
  |exit id=>exact o (.exit id) c' p z j A D
  |goto l=>exact o (.goto l) c' p z j A D
  |ret=>exact o .ret c' p z j A D
 |cond cnd x y ihx V=>
  intro I K Q c st a h d B o;replace ihx:=ihx I.1;replace V:=V I.2;simp only[run]at h;have S:=dN d.fr cnd;split at h
  .rename_i b ah
   rw[ah]at S;simp only[bP]at S;have S:=S.bool_inv
   grind [wpIn_cond_true,wpIn_cond_false]
  .cases h
 |block id x J=>
  intro I K Q c st a h d B o;replace J:=J I;simp only[run]at h;refine wpIn_block (J _ _ c st a h d B fun e c' p z j A D=> ?_);cases e with
  |normal=>exact o .normal c' p z j A D
  |exit i=>
   simp only[uV]at j;simp only[Ex.xt,Exit.inBlock];rw[cond_eq_ite]at j;split at j
   .rename_i Y
    have Y:i=id:=by simpa using Y
    rw[am Y];exact o .normal c' p z j A D
   .rename_i Y
    have Y:i≠id:=by simpa using Y
    rw[aq Y];exact o (.exit i) c' p z j A D
  |goto l=>exact o (.goto l) c' p z j A D
  |ret=>exact o .ret c' p z j A D
 |loop x J=>
  intro I K Q c st a h d B o;replace J:=J I.1;have ao: ∀(N:Option eG) (m:Nat) (G:St),(match N with|none=>G=st|some k=>LG k.slots k.owns st=a6 G)->iter N (run E Z U f x) m G K=a6 r->(Code.loop x).wpIn (FW rd) n P Q a c.w:=by
   intro N m G O h2;cases N with
   |none=>grind [Sl]
   |some k=>
    obtain⟨c1,X,ag,au⟩:=qc d O;rw[<-au];exact Sl J m h2 X (aG B ag.size) fun e c' p z j A D=>o e c' p z j A (ag.trans D)
  simp only[run]at h;split at h
  .rename_i L hL
   replace h:=dB h;obtain⟨av,h⟩:=h;split at h
   .rename_i v S
    obtain⟨m,G,O,h2⟩:=I.2 L hL av r st v K (fun aH aI G ht=>let⟨c1,X,_,_⟩:=qc d ht;X.wf) S h
    grind
   .cases h
  grind
 |exit id=>intro _ K Q c st a h d B o;exact wpIn_exit (o (.exit id) c st a h d (Cx.Mono.refl c))
 |goto l=>intro _ K Q c st a h d B o;exact wpIn_goto (o (.goto l) c st a h d (Cx.Mono.refl c))
 |ret=>intro _ K Q c st a h d B o;exact wpIn_ret (o .ret c st a h d (Cx.Mono.refl c))
 |scope x J=>
  intro I K Q c st a h d B o;replace J:=J I;simp only[run]at h;refine aht (J _ _ c st a h d B fun e c' p z j A D=> ?_);cases e with
  |normal=>exact⟨(fun l e=>by cases e),o .normal c' p z j A D⟩
  |exit i=>exact⟨(fun l e=>by cases e),o (.exit i) c' p z j A D⟩
  |goto l=>simp[arX]at j
  |ret=>exact⟨(fun l e=>by cases e),o .ret c' p z j A D⟩
 |rangeFunc fv ps jk bd _ _=>
  intro I K Q c st a h d B o;simp only[run]at h;split at h
  .rename_i g aO aJ
   have aK: ∀k,(bif E.rf f (dC bd)then a6 (dC bd)else a7)=a6 k->uI f k=a6 (jk,bd):=fun k hk=>by
    cases hrf:E.rf f (dC bd)with
    |false=>simp_all
    |true=>rw[hrf]at hk;cases hk;exact I.2.2 hrf
   have aj: ∃M,Gg (E.kp f (500000+dC bd)) st={st with fr:=M}/\bH c M a.tmps.toList:=by
    cases E.kp f (500000+dC bd)with
    |none=>exact⟨st.fr,rfl,d.fr⟩
    |some k=>exact⟨_,rfl,AL _ _ _ d.fr⟩
   obtain⟨M,e1,e2⟩:=aj;rw[e1]at h;have ax:=dN d.fr fv;rw[aJ]at ax;exact adX (st:={st with fr:=M}) az ax aK h ⟨d.hp,d.nxt,d.ok,e2,d.stk,d.df,d.rd⟩ B o
  .cases h
 |refuse s=>simp_all [run]
end
end
section
open Option renaming some → a6, none → a7
open Nat renaming le_refl → ae
open Go.RowKit
section
variable {P:Program} {T:TT} {W0:World} {b0:Nat} {rd:Option Nat} {R:Type} {r:R} {c:Cx} {ats:List (Array Value)}
theorem abf (i:c.Ok W0) {x:bK} {e:Ty} {j:List e.den} {u:Value} (h:x.as c.hp (.list e)=a6 j) (hx:bP c x u) {a:Option Addr} {m cp:Nat} (o:u=.slice a m cp):m<=cp:=by
 subst o;cases x with
 |val f z=>
  simp only[bK.as]at h;have e:=iI h;subst e
  grind [bP,nY]
 |nils=>
  simp_all [bP]
 |lst f z b=>
  grind [bP,nY]
 |emp=>
  simp_all [bP]
 |slc id ver q=>
  simp only[bK.as,BI]at h;split at h
  .rename_i f v y g
   replace h:=dB h;obtain⟨d,h⟩:=h;have d:v=ver:=by simpa using d
   subst d;simp only[bP]at hx;have A:=(hx.2.2 _ _ _ g).2 rfl;obtain⟨_,B,D,s,E,G⟩:=i.obj id _ g;obtain⟨I,J,d,K,L⟩:=ry s;cases q with
   |none=>
    simp_all [ja]
   |some p=>
    grind [ja]
  .cases h
 |agg l=>simp[bK.as,Ty.isAgg]at h
 |_=>simp[bK.as]at h
def aoI (c cb:Cx):Prop:= ∀b,b<c.w.heap.size->cb.free b/\cb.w.heap[b]? =c.w.heap[b]?
theorem FB (f:c.Ok W0) {cb:Cx} (d:aoI c cb) {x:bK} {e:Ty} {g:List e.den} {u:Value} (h:x.as c.hp (.list e)=a6 g) (hx:bP c x u):VD cb (.list e) g u:=by
 obtain⟨a,cp,l,i,m,o⟩:=abg f h hx;have p:=abf f h hx i;refine(VD.leaf rfl).2 ⟨a,cp,l,by rw[i],p,gp.mono (fB.mono (fun b q=>d b q.1) e) _ _ m,o.imp id fun⟨b,s,v,j,y⟩=>⟨b,s,v,(d b j).1,y.of_block (d b j).2⟩⟩
theorem als (j:c.Ok W0) {cb:Cx} (f:aoI c cb) {v i:bK} {u:Value} (h:VE c.hp v=a6 i) (d:bP c v u):bP cb i u:=by
 cases v with
 |val t x=>
  simp only[VE,Option.some.injEq]at h;subst h;simp only[bP]at d ⊢;exact⟨fun e=>let⟨cs,l,m⟩:=d.1 e;⟨cs,l,fB.mono (fun b g=>f b g.1) t x _ m⟩,fun e=>fB.mono (fun b g=>f b g.1) t x _ (d.2 e)⟩
 |nils=>
  grind [VE,bP]
 |slc id ver o=>
  simp only[VE]at h;split at h
  .rename_i t w p q
   rw[cond_eq_ite]at h;split at h
   .rename_i s
    cases h;simp only[bP];refine FB j f (x:=.slc id ver o) ?_ d;simp_all [bK.as,BI,gB]
   .cases h
  .cases h
 |_=>simp[VE]at h
theorem QQ (f:c.Ok W0) {cb:Cx} (g:aoI c cb): ∀(l e:List bK) (us:List Value),QP c.hp l=a6 e->bH c l us->bH cb e us
 |[],e,[],h,_=>by simp_all [QP,bH]
 |v::l,e,u::us,h,d=>by
  simp only[QP]at h;split at h
  .rename_i o i
   split at h
   .rename_i j m
    cases h;simp only[bH]at d ⊢;exact⟨als f g i d.1,QQ f g l j us m d.2⟩
   .cases h
  .cases h
 |[],_,_::_,_,d=>by simp[bH]at d
 |_::_,_,[],_,d=>by simp[bH]at d
def Cx.base (c:Cx) (w:World) (d:Nat->Prop):Cx:=⟨c.mu,[],c.nxt,w,[],d⟩
theorem avQ {w:World} {d:Nat->Prop} (e:Phi w) (hb: ∀b,d b->b<w.heap.size):(c.base w d).Ok w:=
 ⟨Below.refl _ _,fun id o h=>by simp[Cx.base,dM]at h,fun i j o p b h=>by simp[Cx.base,dM]at h,fun r f=>by simp[Cx.base]at f,fun b h=>⟨hb b h,(by rintro ⟨i,o,h,_⟩;simp[Cx.base,dM]at h),by simp[Cx.base]⟩,e⟩
theorem aly {w:World} {d:Nat->Prop} {b:Nat}:(c.base w d).free b↔b<w.heap.size/\ ¬d b:=by
 constructor
 .intro h;exact⟨h.1,h.2.2.2⟩
 .rintro ⟨e,f⟩;exact⟨e,(by rintro ⟨i,o,h,_⟩;simp[Cx.base,dM]at h),by simp[Cx.base],f⟩
theorem aoP {w:World} {d:Nat->Prop} (f:Phi w) (hb: ∀b,d b->b<w.heap.size) {e:Nat} (g:e=c.nxt):iM w 0 a7 (c.base w d) ⟨[],[],[],e⟩ ⟨#[],[]⟩ []:=
 ⟨rfl,g.symm,avQ f hb,by simp[bH],trivial,⟨[],rfl,List.nodup_nil,fun r h=>by simp at h⟩,fun l i=>by cases i⟩
theorem ORel.le0 {B:Nat} {c c':Cx} {id:Nat} {o:dJ} (h:c.ORel B id o) (hl:c.Le0 c') (d:c'.mu id=c.mu id) (hb: ∀b,o.blk (c.mu id)=a6 b->c'.w.heap[b]? =c.w.heap[b]?):c'.ORel B id o:=by
 cases o with
 |box e cs=>
  obtain⟨g,q,i,j,l⟩:=h;refine⟨by rw[d];exact g,q,by rw[d,hb _ rfl];exact i,bH.le0 hl _ _ j,l⟩
 |arr t ver x=>
  obtain⟨m,e,s,g,i,j⟩:=h;refine⟨m,e,s, ?_,gp.mono (fB.mono hl.free t) _ _ i,j⟩;rw[d];exact A7 g fun b u=>hb b u
 |lp f fr ps jk bd ky n p=>
  obtain⟨m,g,L,i,j,l⟩:=h;exact⟨m,by rw[d];exact g,L,by rw[d,hb _ rfl];exact i,bH.le0 hl _ _ j,l⟩
 |dead=>trivial
 |mp kk vk y=>
  obtain⟨g,v,cl,i,j⟩:=h;exact⟨by rw[d];exact g,v,cl,by rw[d,hb _ rfl];exact i,j⟩
theorem Cx.Le0.trans {a b c:Cx} (h:a.Le0 b) (k:b.Le0 c):a.Le0 c:=
 ⟨fun x e=>⟨(k.out x (h.out x e).1).1,(k.out x (h.out x e).1).2.trans (h.out x e).2⟩,fun i d=>k.ref i (h.ref i d),fun i o d f=>by
  obtain⟨g,j,l⟩:=k.obj i o (h.ref i d) f;obtain⟨m,p,q⟩:=h.obj i g d j
  grind [dJ.like_trans],k.bar.trans h.bar⟩
theorem UI {n:Nat} {fn:Func} {tmps:Array Value} {Rr:Ending->World->Prop}: ∀(l:List Nat) (c:Cx),c.Ok W0->l.Nodup->(∀r∈l,r∈c.mks)->
  ∃c',c'.hp=c.hp/\c'.nxt=c.nxt/\c.Le0 c'/\c'.Ok W0/\(∀r∈c.mks,r∉l->r∈c'.mks)/\(∀(b:Nat) (L:Loop),c.w.heap[b]? =a6 (Obj.loop L)-> ∃A:Loop,c'.w.heap[b]? =a6 (Obj.loop A))/\c.w.heap.size<=c'.w.heap.size/\c'.bar=c.bar/\
   (LeavesIn (FW a7) n P fn tmps Rr [] .returning c'.w->LeavesInM (FW a7) n P fn tmps Rr (l.map mkD) .returning c.w)
 |[],c,f,_,_=>⟨c,rfl,rfl,(Cx.Le.refl c).le0,f,fun r m _=>m,fun b L x=>⟨L,x⟩,ae _,rfl,fun h=>h⟩
 |d::l,c,f,B,y=>by
  obtain⟨V,D⟩:=List.nodup_cons.1 B;have hd:=y d (by simp);have u:=f.mks d hd;have W:=f.mark_lt hd
  let i:Cx:={c with w:=c.w.putObj d (.deferred a7),mks:=c.mks.filter fun r=>r !=d}
  have p: ∀b,b≠d->i.w.heap[b]? =c.w.heap[b]? :=fun b g=>World.putObj_heap_other g;have v:c.Le0 i:=⟨fun b g=>⟨⟨by simpa [i] using g.1,g.2.1,(fun E=>g.2.2 (List.mem_filter.1 E).1)⟩,p b fun e=>g.2.2 (e▸hd)⟩,fun _ h=>h,fun id o _ q=>⟨o,q,o.like_refl _⟩,rfl⟩;have G:i.Ok W0:=by
   refine⟨⟨f.bel.os,f.bel.tape,f.bel.output,by simpa [i] using f.bel.size,fun j I=>(p j (by have:=u.1;omega)).trans (f.bel.block j I)⟩,fun id o q=>ORel.le0 (f.obj id o q) v rfl fun b g=>p b fun e=> ?_,f.inj,fun r m=> ?_,fun b g=>(v.out b (f.bar b g)).1,f.phi⟩
   .subst e;exact(f.obj id o q).no_mark g u.2
   .obtain⟨z,s⟩:=List.mem_filter.1 m;have s:r≠d:=by simpa using s
    exact⟨(f.mks r z).1,(p r s).trans (f.mks r z).2⟩
  obtain⟨J,K,M,N,O,X,Y,Z,S,U⟩:=UI (n:=n) (fn:=fn) (tmps:=tmps) (Rr:=Rr) l i G D fun r m=>List.mem_filter.2 ⟨y r (by simp[m]),by
   grind⟩
  refine⟨J,K,M,v.trans N,O,fun r m s=> ?_,fun b L x=> ?_, ?_,S,fun h=> ?_⟩
  .grind
  .grind
  .have:c.w.heap.size=i.w.heap.size:=by simp[i]
   omega
  .exact⟨by simp,.inl ⟨d,_,rfl,run_takeDeferred u.2,U h⟩⟩
theorem asa {t:TypeId} {v u:Value} {w w':World} (h:(Instr.loadAt t v).run P w=.ok u w'):(do loadVar t (<-asAddr v):Sem Value).run P w=.ok u w':=by
 unfold Instr.loadAt at h;cases v<;>try (simp[Instr.sureAddr,stuck,Sem.run_bind,Result.andThen]at h;done)
 rename_i p
 cases p<;>first|exact h|simp_all [Instr.sureAddr]
def Na (tmps:Array Value):ResultVar->Sem Value
 |.tmp t=>pure (tmps.getD t undef)
 |.cell a t=>do loadVar t (<-asAddr (tmps.getD a undef))
theorem zX (hT:TOk P T) (e:c.Ok W0) {st:St} {tmps:Array Value} (f:c.hp=st.hp) (d:bH c st.fr tmps.toList): ∀(l:List ResultVar) (K:List bK->Option R),sJ T st l K=a6 r->
  ∃vs us,K vs=a6 r/\bH c vs us/\(l.mapM (Na tmps)).run P c.w=.ok us c.w
 |[],K,h=>⟨[],[],h,by simp[bH],rfl⟩
 |.tmp t::l,K,h=>by
  simp only[sJ]at h;obtain⟨vs,us,g,i,j⟩:=zX hT e f d l _ h;refine⟨_,tmps.getD t undef::us,g,by simp only[bH];exact⟨d.getD t,i⟩, ?_⟩;simp_all [Na]
 |.cell a t::l,K,h=>by
  simp only[sJ]at h;rw[<-f]at h;obtain⟨z,u,g,i,j⟩:=atr hT e h (d.getD a);obtain⟨vs,us,m,o,p⟩:=zX hT e f d l _ g;refine⟨_,u::us,m,by simp_all [bH], ?_⟩;have q:=asa (j c.w (Below.refl _ _))
  grind [Sem.run_bind,Na,Result.andThen_ok,Sem.run_pure]
def O5:List Value->Value
 |[v]=>v
 |vs=>.tuple vs.toArray
theorem Bc {vs:List bK} {us:List Value} (h:bH c vs us):bP c (MZ vs) (O5 us):=by
 match vs,us,h with
 |[],[],h=>simp only[MZ,O5,bP];simp_all
 |[v],[u],h=>simpa [MZ,O5,bH] using h
 |v::d::vs,u::e::us,h=>simp only[MZ,O5,bP];simp_all
 |[],_::_,h=>simp[bH]at h
 |_::_,[],h=>simp[bH]at h
 |[_],_::_::_,h=>simp[bH]at h
 |_::_::_,[_],h=>simp[bH]at h
theorem ad3 {fn:Func} {tmps:Array Value} {us:List Value} {w:World} (h:(fn.results.toList.mapM (Na tmps)).run P w=.ok us w):(results fn tmps).run P w=.ok (O5 us) w:=by
 have e:results fn tmps=(do let d<-fn.results.mapM (Na tmps);pure (if h:d.size=1 then d[0]else .tuple d)):=rfl;have f:(fn.results.mapM (Na tmps)).run P w=.ok us.toArray w:=by
  simp_all [Array.mapM_eq_mapM_toList]
 rw[e,Sem.run_bind,f]
 match us with
 |[]=>rfl
 |[v]=>rfl
 |v::g::d=>rfl
end
end
section
open Option renaming some → a6, none → a7
open Bool renaming and_eq_true → af
open List renaming mem_of_mem_take → bn
open Nat renaming eq_of_beq_eq_true → aj, lt_of_lt_of_le → aZ
open Go.RowKit
def Jc (P:Program):Prop:= ∀(f:FuncId) (fn:Func) (c:Code),P.funcs[f]? =a6 fn->fn.body=a6 c->(fn.name== "runtime.NumGoroutine")=false
def DF {R:Type} (P:Program) (W0:World) (o:nD R):Prop:=
 ∀(id:Nat) (h:List bK) (st:St) (K:bK->St->Option R) (r:R),o (.yield id h) st K=a6 r->
  ∀(b0:Nat) (rd:Option Nat) (c:Cx) (a:Act) (ats:List (Array Value)) (i:Array Value),iM W0 b0 rd c st a ats->bH c h i.toList->
   (∃f q s jk d v k p,dM st.hp id=a6 (.lp f q s jk d v k p))/\
   ∀j:Ending->World->Prop,(∀e z u l,K z l=a6 r->iM W0 b0 rd e l a ats->bP e z u->c.Mono e->j (.returned u) e.w)->
    ∀n,∃g m jk d,(Instr.yield (c.mu id).blk i).run P c.w=.ok (.round (c.mu id).blk g m jk d) c.w/\RoundIn (FW rd) n P (c.mu id).blk g m jk d c.w j
def ER {R:Type} (g:FuncId) (s:Sum) (cl:Bool):gy R:=fun d e f st K=>match d with
 |.fn g' h=>if g'=g then s.call cl (e++h) f st K else a7
 |_=>a7
def aoB (P:Program) (g:FuncId):Prop:= ∀(w:World) (b:Nat),w.shape? b=a6 (VH,2)->w.frozen? ⟨b,0,a7⟩=false->
 (callFunc g #[.pointer (a6 ⟨b,0,a7⟩)]).run P w=.ok (.enter g #[.pointer (a6 ⟨b,0,a7⟩)]) w/\
 (w.cell? ⟨b,0,a7⟩=a6 (.pointer (a6 ⟨b,0,a7⟩))->Calls P g #[.pointer (a6 ⟨b,0,a7⟩)] w fun e d=>e=.returned (.tuple #[])/\d=w)/\
 (w.cell? ⟨b,0,a7⟩=a6 (.pointer a7)->Calls P g #[.pointer (a6 ⟨b,0,a7⟩)] w fun e d=>e=.returned (.tuple #[])/\d=w.setCell ⟨b,0,a7⟩ (.pointer (a6 ⟨b,0,a7⟩)))
def QK (P:Program) (em:TypeId->Nat->Nat->Bool) (g:FuncId):Prop:= ∀(w:World) (b t o n:Nat) (d:Array Value),em t o n=true->w.heap[b]? =a6 (.cells d t (0,0))->d.size=n->o<n/\
 (callFunc g #[.pointer (a6 ⟨b,o,a7⟩)]).run P w=.ok (.enter g #[.pointer (a6 ⟨b,o,a7⟩)]) w/\
 (w.cell? ⟨b,o,a7⟩=a6 (.pointer (a6 ⟨b,o,a7⟩))->Calls P g #[.pointer (a6 ⟨b,o,a7⟩)] w fun e f=>e=.returned (.tuple #[])/\f=w)/\
 (w.cell? ⟨b,o,a7⟩=a6 (.pointer a7)->Calls P g #[.pointer (a6 ⟨b,o,a7⟩)] w fun e f=>e=.returned (.tuple #[])/\f=w.setRow b (d.toList.take o++[Value.pointer (a6 ⟨b,o,a7⟩)]++d.toList.drop (o+1)).toArray)
def BC (P:Program) (em:TypeId->Nat->Nat->Bool) (g:FuncId):Prop:=aoB P g/\QK P em g
def NI {R:Type} (g:FuncId) (s:fF) (cl:Bool):gy R:=fun d e h st K=>match d with
 |.fn g' f=>if g'=g then s.call cl (e++f) st K else a7
 |_=>a7
structure xe (P:Program) (E:Env):Prop where
 T:TOk P E.T
 x: ∀(R:Type) (W0:World) (n:Nat) (g:FuncId) (s:fF),E.sb g=a6 s->mi (R:=R) P W0 n (NI g s E.cl)
 b: ∀g,E.bf g=true->BC P E.em g
 v: ∀(R:Type) (W0:World) (n:Nat) (g:FuncId) (s:Sum),E.sg g=a6 s->mi (R:=R) P W0 n (ER g s E.cl)
 q: ∀(R:Type) (g:FuncId) (s:Sum),E.sg g=a6 s->(s.rs.all fun r=> !r.2&&r.1.rigid)=true->nI (R:=R) P (ER g s E.cl)
section
variable {P:Program} {T:TT} {W0:World} {b0:Nat} {rd:Option Nat} {R:Type} {r:R} {c:Cx} {ats:List (Array Value)}
theorem qQ (e:Jc P) {f:FuncId} {fn:Func} {d:Code} (hf:P.funcs[f]? =a6 fn) (hb:fn.body=a6 d) (args:Array Value) (w:World):(callFunc f args).run P w=.ok (.enter f args) w:=by
 have g:=e f fn d hf hb;simp_all [callFunc]
theorem rV {g:FuncId} {vs args:Array Value} {w:World}:(do let d<-Deferred.ofValue (.func (.func g) #[] vs) args;invoke d.target d.args:Sem Next).run P w=(callFunc g (args++vs)).run P w:=by
 grind [Deferred.ofValue,invoke]
theorem Sj {g:FuncId} {vs args:Array Value} {w:World}:(do let d<-Deferred.ofValue (.func (.func g) vs #[]) args;invoke d.target d.args:Sem Next).run P w=(callFunc g (vs++args)).run P w:=by
 rfl
theorem Yw {l:Nat} {args:Array Value} {w:World}:(do let d<-Deferred.ofValue (.func (.yield l) #[] #[]) args;invoke d.target d.args:Sem Next).run P w=(Instr.yield l args).run P w:=by
 grind [Deferred.ofValue,invoke]
theorem bH.append_arr {l m:List bK} {xs d:Array Value} (h:bH c l xs.toList) (k:bH c m d.toList):bH c (l++m) (xs++d).toList:=by
 simp_all [bH.append]
theorem Wi: ∀(h:gG) (i:Nat) (o:dJ),dM h i=a6 o->iT h i o=h
 |[],_,_,_=>rfl
 |(k,p)::h,i,o,d=>by
  rw[dY]at d;simp only[iT];by_cases e:k=i
  .simp_all
  .rw[aq e]at d;have f:(k==i)=false:=by simpa using e
   simp[f,Wi h i o d]
theorem aeF {c:Cx}: ∀(l:List bK) (xs:List Value),bH c l xs-> ∀(i:Nat) (hi:i<xs.length),bP c (l.getD i .undef) xs[i]
 |[],[],_,i,hi=>by simp at hi
 |v::l,x::xs,h,0,_=>h.1
 |v::l,x::xs,h,i+1,hi=>by
  have:=aeF l xs h.2 i (by simpa using hi);simpa using this
 |[],_::_,h,_,_=>by cases h
 |_::_,[],h,_,_=>by cases h
theorem alB {em:TypeId->Nat->Nat->Bool} {g:FuncId} (Y:QK P em g) {st:St} {K:bK->St->Option R} {id off:Nat} {t:TypeId} {cs:List bK} (Z:em t off cs.length=true) (l:dM st.hp id=a6 (.box t cs))
  (h:(match cs.getD off .undef with
    |.nilp=>K (.tup []) {st with hp:=iT st.hp id (.box t (cs.take off++[.ptr id off]++cs.drop (off+1)))}
    |.ptr i o=>bif Nat.beq i id&&Nat.beq o off then K (.tup []) st else a7
    |_=>a7)=a6 r) {a:Act} (j:iM W0 b0 rd c st a ats) {us:Array Value} (f:bH c [.ptr id off] us.toList)
  (Rr:Ending->World->Prop) (D: ∀c' z u E,K z E=a6 r->iM W0 b0 rd c' E a ats->bP c' z u->c.Mono c'->Rr (.returned u) c'.w):
  (callFunc g us).run P c.w=.ok (.enter g us) c.w/\Calls P g us c.w Rr:=by
 rw[<-j.hp]at l;obtain⟨hB,d,hw,p,G⟩:=j.ok.obj id _ l;have ab:cs.length=d.size:=by simpa using bH.length _ _ p
 obtain⟨us⟩:=us
 match us,f with
 |[u],f=>
  simp only[bH,bP,and_true]at f;have hu:=f.2.2 _ _ l;subst hu;have I:c.w.heap[(c.mu id).blk]? =a6 (.cells d t (0,0)):=hw;obtain⟨ho,h1,h2,h3⟩:=Y c.w (c.mu id).blk t off cs.length d Z I ab.symm;have J:off<d.size:=by omega
  have M:c.w.cell? ⟨(c.mu id).blk,off,a7⟩=a6 d[off]:=by simp[World.cell?,I,J]
  have m:bP c (cs.getD off .undef) d[off]:=by
   have:=aeF _ _ p off (by simpa using J);simpa using this
  have N: ∀c',bP c' (.tup []) (.tuple #[]):=fun c'=>by simp only[bP];exact⟨#[],rfl,by simp[bH]⟩
  refine⟨h1, ?_⟩;split at h
  .rename_i q
   rw[q]at m;simp only[bP]at m;refine(h3 (by rw[M,m])).mono ?_;rintro e w' ⟨rfl,rfl⟩;have O:c.w.heap.size<=(c.w.setRow (c.mu id).blk (d.toList.take off++[Value.pointer (a6 ⟨(c.mu id).blk,off,a7⟩)]++d.toList.drop (off+1)).toArray).heap.size:=by simp
   have S:(dJ.box t cs).like (c.mu id) (.box t (cs.take off++[.ptr id off]++cs.drop (off+1))) (c.mu id):=rfl;have U: ∀b,b<c.w.heap.size->(dJ.box t cs).blk (c.mu id)≠a6 b->(c.w.setRow (c.mu id).blk (d.toList.take off++[Value.pointer (a6 ⟨(c.mu id).blk,off,a7⟩)]++d.toList.drop (off+1)).toArray).heap[b]? =c.w.heap[b]? :=
    fun b _ ad=>setRow_other _ _ _ _ (fun e=>ad (by simp[dJ.blk,e]))
   have V: ∀b,(dJ.box t (cs.take off++[.ptr id off]++cs.drop (off+1))).blk (c.mu id)=a6 b->(dJ.box t cs).blk (c.mu id)=a6 b\/c.w.heap.size<=b:=fun b s=>.inl s;have W: ∀(b:Nat) (L:Loop),(dJ.box t cs).blk (c.mu id)=a6 b->c.w.heap[b]? =a6 (Obj.loop L)-> ∃L':Loop,(c.w.setRow (c.mu id).blk (d.toList.take off++[Value.pointer (a6 ⟨(c.mu id).blk,off,a7⟩)]++d.toList.drop (off+1)).toArray).heap[b]? =a6 (Obj.loop L'):=fun b L s hL=>absurd hL ((j.ok.obj id _ l).no_loop (by simp) s);have x:=Cx.Le.put (w:=c.w.setRow (c.mu id).blk (d.toList.take off++[Value.pointer (a6 ⟨(c.mu id).blk,off,a7⟩)]++d.toList.drop (off+1)).toArray) j.ok l S O U V W;have ae:Below W0.heap.size W0 (c.w.setRow (c.mu id).blk (d.toList.take off++[Value.pointer (a6 ⟨(c.mu id).blk,off,a7⟩)]++d.toList.drop (off+1)).toArray):=
    j.ok.bel.trans ⟨rfl,rfl,rfl,by simp,fun k hk=>setRow_other _ _ _ _ (by omega)⟩
   have hd:Dk W0 c st (c.put id (.box t (cs.take off++[.ptr id off]++cs.drop (off+1))) (c.mu id) (c.w.setRow (c.mu id).blk (d.toList.take off++[Value.pointer (a6 ⟨(c.mu id).blk,off,a7⟩)]++d.toList.drop (off+1)).toArray)) {st with hp:=iT st.hp id (.box t (cs.take off++[.ptr id off]++cs.drop (off+1)))}:=by
    refine⟨by simp[Cx.put,j.hp],j.nxt,rfl,rfl,Cx.Ok.put j.ok l S ae O U V W ?_,x⟩;refine⟨by simp only[Cx.put,upd_same];exact hB,(d.toList.take off++[Value.pointer (a6 ⟨(c.mu id).blk,off,a7⟩)]++d.toList.drop (off+1)).toArray, ?_, ?_, ?_⟩
    .simp only[Cx.put,upd_same]
     grind [setRow_heap]
    .have ag:bH (c.put id (.box t (cs.take off++[.ptr id off]++cs.drop (off+1))) (c.mu id) (c.w.setRow (c.mu id).blk (d.toList.take off++[Value.pointer (a6 ⟨(c.mu id).blk,off,a7⟩)]++d.toList.drop (off+1)).toArray)) [.ptr id off] [Value.pointer (a6 ⟨(c.mu id).blk,off,a7⟩)]:=by
      simp only[bH,bP,and_true];exact⟨rfl,.inl ⟨_,Cx.put_get l⟩,fun _ _ _=>by simp[Cx.put,upd_same]⟩
     have X:=bH.le x _ _ p;have y:=bH.take off _ _ X;have A:=bH.drop (off+1) _ _ X;have:=bH.append _ _ _ _ (bH.append _ _ _ _ y ag) A;simpa using this
    .intro v f;simp only[List.mem_append,List.mem_singleton]at f;rcases f with (f|f)|f
     .exact G v (bn f)
     .subst f;rfl
     .exact G v (List.mem_of_mem_drop f)
   exact D _ (.tup []) (.tuple #[]) _ h (j.did hd) (N _) x.mono
  .rename_i i o q
   obtain⟨B,ah⟩:=dB h;clear h;rw[af]at B;have y:=aj B.1;have A:=aj B.2;subst y;subst A;rw[q]at m;simp only[bP]at m;have hp:=m.2.2 _ _ l;refine(h2 (by rw[M,hp])).mono ?_;rintro e w' ⟨rfl,rfl⟩;exact D c (.tup []) (.tuple #[]) st ah j (N _) (Cx.Mono.refl c)
  .cases h
theorem ab8 {em:TypeId->Nat->Nat->Bool} {g:FuncId} (hT:TOk P T) (Z:BC P em g) {args:List bK} {st:St} {K:bK->St->Option R} (h:QZ em T args st K=a6 r) {a:Act} (d:iM W0 b0 rd c st a ats) {us:Array Value} (s:bH c args us.toList)
  (Rr:Ending->World->Prop) (B: ∀c' z u J,K z J=a6 r->iM W0 b0 rd c' J a ats->bP c' z u->c.Mono c'->Rr (.returned u) c'.w):
  (callFunc g us).run P c.w=.ok (.enter g us) c.w/\Calls P g us c.w Rr:=by
 obtain⟨hg,ab⟩:=Z;unfold QZ at h;split at h<;>try (cases h;done)
 rename_i id ad
 split at h<;>try (cases h;done)
 case h_2 t cs _ f=>
  obtain⟨x,h⟩:=dB h;exact alB ab x f h d s Rr B
 rename_i t i l m o f
 replace h:=dB h;obtain⟨x,h⟩:=h;simp only[af]at x;obtain⟨D,E,hk,j⟩:=x;have D:ad=0:=aj D;subst D;have E:i=id:=aj E;subst E;have ht:=hT.bldr hk j;rw[<-d.hp]at f;obtain⟨hB,G,M,v,ah⟩:=d.ok.obj i _ f;obtain⟨us⟩:=us
 match us,s with
 |[u],s=>
  simp only[bH,bP,and_true]at s;have hu:=s.2.2 _ _ f;subst hu;obtain⟨G⟩:=G
  match G,v with
  |[p,q],v=>
   simp only[bH,and_true]at v;have y:=v.1;simp only[bP]at y;have y:=y.2.2 _ _ f;rw[ht]at M;have A:c.w.heap[(c.mu i).blk]? =a6 (.cells #[p,q] VH (0,0)):=M;have N:c.w.cell? ⟨(c.mu i).blk,0,a7⟩=a6 p:=by simp[World.cell?,A]
   obtain⟨h1,h2,h3⟩:=hg c.w (c.mu i).blk (by simp[World.shape?,A]) (by simp[World.frozen?,A]);refine⟨h1, ?_⟩;have O: ∀c',bP c' (.tup []) (.tuple #[]):=fun c'=>by simp only[bP];exact⟨#[],rfl,by simp[bH]⟩
   rcases y with e|e
   .subst e;refine(h3 N).mono ?_;rintro e w' ⟨rfl,rfl⟩;have ai:(c.mu i).blk<c.w.heap.size:=(Array.getElem?_eq_some_iff.1 A).1;have ak:(c.w.setCell ⟨(c.mu i).blk,0,a7⟩ (.pointer (a6 ⟨(c.mu i).blk,0,a7⟩))).heap[(c.mu i).blk]? =a6 (.cells #[.pointer (a6 ⟨(c.mu i).blk,0,a7⟩),q] VH (0,0)):=by
     grind [World.setCell]
    have S: ∀b,(c.mu i).blk≠b->(c.w.setCell ⟨(c.mu i).blk,0,a7⟩ (.pointer (a6 ⟨(c.mu i).blk,0,a7⟩))).heap[b]? =c.w.heap[b]? :=fun b j=>by
     grind [World.setCell]
    have U:(c.w.setCell ⟨(c.mu i).blk,0,a7⟩ (.pointer (a6 ⟨(c.mu i).blk,0,a7⟩))).heap.size=c.w.heap.size:=by simp[World.setCell]
    have V: ∀(b:Nat) (L:Loop),(dJ.box t [.slf i,.slc l m o]).blk (c.mu i)=a6 b->c.w.heap[b]? =a6 (Obj.loop L)-> ∃L':Loop,(c.w.setCell ⟨(c.mu i).blk,0,a7⟩ (.pointer (a6 ⟨(c.mu i).blk,0,a7⟩))).heap[b]? =a6 (Obj.loop L'):=fun b L j hL=>absurd hL ((d.ok.obj i _ f).no_loop (by simp) j);have W: ∀b,b<c.w.heap.size->(dJ.box t [.slf i,.slc l m o]).blk (c.mu i)≠a6 b->(c.w.setCell ⟨(c.mu i).blk,0,a7⟩ (.pointer (a6 ⟨(c.mu i).blk,0,a7⟩))).heap[b]? =c.w.heap[b]? :=fun b _ ae=>S b fun e=>ae (by simp[dJ.blk,e]);have X: ∀b,(dJ.box t [.slf i,.slc l m o]).blk (c.mu i)=a6 b->(dJ.box t [.slf i,.slc l m o]).blk (c.mu i)=a6 b\/c.w.heap.size<=b:=fun b j=>.inl j;have ag:Below W0.heap.size W0 (c.w.setCell ⟨(c.mu i).blk,0,a7⟩ (.pointer (a6 ⟨(c.mu i).blk,0,a7⟩))):=
     ⟨d.ok.bel.os,d.ok.bel.tape,d.ok.bel.output,by omega,fun b j=>(S b (by omega)).trans (d.ok.bel.block b j)⟩
    have Y:=dJ.like_refl (.box t [.slf i,.slc l m o]) (c.mu i);have I:=Cx.Le.put d.ok f Y (Nat.le_of_eq U.symm) W X V;have hd:Dk W0 c st (c.put i (.box t [.slf i,.slc l m o]) (c.mu i) (c.w.setCell ⟨(c.mu i).blk,0,a7⟩ (.pointer (a6 ⟨(c.mu i).blk,0,a7⟩)))) st:=by
     refine⟨by simp only[Cx.put];rw[Wi _ _ _ f,d.hp],d.nxt,rfl,rfl,Cx.Ok.put d.ok f Y ag (Nat.le_of_eq U.symm) W X V ?_,I⟩;refine⟨by simp only[Cx.put,upd_same];exact hB,#[.pointer (a6 ⟨(c.mu i).blk,0,a7⟩),q], ?_, ?_, ?_⟩
     .simp_all [Cx.put,upd_same]
     .simp only[bH,and_true];refine⟨?_,bP.le I _ _ v.2⟩;simp only[bP];exact⟨rfl,.inl ⟨_,Cx.put_get f⟩,fun _ _ _=>.inr (by simp[Cx.put,upd_same])⟩
     simp_all
    exact B _ (.tup []) (.tuple #[]) st h (d.did hd) (O _) I.mono
   .subst e;refine(h2 N).mono ?_;rintro e w' ⟨rfl,rfl⟩;exact B c (.tup []) (.tuple #[]) st h d (O _) (Cx.Mono.refl c)
theorem kQ {E:Env} (L:xe P E) {O:nD R} (W:vF P W0 O) (hy:DF P W0 O) (n:Nat):mi P W0 n (xg E O):=by
 intro b0 rd fv I S st K r h c a ats X l j i m o next Q q
 cases fv with
 |fn g U=>
  simp only[xg]at h;split at h
  .rename_i s M
   exact L.v R W0 n g s M b0 rd (.fn g U) I S st K r (by simp_all [ER]) c a ats X l j i m o next Q q
  split at h
  .rename_i s M
   exact L.x R W0 n g s M b0 rd (.fn g U) I S st K r (by simp_all [NI]) c a ats X l j i m o next Q q
  .rw[cond_eq_ite]at h;split at h
   .rename_i ab
    simp only[bP]at i;obtain⟨J,rfl,V⟩:=i;obtain⟨N,y⟩:=ab8 L.T (L.b g ab) h j (us:=l++J) (bH.append_arr m V)
     (fun e d=>match e with
      |.returned v=>next (a.put o.dst v) d
      |.panicked A=>Q (.panic A) a d
      |.outgrown=>LetsOut Q) (fun B z u D k1 k2 k3 k4=>q B z u D k1 k2 k3 k4)
    rw[rV,N];exact⟨uh rd,(Ai y).mono fun e d G=>by cases e<;>exact G⟩
   simp only[bP]at i;obtain⟨J,rfl,V⟩:=i;obtain⟨N,y⟩:=W g (I++U) st K r h b0 rd c a ats (l++J) j (bH.append_arr m V)
    (fun e d=>match e with
     |.returned v=>next (a.put o.dst v) d
     |.panicked A=>Q (.panic A) a d
     |.outgrown=>LetsOut Q) (fun B z u D k1 k2 k3 k4=>q B z u D k1 k2 k3 k4)
   rw[rV,N];exact⟨uh rd,(Ai y).mono fun e d G=>by cases e<;>exact G⟩
 |mfn g Y=>
  simp only[xg]at h;simp only[bP]at i;obtain⟨J,rfl,Z⟩:=i;split at h
  .rename_i s M
   have h0:=L.x R W0 n g s M b0 rd (.fn g []) (Y++I) S st K r (by simp_all [NI]) c a ats (.func (.func g) #[] #[]) (J++l) j (by simp only[bP];exact⟨#[],rfl,by simp[bH]⟩) (bH.append_arr Z m) o next Q q
   grind [Sj]
  obtain⟨N,y⟩:=W g (Y++I) st K r h b0 rd c a ats (J++l) j (bH.append_arr Z m)
   (fun e d=>match e with
    |.returned v=>next (a.put o.dst v) d
    |.panicked A=>Q (.panic A) a d
    |.outgrown=>LetsOut Q) (fun B z u D k1 k2 k3 k4=>q B z u D k1 k2 k3 k4)
  rw[Sj,N];exact⟨uh rd,(Ai y).mono fun e d G=>by cases e<;>exact G⟩
 |yld id=>
  simp only[xg]at h;obtain⟨⟨f,fr,ps,jk,bd,ky,k,p,hg⟩,y⟩:=hy id I st K r h b0 rd c a ats l j m;simp only[bP]at i;have:=i.2.2 f fr ps jk bd ky k p (by rw[j.hp];exact hg);subst this;obtain⟨g,ad,jk,bd,h3,h4⟩:=y
    (fun e d=>match e with
     |.returned v=>next (a.put o.dst v) d
     |.panicked A=>Q (.panic A) a d
     |.outgrown=>LetsOut Q) (fun B z u D k1 k2 k3 k4=>q B z u D k1 k2 k3 k4) (n-1)
  rw[Yw,h3];exact⟨uh rd,h4.mono fun e d G=>by cases e<;>exact G⟩
 |_=>simp[xg]at h
theorem DJ {E:Env} (A:xe P E) {o:nD bK} (B: ∀W0,vF P W0 o):nI (R:=R) P (Rf E fun j st=>o j st fun v _=>a6 v):=by
 intro W0 b0 rd D G I st K r h c a ats J l d m p;cases D with
 |fn g L=>
  cases L with
  |nil=>
   simp only[Rf]at h;split at h
   .rename_i s M
    rw[cond_eq_ite]at h;split at h
    .rename_i N
     exact A.q R g s M N W0 b0 rd (.fn g []) G I st K r (by simp_all [ER]) c a ats J l d m p
    .cases h
   .split at h
    .rename_i O S
     split at h
     .rename_i v U
      rw[cond_eq_ite]at h;split at h
      .rename_i x
       simp only[bP]at m;obtain⟨V,rfl,W⟩:=m;have X:V= #[]:=by
        have:=bH.length _ _ W
        grind
       subst X;refine⟨v,rv v,h,(IW x _).2 rfl,fun i f=>.inl ⟨g,l, ?_⟩⟩;have Y:iM i 0 a7 (c.base i fun _=>False) ⟨[],[],[],st.nxt⟩ ⟨#[],[]⟩ []:=aoP (Phi.below f d.ok.phiw) (fun b h=>h.elim) d.nxt.symm;have Z:aoI c (c.base i fun _=>False):=fun b y=>⟨aly.2 ⟨aZ y f.size,fun h=>h⟩,f.block b y⟩;obtain⟨h1,h2⟩:=B i g O _ _ v U 0 a7 _ _ [] l Y (QQ d.ok Z _ _ _ (by rw[d.hp];exact S) p)
        (fun e ab=>e=.returned (rv v)/\GK c ab) (fun c' z u ad k1 k2 k3 k4=>by
         simp only[Option.some.injEq]at k1;subst k1;refine⟨by rw[(IW x u).1 k3], ?_⟩;exact f.trans (k2.ok.bel.mono f.size))
       refine⟨?_,h2⟩;rw[rV,Array.append_empty];exact h1
      .cases h
     .cases h
    .cases h
  |cons _ _=>simp[Rf]at h
 |_=>simp[Rf]at h
theorem Hm: ∀k,bH c (List.replicate k (.tup [])) (List.replicate k undef)
 |0=>by simp[bH]
 |k+1=>by
  simp only[List.replicate_succ,bH,bP];exact⟨⟨#[],rfl,by simp[bH]⟩,Hm k⟩
theorem aa7 {l:Nat} {Rr:Ending->World->Prop} {e:Ex} {a:Act} {w:World} (h: ∃v w',(Instr.endRound l e.code).run P w=.ok v w'/\Rr (.returned v) w'):roundPost P l Rr e.xt a w:=by
 cases e<;>exact h
theorem HY: ∀(d:List Nat) (fr args:List bK) (f:List Value) (tmps:Array Value),bH c fr tmps.toList->bH c args f->bH c (wP fr d args) ((d.zip f).foldl (fun tmps (t,a)=>tmps.setIfInBounds t a) tmps).toList
 |[],fr,args,f,tmps,h,_=>by simp_all [wP]
 |p::d,fr,[],[],tmps,h,_=>by assumption
 |p::d,fr,v::args,u::f,tmps,h,e=>by
  simp only[bH]at e;simp only[wP,List.zip_cons_cons,List.foldl_cons];refine HY d _ args f _ ?_ e.2;simp_all [bH.set]
 |p::d,fr,[],_::_,tmps,h,e=>by simp[bH]at e
 |p::d,fr,_::_,[],tmps,h,e=>by simp[bH]at e
end
end
section
open Option renaming some → a6, none → a7
open Bool renaming and_eq_true → af
open Nat renaming le_refl → ae, le_trans → aG
open Go.RowKit
section
variable {P:Program} {T:TT} {W0:World} {b0:Nat} {rd:Option Nat} {R:Type} {r:R} {c:Cx} {ats:List (Array Value)}
def sU (P:Program) (E:Env):Prop:= ∀(f:FuncId) (fn:Func) (c:Code),P.funcs[f]? =a6 fn->fn.body=a6 c->dO E f c
def aeN (E:Env):Prop:= ∀f k jk d,uI f k=a6 (jk,d)->dO E f jk/\dO E f d
theorem ru {E:Env} {g:nD R} {i:XD} {f:FuncId} {k:Nat} {x y:Code}: ∀c:Code,jl E g i f c->IU c k=a6 (x,y)->jl E g i f x/\jl E g i f y
 |.rangeFunc _ _ jk j,d,h=>by
  simp only[IU]at h;split at h
  .cases h;exact⟨d.1,d.2.1⟩
  .split at h
   .rename_i z e;cases h;exact ru jk d.1 e
   .exact ru j d.2.1 h
 |.seq a b,d,h=>by
  simp only[IU]at h;split at h
  .rename_i z e;cases h;exact ru a d.1.1 e
  .exact ru b d.2 h
 |.cond _ a b,d,h=>by
  simp only[IU]at h;split at h
  .rename_i z e;cases h;exact ru a d.1 e
  .exact ru b d.2 h
 |.block _ c,d,h=>ru c d h
 |.loop c,d,h=>ru c d.1 h
 |.scope c,d,h=>ru c d h
 |.skip,_,h|.label _,_,h|.region _ _ _,_,h|.exit _,_,h|.goto _,_,h|.ret,_,h|.refuse _,_,h=>by simp[IU]at h
theorem ayK {P:Program} {E:Env} (h:sU P E): ∀f k jk e,aD4 P f k=a6 (jk,e)->dO E f jk/\dO E f e:=fun f k jk e d=>by
 unfold aD4 at d;split at d
 .rename_i fn g
  split at d
  .rename_i c i
   exact⟨fun R m=>(ru c (h f fn c g i R m) d).1,fun R m=>(ru c (h f fn c g i R m) d).2⟩
  .cases d
 .cases d
theorem abM {P:Program} {E:Env} (h:xe P E): ∀R:Type,nI (R:=R) P (GU E.sg E.cl):=fun R W0 b0 rd v f i st K r d c a ats j l m o p=>by
 unfold GU at d;split at d
 .rename_i g
  split at d
  .rename_i s u
   replace d:=dB d;obtain⟨e,d⟩:=d;simp only[af]at e;exact h.q R g s u e.1 W0 b0 rd (.fn g []) f i st K r (by simp_all [ER]) c a ats j l m o p
  .cases d
 .cases d
theorem xe.at {P:Program} {E:Env} (h:xe P E) (n:Nat):xe P (E.at n):=⟨h.T,h.x,h.b,h.v,h.q⟩
theorem atn {st:St} {K:St->Option R} (h:pop st K=a6 r): ∃fr stk,st.stk=fr::stk/\K {st with fr:=fr,stk:=stk}=a6 r:=by
 grind [pop]
theorem DI {v:bK} {u:Value} {f d:Cx} {st st1:St} {a:Act} {A:Nat} (o:iM W0 b0 rd f st a ats) (B:d.Ok W0) (D:d.hp=st1.hp) (E:d.nxt=st1.nxt) (G:st1.fr=[]) (I:Dl d st1.stk (a.tmps::ats))
  (g:f.Mono d) (J:bP d v u) {K:bK->St->Option R} (h:(match gc A v st1 with|some p=>pop p (K v)|none=>a7)=a6 r):
  ∃c' q,K v q=a6 r/\iM W0 b0 rd c' q a ats/\bP c' v u/\f.Mono c'/\c'.w=d.w:=by
 have i:iM W0 0 a7 d st1 ⟨#[],[]⟩ (a.tmps::ats):=⟨D,E,B,by rw[G];simp[bH],I,⟨[],rfl,List.nodup_nil,fun r i=>by simp at i⟩,fun l j=>by cases j⟩;split at h
 .rename_i p M
  obtain⟨N,e,O,s,S,Z,_⟩:=i.gc J M;obtain⟨fr,stk,U,h⟩:=atn h;have m:=e.stk;rw[U]at m;refine⟨N,_,h,⟨e.hp,e.nxt,e.ok,m.1,m.2, ?_,fun l j=> ?_⟩,O,g.trans s,S⟩
  .obtain⟨V,W,X,y⟩:=o.df;exact⟨V,W,X,fun x z=>⟨s.mks x (g.mks x (y x z).1),(y x z).2⟩⟩
  .obtain⟨L,Y⟩:=o.rd l j;obtain⟨L1,ab⟩:=g.lp l L Y;simp_all
 .cases h
theorem amF (hT:TOk P T) (hm:P.follows .mixedOrders=true) (ab:Jc P) {E:Env} (ad:E.P=P) (U:E.T=T) (s:xe P E) (ag:sU P E) (av:aeN E) {m:Nat} (g: ∀(R:Type) (W0:World),vF P W0 (kK E m (R:=R))/\DF P W0 (kK E m (R:=R))):
  vF P W0 (kK E (m+1) (R:=R)):=by
 intro f B st K r h b0 rd c a ats D d ah M hR;simp only[kK]at h;rw[ad]at h;split at h
 .cases h
 .rename_i fn N
  split at h
  .cases h
  .rename_i V o
   rw[cond_eq_ite]at h;split at h
   .rename_i ai
    have ai:B.length<=fn.ntmps:=by simp_all
    have aw:B.length=D.size:=by simpa using bH.length _ _ ah
    refine⟨qQ ab N o D c.w, ?_⟩;refine(callsIn_wide (n:=0)).1 (callsIn_of_wp_marks (F:=Fence.wide) (n:=0) N o trivial ?_);have aj:iM W0 c.w.heap.size a7 c {fr:=B++List.replicate (fn.ntmps-B.length) (.tup []),stk:=st.fr::st.stk,hp:=st.hp,nxt:=st.nxt} {tmps:=D++Array.replicate (fn.ntmps-D.size) undef,defers:=[]} (a.tmps::ats):=by
     refine⟨d.hp,d.nxt,d.ok, ?_,⟨d.fr,d.stk⟩,⟨[],rfl,List.nodup_nil,fun r d=>by simp at d⟩,fun l hl=>by cases hl⟩
     grind [bH.append_arr,Array.toList_replicate,Hm]
    refine Nj (rd:=a7) hT hm (n:=0) (E:=E.at m) U (kQ (E:=E.at m) (s.at m) (g R W0).1 (g R W0).2 0) (DJ (E:=E.at m) (s.at m) fun W=>(g bK W).1) (g R W0).1 (kQ (E:=E.at m) (s.at m) (g St W0).1 (g St W0).2 0) (kQ (E:=E.at m) (s.at m) (g Unit W0).1 (g Unit W0).2 0) (abM (E:=E.at m) (s.at m)) V (ag f fn V N o R m) _ _ c _ _ h aj (ae _) fun e O y S G p q=> ?_;have X:(sJ E.T y fn.results.toList fun z=>
       let v:=match z with
        |[v]=>v
        |z=>.tup z
       match gc (bif E.cl then st.nxt else 1000000*y.stk.length) v {y with fr:=[]}with
       |some ak=>pop ak (K v)
       |none=>a7)=a6 r->LeavesInM Fence.wide 0 P fn S.tmps M S.defers .returning O.w:=by
     intro Y;obtain⟨ds,d1,d2,Z⟩:=p.df;obtain⟨c2,e1,e2,I,e4,e5,e6,e7,al,e8⟩:=UI (n:=0) (P:=P) (fn:=fn) (tmps:=S.tmps) (Rr:=M) ds O p.ok d2 fun x J=>(Z x J).1;rw[d1];refine e8 ?_;rw[U]at Y;obtain⟨z,us,h3,h4,h5⟩:=zX hT e4 (e1.trans p.hp) (bH.le0 I _ _ p.fr) _ _ Y;have an:c.Mono c2:=by
      refine⟨fun x J=>e5 x (q.mks x J) fun hd=> ?_,fun b L hL=> ?_,aG q.size e7,al.trans q.bar,fun b o=>⟨(I.out b (q.out b o).1).1,(I.out b (q.out b o).1).2.trans (q.out b o).2⟩⟩
      .have h6:=(Z x hd).2;have h7:=d.ok.mark_lt J;omega
      .obtain⟨L1,ao⟩:=q.lp b L hL;exact e6 b L1 ao
     obtain⟨c3,ax,k1,k2,k3,k4,k5⟩:=DI (v:=MZ z) (u:=O5 us) d e4 (st1:={y with fr:=[]}) (e1.trans p.hp) (e2.trans p.nxt) rfl (by
      have: ∀(A:List (List bK)) (j:List (Array Value)),Dl O A j->Dl c2 A j:=fun A=>by
       induction A with
       |nil=>intro j h;cases j with
        |nil=>trivial
        |cons _ _=>exact h.elim
       |cons f A au=>intro j h;cases j with
        |nil=>exact h.elim
        |cons t j=>exact⟨bH.le0 I _ _ h.1,au j h.2⟩
      exact this _ _ p.stk) an (Bc h4) (K:=K) h3
     refine⟨O5 us,ad3 h5, ?_⟩
     grind
    cases e with
    |normal=>exact X G
    |ret=>exact X G
    |exit i=>cases G
    |goto l=>cases G
   .cases h
theorem Ex.code_none {e:Ex} (h:e≠ .normal):e.code.isNone=false:=by cases e<;>first|exact absurd rfl h|rfl
theorem afv (hT:TOk P T) (hm:P.follows .mixedOrders=true) (bC:Jc P) {E:Env} (cb:E.P=P) (aU:E.T=T) (X:xe P E) (cc:sU P E) (av:aeN E) {m:Nat} (g: ∀(R:Type) (W0:World),vF P W0 (kK E m (R:=R))/\DF P W0 (kK E m (R:=R))):
  DF P W0 (kK E (m+1) (R:=R)):=by
 intro id ai st K r h b0 rd c a ats aj o aw;simp only[kK]at h;split at h
 .rename_i f ak ps jk Y d hg
  refine⟨⟨f,ak,ps,jk,Y,d,0,a7,hg⟩,fun Rr hR n=> ?_⟩;rw[cond_eq_ite]at h;split at h
  .rename_i ax
   have ax:ai.length=ps.length:=by simpa using ax
   have cd:ai.length=aj.size:=by simpa using bH.length _ _ aw
   have ay:dM c.hp id=a6 (.lp f ak ps jk Y d 0 a7):=by rw[o.hp];exact hg
   obtain⟨az,hB,L,hL,hv,q1,q2,q3,q4,q5⟩:=o.ok.obj id _ ay;have p:xe P ((E.at m).keyed d):=by
    cases d with
    |none=>exact⟨X.T,X.x,X.b,X.v,X.q⟩
    |some k=>exact X.at m
   have aA:((E.at m).keyed d).T=T:=by cases d<;>exact aU
   have⟨aV,aW⟩:jl ((E.at m).keyed d) (kK E m (R:=R)) (VS E m) f jk/\jl ((E.at m).keyed d) (kK E m (R:=R)) (VS E m) f Y:=by
    cases d with
    |none=>exact⟨iJ (fun _=>rfl) (fun _=>rfl) _,iJ (fun _=>rfl) (fun _=>rfl) _⟩
    |some k=>exact⟨(av f k jk Y (az k rfl)).1 R m,(av f k jk Y (az k rfl)).2 R m⟩
   have aX:aj.size=L.params.size:=by
    grind
   refine⟨_,_,_,_,run_yield hL aX, ?_⟩;refine roundIn_of_wpIn trivial ?_;rw[q2,q3];have aY:bP c (.yld id) (.func (.yield (c.mu id).blk) #[] #[]):=by
    simp only[bP];exact⟨rfl,.inl ⟨_,ay⟩,fun _ _ _ _ _ _ _ _ _=>by simp⟩
   have aZ:iM W0 c.w.heap.size (a6 (c.mu id).blk) c {fr:=wP ak ps ai,stk:=[.yld id]::st.fr::st.stk,hp:=st.hp,nxt:=st.nxt} {tmps:=(L.params.zip aj).foldl (fun aB (t,a)=>aB.setIfInBounds t a) L.tmps,defers:=[]} (#[.func (.yield (c.mu id).blk) #[] #[]]::a.tmps::ats):=by
    refine⟨o.hp,o.nxt,o.ok, ?_,⟨by simpa [bH] using aY,o.fr,o.stk⟩,⟨[],rfl,List.nodup_nil,fun r o=>by simp at o⟩,fun l hl=>by simp_all⟩;have:=HY ps ak ai aj.toList L.tmps hv aw
    grind [Array.toList_zip]
   refine Nj (rd:=a6 (c.mu id).blk) hT hm (E:=(E.at m).keyed d) aA (kQ (E:=(E.at m).keyed d) p (g R W0).1 (g R W0).2 n) (DJ (E:=(E.at m).keyed d) p fun W=>(g bK W).1) (g R W0).1 (kQ (E:=(E.at m).keyed d) p (g St W0).1 (g St W0).2 n) (kQ (E:=(E.at m).keyed d) p (g Unit W0).1 (g Unit W0).2 n) (abM p) jk aV _ _ c _ _ h aZ (ae _) fun e c1 Z a1 z s bf=> ?_;cases e with
   |normal=>
    split at z
    .rename_i ao ch _ bg
     split at z
     .rename_i f1 aF aH aI aJ aK bi
      have y:=s.stk;rw[bg]at y;obtain⟨aO,_⟩:=y;simp only[bH,and_true]at aO;have au:=bi;rw[<-s.hp]at au;obtain⟨cn,cv,L1,bn,dd,p1,p2,p3,p4,p5⟩:=s.ok.obj ao _ au;simp only[bP]at aO;have dl:(c.mu id).blk=(c1.mu ao).blk:=by simp_all
      obtain⟨c2,e1,e2,e3,e4,e5,e6⟩:=IX s.ok au bn {L1 with state:=.busy} (o':=.lp f1 aF aH aI aJ aK 2 a7) (.inr ⟨2,a7,rfl,rfl,rfl,rfl,rfl,rfl⟩);simp only[Ex.xt,Exit.then];refine⟨c2.w, ?_, ?_⟩
      .simp_all [run_beginRound]
      have ag:c.Mono c2:=bf.trans e3.mono;have bt:iM W0 c.w.heap.size (a6 (c.mu id).blk) c2 {Z with hp:=iT Z.hp ao (.lp f1 aF aH aI aJ aK 2 a7)} a1 (#[.func (.yield (c.mu id).blk) #[] #[]]::a.tmps::ats):=
       ⟨e1.trans (by rw[s.hp]),e2.trans s.nxt,e4,bH.le e3 _ _ s.fr,Dl.le e3 _ _ s.stk,let⟨ds,d1,d2,d3⟩:=s.df;⟨ds,d1,d2,fun x hx=>⟨e3.mks x (d3 x hx).1,(d3 x hx).2⟩⟩,fun l hl=>let⟨L,hL⟩:=s.rd l hl;e3.lp l L hL⟩
      refine Nj (rd:=a6 (c.mu id).blk) hT hm (E:=(E.at m).keyed d) aA (kQ (E:=(E.at m).keyed d) p (g R W0).1 (g R W0).2 n) (DJ (E:=(E.at m).keyed d) p fun W=>(g bK W).1) (g R W0).1 (kQ (E:=(E.at m).keyed d) p (g St W0).1 (g St W0).2 n) (kQ (E:=(E.at m).keyed d) p (g Unit W0).1 (g Unit W0).2 n) (abM p) Y aW _ _ c2 _ _ z bt ag.size fun e c3 A a3 B j al=> ?_;refine aa7 ?_;split at B
      .rename_i ab an bu
       split at B
       .rename_i D G I J M N bz
        have y:=j.stk;rw[bu]at y;obtain⟨aP,y⟩:=y;simp only[bH,and_true]at aP;have ad:=bz;rw[<-j.hp]at ad;obtain⟨dT,ea,L3,ah,ee,w1,w2,w3,w4⟩:=j.ok.obj ab _ ad;simp only[bP]at aP;have aQ:(c.mu id).blk=(c3.mu ab).blk:=by simp_all
        have aS:=run_endRound (P:=P) (w:=c3.w) e.code ah;rw[<-aQ]at aS;refine⟨_,_,aS, ?_⟩;rw[aQ];cases e with
        |normal=>
         obtain⟨O,g1,g2,g3,g4,g5,g6⟩:=IX j.ok ad ah {L3 with state:=.ready,pending:=a7} (o':=.lp D G I J M N 0 a7) (.inr ⟨0,a7,rfl,⟨rfl,rfl⟩,rfl,rfl,rfl,rfl⟩);have S:c.Mono O:=(ag.trans al).trans g3.mono;obtain⟨U,V,k1,k2,k3,k4,k5⟩:=DI (v:=.undef) (u:=undef) o g4 (st1:={A with fr:=[],stk:=an,hp:=iT A.hp ab (.lp D G I J M N 0 a7)}) (g1.trans (by rw[j.hp])) (g2.trans j.nxt) rfl (Dl.le g3 _ _ y) S (by simp[bP]) (K:=fun _=>K (.val .bool true)) B;have:=hR U (.val .bool true) (.bool true) V k1 k2 (by simp only[bP];exact VD.bool_mk) k4;rw[k5,g5]at this;exact this
        |exit i=>
         obtain⟨O,g1,g2,g3,g4,g5,g6⟩:=IX j.ok ad ah {L3 with state:=.done,pending:=a6 (.exit i)} (o':=.lp D G I J M N 1 (a6 (.exit i))) (.inr ⟨1,a6 (.exit i),rfl,⟨rfl,rfl,by simp[Ex.code]⟩,rfl,rfl,rfl,rfl⟩);have S:c.Mono O:=(ag.trans al).trans g3.mono;obtain⟨U,V,k1,k2,k3,k4,k5⟩:=DI (v:=.undef) (u:=undef) o g4 (st1:={A with fr:=[],stk:=an,hp:=iT A.hp ab (.lp D G I J M N 1 (a6 (.exit i)))}) (g1.trans (by rw[j.hp])) (g2.trans j.nxt) rfl (Dl.le g3 _ _ y) S (by simp[bP]) (K:=fun _=>K (.val .bool false)) B;have:=hR U (.val .bool false) (.bool false) V k1 k2 (by simp only[bP];exact VD.bool_mk) k4;rw[k5,g5]at this;exact this
        |goto l=>
         obtain⟨O,g1,g2,g3,g4,g5,g6⟩:=IX j.ok ad ah {L3 with state:=.done,pending:=a6 (.goto l)} (o':=.lp D G I J M N 1 (a6 (.goto l))) (.inr ⟨1,a6 (.goto l),rfl,⟨rfl,rfl,by simp[Ex.code]⟩,rfl,rfl,rfl,rfl⟩);have S:c.Mono O:=(ag.trans al).trans g3.mono;obtain⟨U,V,k1,k2,k3,k4,k5⟩:=DI (v:=.undef) (u:=undef) o g4 (st1:={A with fr:=[],stk:=an,hp:=iT A.hp ab (.lp D G I J M N 1 (a6 (.goto l)))}) (g1.trans (by rw[j.hp])) (g2.trans j.nxt) rfl (Dl.le g3 _ _ y) S (by simp[bP]) (K:=fun _=>K (.val .bool false)) B;have:=hR U (.val .bool false) (.bool false) V k1 k2 (by simp only[bP];exact VD.bool_mk) k4;rw[k5,g5]at this;exact this
        |ret=>
         obtain⟨O,g1,g2,g3,g4,g5,g6⟩:=IX j.ok ad ah {L3 with state:=.done,pending:=a6 (.ret)} (o':=.lp D G I J M N 1 (a6 .ret)) (.inr ⟨1,a6 .ret,rfl,⟨rfl,rfl,by simp[Ex.code]⟩,rfl,rfl,rfl,rfl⟩);have S:c.Mono O:=(ag.trans al).trans g3.mono;obtain⟨U,V,k1,k2,k3,k4,k5⟩:=DI (v:=.undef) (u:=undef) o g4 (st1:={A with fr:=[],stk:=an,hp:=iT A.hp ab (.lp D G I J M N 1 (a6 .ret))}) (g1.trans (by rw[j.hp])) (g2.trans j.nxt) rfl (Dl.le g3 _ _ y) S (by simp[bP]) (K:=fun _=>K (.val .bool false)) B;have:=hR U (.val .bool false) (.bool false) V k1 k2 (by simp only[bP];exact VD.bool_mk) k4;rw[k5,g5]at this;exact this
       .cases B
      .cases B
     .cases z
    .cases z
   |exit i=>simp at z
   |goto l=>simp at z
   |ret=>simp at z
  .cases h
 .cases h
theorem Ip (hT:TOk P T) (d:P.follows .mixedOrders=true) (e:Jc P) {E:Env} (g:E.P=P) (i:E.T=T) (j:xe P E) (l:sU P E) (o:aeN E): ∀(m:Nat) (R:Type) (W0:World),vF P W0 (kK E m (R:=R))/\DF P W0 (kK E m (R:=R))
 |0,R,W0=>⟨fun f p st K r h=>by simp[kK]at h,fun id p st K r h=>by simp[kK]at h⟩
 |m+1,R,W0=>⟨amF hT d e g i j l o (Ip hT d e g i j l o m),afv hT d e g i j l o (Ip hT d e g i j l o m)⟩
end
end
section
open Option renaming some → a6, none → a7
open Bool renaming and_eq_true → af
open List renaming mem_cons_of_mem → au
open Nat renaming le_refl → ae
open Go.RowKit
def o8 (c:Cx):(d:List Ty)->(d.foldr Ty.pair Ty.unit).den->List Value->Prop
 |[],_,us=>us=[]
 |t::d,x,us=> ∃u e,us=u::e/\VD c t x.1 u/\o8 c d x.2 e
def jM (w:World) (d:Nat->Prop):Cx:=⟨fun _=>⟨0,undef⟩,[],0,w,[],d⟩
def F6 (rs:List (Ty×Bool)) (y:((rs.map (·.1)).foldr Ty.pair Ty.unit).den):gG:=
 match yM rs y with
 |some ⟨e,d⟩=>[(0,.arr e 0 d)]
 |none=>[]
def vG (w:World) (f:Nat->Prop) (rs:List (Ty×Bool)) (y:((rs.map (·.1)).foldr Ty.pair Ty.unit).den):Ending->World->Prop:=fun e g=>
 ∃(d:Cx) (us:List Value),e=.returned (O5 us)/\d.w=g/\d.Ok w/\d.bar=f/\d.mks=[]/\d.hp=F6 rs y/\bH d (ou 0 rs y) us
def dK (P:Program) (g:FuncId) (s:Sum):Prop:=
 ∀(w:World) (e:Nat->Prop) (d:Array Value) x y,Phi w->(∀b,e b->b<w.heap.size)->o8 (jM w e) s.ps x d.toList->s.f x=a6 y->
  ((callFunc g d).run P w=.ok (.enter g d) w/\Calls P g d w (vG w e s.rs y))\/ ∃u,(callFunc g d).run P w=.ok (.value u) w/\vG w e s.rs y (.returned u) w
section
variable {P:Program} {T:TT} {W0:World} {b0:Nat} {rd:Option Nat} {R:Type} {r:R} {c:Cx} {ats:List (Array Value)}
theorem Ig {w:World} {d:Nat->Prop} {b:Nat}:(jM w d).free b↔b<w.heap.size/\ ¬d b:=by
 constructor
 .intro h;exact⟨h.1,h.2.2.2⟩
 .rintro ⟨e,f⟩;exact⟨e,(by rintro ⟨i,o,h,_⟩;simp[jM,dM]at h),by simp[jM],f⟩
theorem ahw (q:c.Ok W0) {cb:Cx} (i:aoI c cb) {t:Ty} {v:bK} {x:t.den} {u:Value} (h:v.as c.hp t=a6 x) (d:bP c v u):VD cb t x u:=by
 have m: ∀{t:Ty} {x:t.den} {u:Value},VD c t x u->VD cb t x u:=fun {t x u} d=>
  ⟨fun e=>let⟨cs,f,j⟩:=d.1 e;⟨cs,f,fB.mono (fun b g=>i b g.1) t x _ j⟩,fun e=>fB.mono (fun b g=>i b g.1) t x _ (d.2 e)⟩
 cases v with
 |val t' z=>
  grind [bK.as,iI,gB,bP]
 |nils=>
  cases t with
  |list e=>grind [FB]
  |_=>simp[bK.as]at h
 |lst t' z b=>
  simp only[bK.as]at h;have e:=iI h;subst e;simp_all [gB,bP]
 |emp=>
  cases t with
  |list e=>grind [FB]
  |_=>simp[bK.as]at h
 |slc id ver s=>
  cases t with
  |list e=>grind [FB]
  |_=>simp[bK.as]at h
 |agg l=>
  simp only[bK.as]at h;rw[cond_eq_ite]at h;split at h
  .rename_i o
   simp only[bP]at d;obtain⟨p,rfl,f,j⟩:=d;exact m ((VD.agg o).2 ⟨p,rfl,oL h f⟩)
  .cases h
 |_=>simp[bK.as]at h
theorem Je {cb:Cx} (f: ∀b,c.free b->cb.free b/\cb.w.heap[b]? =c.w.heap[b]?) {t:Ty} {v:bK} {x:t.den} {u:Value} (j:mQ v=false) {hp:gG} (h:v.as hp t=a6 x) (d:bP c v u):VD cb t x u:=by
 cases v with
 |val t' z=>
  simp only[bK.as]at h;have e:=iI h;subst e;rw[gB]at h;cases h;simp only[bP]at d;exact⟨fun e=>let⟨cs,g,i⟩:=d.1 e;⟨cs,g,fB.mono f t' _ _ i⟩,fun e=>fB.mono f t' _ _ (d.2 e)⟩
 |nils=>
  cases t with
  |list e=>
   simp only[bK.as,Option.some.injEq]at h;subst h;simp only[bP]at d;subst d;exact(VD.leaf rfl).2 ⟨a7,0,[],rfl,ae _,rfl,.inl rfl⟩
  |_=>simp[bK.as]at h
 |lst t' z b=>
  simp only[bK.as]at h;have e:=iI h;subst e;rw[gB]at h;cases h;simp only[bP]at d;exact⟨fun e=>let⟨cs,g,i⟩:=d.1.1 e;⟨cs,g,fB.mono f _ _ _ i⟩,fun e=>fB.mono f _ _ _ (d.1.2 e)⟩
 |emp=>
  cases t with
  |list e=>
   simp only[bK.as,Option.some.injEq]at h;subst h;simp only[bP]at d;obtain⟨a,rfl⟩:=d;exact(VD.leaf rfl).2 ⟨a,0,[],rfl,ae _,rfl,.inl rfl⟩
  |_=>simp[bK.as]at h
 |slc id ver m=>simp[mQ]at j
 |agg l=>simp[mQ]at j
 |_=>simp[bK.as]at h
theorem Ah {cb:Cx} {hp:gG}: ∀(e:List Ty) (args:List bK) x (us:List Value),Ag hp e args=a6 x->bH c args us->
  (∀(t:Ty) (v:bK) (x:t.den) (u:Value),v∈args->v.as hp t=a6 x->bP c v u->VD cb t x u)->o8 cb e x us
 |[],[],x,[],h,_,_=>rfl
 |t::e,v::args,x,u::us,h,d,f=>by
  simp only[Ag]at h;split at h
  .rename_i g i
   split at h
   .rename_i j l
    cases h;simp only[bH]at d;exact⟨u,us,rfl,f t v g u (by simp) i d.1,Ah e args j us l d.2 fun t v x u m=>f t v x u (au _ m)⟩
   .cases h
  .cases h
 |[],[],_,_::_,_,d,_=>by simp[bH]at d
 |[],_::_,_,_,h,_,_=>by simp[Ag]at h
 |_::_,[],_,_,h,_,_=>by simp[Ag]at h
 |_::_,_::_,_,[],_,d,_=>by simp[bH]at d
theorem VD.move {c' c2:Cx} (f:c2.w=c'.w) {t:Ty} {x:t.den} {u:Value} (h:(∀b,c'.free b->c2.free b)\/t.rigid=true) (g:VD c' t x u):VD c2 t x u:=by
 rcases h with h|h
 .exact⟨fun e=>let⟨cs,i,j⟩:=g.1 e;⟨cs,i,fB.mono (fun b d=>⟨h b d,by rw[f]⟩) t x _ j⟩,fun e=>fB.mono (fun b d=>⟨h b d,by rw[f]⟩) t x _ (g.2 e)⟩
 simp_all [VD.rigid]
theorem gp.move {c' c2:Cx} (f:c2.w=c'.w) {e:Ty} {xs:List e.den} {d:List Value} (h:(∀b,c'.free b->c2.free b)\/e.rigid=true) (g:gp (fB c'.w c'.free e) e.size xs d):gp (fB c2.w c2.free e) e.size xs d:=by
 grind [gp.mono,fB.mono,uJ]
theorem GI {c' c2:Cx} (f:c2.w=c'.w) (id:Nat): ∀(rs:List (Ty×Bool)) y (us:List Value),(∀t∈rs,(∀b,c'.free b->c2.free b)\/t.1.rigid=true\/t.2=true)->
  (news rs=0\/ ∀u,bP c' (.slc 0 0 a7) u->bP c2 (.slc id 0 a7) u)->bH c' (ou 0 rs y) us->bH c2 (ou id rs y) us
 |[],y,[],_,_,_=>by simp[ou,bH]
 |[],y,_::_,_,_,d=>by assumption
 |(t,false)::rs,y,us,h,e,d=>by
  cases us with
  |nil=>assumption
  |cons u us=>
   simp only[ou,bH,bP]at d ⊢;refine⟨VD.move f ?_ d.1,GI f id rs y.2 us (fun t g=>h t (au _ g)) e d.2⟩;simp_all
 |(t,true)::rs,y,us,h,e,d=>by
  cases us with
  |nil=>assumption
  |cons u us=>
   simp only[ou,bH]at d ⊢;rcases e with e|e
   .simp[news]at e
   .exact⟨e u d.1,GI f id rs y.2 us (fun t g=>h t (au _ g)) (.inr e) d.2⟩
theorem aeE {c':Cx}: ∀(rs:List (Ty×Bool)) y (us:List Value),news rs≠0->bH c' (ou 0 rs y) us-> ∃u,bP c' (.slc 0 0 a7) u
 |[],y,us,h,_=>by simp[news]at h
 |(t,false)::rs,y,us,h,d=>by
  cases us with
  |nil=>simp[ou,bH]at d
  |cons u us=>
   simp only[ou,bH]at d;exact aeE rs y.2 us (by simpa [news] using h) d.2
 |(t,true)::rs,y,us,h,d=>by
  cases us with
  |nil=>simp[ou,bH]at d
  |cons u us=>
   grind [ou,bH]
theorem Ou: ∀(rs:List (Ty×Bool)) y {e:Ty} {xs:List e.den},yM rs y=a6 ⟨e,xs⟩->(rs.all fun r=>r.1.rigid||(r.2&&r.1.elem.rigid))=true->e.rigid=true
 |[],y,e,xs,h,_=>by simp[yM]at h
 |(t,false)::rs,y,e,xs,h,d=>by
  simp only[yM]at h;simp only[List.all_cons,af]at d;exact Ou rs y.2 h d.2
 |(t,true)::rs,y,e,xs,h,d=>by
  cases t with
  |list f=>
   simp only[yM,Option.some.injEq,Sigma.mk.injEq]at h;obtain⟨rfl,_⟩:=h;simp_all [Ty.rigid,Ty.elem]
  |_=>simp[yM]at h
theorem avp {c':Cx} (d:c.Ok W0) (m:c'.Ok c.w) (f:c'.bar=fun b=>b<c.w.heap.size/\ ¬c.free b) {b:Nat} (hb:c'.free b):(c.at_ c'.w).free b:=by
 refine⟨hb.1, ?_⟩;by_cases hlt:b<c.w.heap.size
 .have e:=hb.2.2.2;rw[f]at e;have g:c.free b:=Classical.byContradiction fun h=>e ⟨hlt,h⟩;exact g.2
 .refine⟨fun i=>hlt (d.own_lt i).2,fun j=>hlt (d.mark_lt j),fun l=>hlt (d.bar b l).1⟩
theorem aeB {s:Sum} {cl:Bool} {args:List bK} {dst:Option Nat} {st:St} {K:bK->St->Option R} (h:s.call cl args dst st K=a6 r):
    ((s.rs.all fun r=>r.1.rigid||(r.2&&r.1.elem.rigid))=true\/args.any mQ=false)/\ ∃x y,Ag st.hp s.ps args=a6 x/\s.f x=a6 y/\
      ((yM s.rs y=a7/\news s.rs=0/\K (MZ (ou 0 s.rs y)) st=a6 r)\/
       (∃e xs id n',yM s.rs y=a6 ⟨e,xs⟩/\news s.rs=1/\dM st.hp id=a7/\st.nxt<=id/\st.nxt<=n'/\K (MZ (ou id s.rs y)) {st with hp:=(id,.arr e 0 xs)::st.hp,nxt:=n'}=a6 r)):=by
  unfold Sum.call at h;rw[cond_eq_ite]at h;split at h
  . rename_i d
    refine⟨by simpa using d, ?_⟩;split at h
    . rename_i x g
      cases hy:s.f x with
      |none=>rw[hy]at h;cases h
      |some y=>
        rw[hy]at h;simp only[bF]at h;refine⟨x,y,g,hy, ?_⟩;split at h
        . simp_all [cond_eq_ite]
        . rename_i e xs i
          rw[cond_eq_ite]at h;split at h
          . rename_i j
            obtain⟨id,n',l,m,o,p⟩:=jc h;exact .inr ⟨e,xs,id,n',i,by simpa using j,l,m,o,p⟩
          . cases h
    . cases h
  . cases h
end
end
section
open Option renaming some → a6, none → a7
open Bool renaming and_eq_true → af
open List renaming map_cons → ak, mem_cons_of_mem → au, mem_append_right → bu
open Nat renaming le_refl → ae, eq_of_beq_eq_true → aj, le_trans → aG, lt_of_lt_of_le → aZ
open Go.RowKit
section
variable {P:Program} {T:TT} {W0:World} {b0:Nat} {rd:Option Nat} {R:Type} {r:R} {c:Cx} {ats:List (Array Value)}
theorem Cx.many {c2:Cx} (g:c.Ok W0) (S:Nat->Prop) (y:c2.mks=c.mks) (I:c2.bar=c.bar) (U:c2.nxt=c.nxt)
  (z: ∀i,¬S i->dM c2.hp i=dM c.hp i/\c2.mu i=c.mu i)
  (V: ∀i,S i-> ∃o o',dM c.hp i=a6 o/\dM c2.hp i=a6 o'/\o.like (c.mu i) o' (c2.mu i)/\ ∀f fr W jk X Y n p,o≠ .lp f fr W jk X Y n p)
  (Z:Below W0.heap.size W0 c2.w) (J:c.w.heap.size<=c2.w.heap.size)
  (A: ∀b,b<c.w.heap.size->(∀i o,S i->dM c.hp i=a6 o->o.blk (c.mu i)≠a6 b)->c2.w.heap[b]? =c.w.heap[b]?)
  (K: ∀i o' b,S i->dM c2.hp i=a6 o'->o'.blk (c2.mu i)=a6 b->c.w.heap.size<=b\/ ∃j o,S j/\dM c.hp j=a6 o/\o.blk (c.mu j)=a6 b)
  (ad: ∀i j o' h b,S i->S j->dM c2.hp i=a6 o'->dM c2.hp j=a6 h->o'.blk (c2.mu i)=a6 b->h.blk (c2.mu j)=a6 b->i=j)
  (ag: ∀(b:Nat) (L:Loop) (i:Nat) o,S i->dM c.hp i=a6 o->o.blk (c.mu i)=a6 b->c.w.heap[b]? ≠a6 (Obj.loop L)):
  c.Le c2/\((∀i o',S i->dM c2.hp i=a6 o'->c2.ORel W0.heap.size i o')->c2.Ok W0):=by
 have B:c.Le c2:=by
  refine⟨fun b e=>⟨⟨aZ e.1 J, ?_,by rw[y];exact e.2.2⟩,A b e.1 fun i o _ l d=>e.2.1 ⟨i,o,l,d⟩⟩,fun i x=> ?_,fun i o' x u=> ?_,fun r v=>by rw[y];exact v,fun b L hL=> ?_,J,I⟩
  .rintro ⟨i,o',l,d⟩;by_cases q:S i
   .rcases K i o' b q l d with m|⟨j,o,_,m,s⟩
    .have:=e.1;omega
    .exact e.2.1 ⟨j,o,m,s⟩
   .obtain⟨m,s⟩:=z i q;rw[m]at l;rw[s]at d;exact e.2.1 ⟨i,o',l,d⟩
  .by_cases q:S i
   .obtain⟨o,o',_,d,_⟩:=V i q;exact .inl ⟨o',d⟩
   .rcases x with ⟨o,u⟩|x
    .exact .inl ⟨o,by simp_all⟩
    .exact .inr (by rw[U];exact x)
  .by_cases q:S i
   .grind
   .obtain⟨m,s⟩:=z i q;rw[m]at u;exact⟨o',u,by rw[s];exact o'.like_refl _⟩
  grind
 refine⟨B,fun hO=>⟨Z,fun i o' u=> ?_,fun i j o' h b l d m s=> ?_,fun r v=> ?_,fun b e=> ?_,g.phi⟩⟩
 .by_cases q:S i
  .exact hO i o' q u
  .obtain⟨m,s⟩:=z i q;rw[m]at u;refine(g.obj i o' u).le B s fun b e=>A b ((g.obj i o' u).lt e).2 fun j o ah D E=> ?_;have:=g.inj j i o o' b D u E e;simp_all
 .have G: ∀i o' b,¬S i->dM c2.hp i=a6 o'->o'.blk (c2.mu i)=a6 b->dM c.hp i=a6 o'/\o'.blk (c.mu i)=a6 b:=fun i o' b q l d=>by
   simp_all
  have mixed: ∀i j o' h b,S i-> ¬S j->dM c2.hp i=a6 o'->dM c2.hp j=a6 h->o'.blk (c2.mu i)=a6 b->h.blk (c2.mu j)=a6 b->False:=fun i j o' h b l d m s D E=>by
   obtain⟨M,N⟩:=G j h b d s E;rcases K i o' b l m D with O|⟨k,o,hk,O,ab⟩
   .have:=((g.obj j h M).lt N).2;omega
   .have:=g.inj k j o h b O M ab N;simp_all
  by_cases x:S i<;>by_cases hj:S j
  .grind
  .grind
  .grind
  .obtain⟨q1,q2⟩:=G i o' b x l m;obtain⟨q3,q4⟩:=G j h b hj d s;exact g.inj i j o' h b q1 q3 q2 q4
 .rw[y]at v;exact⟨(g.mks r v).1,(A r (g.mark_lt v) fun i o q l d=>g.mark_own v ⟨i,o,l,d⟩).trans (g.mks r v).2⟩
 .rw[I]at e;exact(B.out b (g.bar b e)).1
theorem ayP {size:Nat} {s u:Value} {e:Option (Int×Int)} (h:ja size s e u) {b off n cp:Nat} (f:u=.slice (a6 ⟨b,off,a7⟩) n cp):s.ownBlock=a6 b:=by
 subst f;cases e with
 |none=>simp only[ja]at h;subst h;rfl
 |some p=>
  obtain⟨lo,i⟩:=p;simp only[ja]at h;obtain⟨a,m,q,rfl,_,_,_,g⟩:=h;have d:(a6 ⟨b,off,a7⟩:Option Addr)=if q=lo.toNat then a else a.map (·.add (lo.toNat*size)):=by injection g
  split at d
  .subst d;rfl
  .cases a with
   |none=>cases d
   |some a=>
    simp only[Option.map_some,Option.some.injEq]at d;have:=congrArg Addr.block d
    grind [Value.ownBlock,Addr.add]
theorem aeS (q:c.Ok W0) {cb:Cx} (g: ∀b,c.free b->cb.free b/\cb.w.heap[b]? =c.w.heap[b]?) {t:Ty} {v:bK} {x:t.den} {u:Value}
  (z: ∀id i m,v=.slc id i m-> ∀o b,dM c.hp id=a6 o->o.blk (c.mu id)=a6 b->cb.free b/\cb.w.heap[b]? =c.w.heap[b]?) (h:v.as c.hp t=a6 x) (d:bP c v u):VD cb t x u:=by
 cases hno:mQ v with
 |false=>exact Je g hno h d
 |true=>
  cases v with
  |slc id i m=>
   cases t with
   |list e=>
    obtain⟨a,cp,A,f,j,B⟩:=Un q h d;have D:=abf q h d f;have E: ∃t G,dM c.hp id=a6 (.arr t i G):=by
     simp only[bK.as,BI]at h
     grind
    obtain⟨O,S,s⟩:=E;simp only[bP]at d;have I:=(d.2.2 _ _ _ s).2 rfl;refine(VD.leaf rfl).2 ⟨a,cp,A,by rw[f],D,gp.mono (fB.mono g e) _ _ j,B.imp (fun h=>h) fun⟨b,p,y,U,V,J⟩=> ?_⟩;have W:=ayP I (b:=b) (off:=p) (n:=x.length) (cp:=cp) (by rw[f,y]);obtain⟨K,L⟩:=z id i m rfl _ b s (by assumption);exact⟨b,p,y,K,J.of_block L⟩
   |_=>simp[bK.as]at h
  |agg l=>
   simp only[bK.as]at h;replace h:=dB h;obtain⟨M,h⟩:=h;simp only[bP]at d;obtain⟨N,rfl,f,j⟩:=d;have:=(VD.agg M).2 ⟨N,rfl,oL h f⟩;exact⟨fun e=>let⟨cs,f,j⟩:=this.1 e;⟨cs,f,fB.mono g _ _ _ j⟩,fun e=>fB.mono g _ _ _ (this.2 e)⟩
  |_=>simp[mQ]at hno
theorem Ei: ∀{l:List Nat},Tu l=true->l.Nodup
 |[],_=>List.nodup_nil
 |i::l,h=>by
  simp only[Tu,af,Bool.not_eq_true']at h;refine List.nodup_cons.2 ⟨fun d=> ?_,Ei h.2⟩;have:YP l i=true:=List.any_eq_true.2 ⟨i,d,by simp⟩;simp_all
theorem WT {hp:gG} {b:Bool}: ∀(cs:List (Ty×Bool)) (cells:List bK) {x},jJ hp b cs cells=a6 x-> ∀n,(jb cs n).length=(oN cs cells).length:=by
 intro cs
 induction cs with
 |nil=>intro cells x h n;cases cells<;>rfl
 |cons tc cs f=>
  intro cells x h n;obtain⟨t,o⟩:=tc;cases cells with
  |nil=>simp_all [jJ]
  |cons v cells=>
   cases o with
   |false=>
    simp only[jJ]at h;rw[cond_eq_ite]at h
    grind [jb,oN]
   |true=>
    cases t with
    |list e=>
     cases v with
     |slc id ver d=>
      cases d with
      |none=>
       simp only[jJ]at h;split at h
       .replace h:=dB h;grind [jb,oN]
       .cases h
      |some p=>simp[jJ]at h
     |_=>simp[jJ]at h
    |_=>simp[jJ]at h
theorem Fe: ∀(cs:List (Ty×Bool)) (n:Nat),∀p∈jb cs n,n<=p.1
 |[],n,p,h=>by simp[jb]at h
 |(_,true)::cs,n,p,h=>by
  simp only[jb,List.mem_cons]at h;rcases h with rfl|h
  .exact ae _
  .exact aG (Nat.le_succ n) (Fe cs (n+1) p h)
 |(_,false)::cs,n,p,h=>Fe cs n p h
theorem vH: ∀(cs:List (Ty×Bool)) (n:Nat),((jb cs n).map (·.1)).Nodup
 |[],n=>List.nodup_nil
 |(_,true)::cs,n=>by
  simp only[jb,ak];refine List.nodup_cons.2 ⟨fun h=> ?_,vH cs (n+1)⟩;obtain⟨p,d,e⟩:=List.mem_map.1 h;have:=Fe cs (n+1) p d;omega
 |(_,false)::cs,n=>vH cs n
theorem WM {hp:gG} {b:Bool}: ∀(cs:List (Ty×Bool)) (cells:List bK) (d:List (Nat×Nat)) {x},jJ hp b cs cells=a6 x->d.length=(oN cs cells).length-> ∀g o,(g,o)∈ul cs d x->
  ∃(k i v j:Nat) (e:Ty) (xs:List e.den),(oN cs cells)[k]? =a6 (i,v)/\d[k]? =a6 (g,j)/\o=.arr e j xs/\dM hp i=a6 (.arr e v xs)/\(.list e,true)∈cs:=by
 intro cs
 induction cs with
 |nil=>simp_all [ul]
 |cons tc cs u=>
  intro cells d x h q g o f;obtain⟨t,y⟩:=tc;cases cells with
  |nil=>simp_all [jJ]
  |cons v cells=>
   cases y with
   |false=>
    simp only[jJ]at h;rw[cond_eq_ite]at h
    grind [oN,ul]
   |true=>
    cases t with
    |list e=>
     cases v with
     |slc id ver z=>
      cases z with
      |none=>
       simp only[jJ]at h;split at h
       .rename_i N s xs A
        replace h:=dB h;obtain⟨l,h⟩:=h;have l:s=ver:=by simpa using l
        subst l;split at h
        .rename_i B m
         split at h
         .rename_i O D
          cases h;have E:=iI m;cases E;rw[gB]at m;cases m;cases d with
          |nil=>simp[oN]at q
          |cons p d=>
           obtain⟨S,G⟩:=p;simp only[ul,List.mem_cons]at f;rcases f with f|f
           .cases f;exact⟨0,id,s,G,_,B,by simp[oN],by simp,rfl,A,by simp⟩
           .obtain⟨k,i,v,j,e,xs,I,J,K,L,M⟩:=u cells d D (by simpa [oN] using q) g o f;exact⟨k+1,i,v,j,e,xs,by simpa [oN] using I,by simpa using J,K,L,au _ M⟩
         .cases h
        .cases h
       .cases h
      |some p=>simp[jJ]at h
     |_=>simp[jJ]at h
    |_=>simp[jJ]at h
theorem Y1 {hp:gG} {b:Bool}: ∀(cs:List (Ty×Bool)) (cells:List bK) (d:List (Nat×Nat)) {x},jJ hp b cs cells=a6 x-> ∀(k i v f g:Nat),(oN cs cells)[k]? =a6 (i,v)->d[k]? =a6 (f,g)->
  ∃e xs,dM hp i=a6 (.arr e v xs)/\(f,dJ.arr e g xs)∈ul cs d x:=by
 intro cs
 induction cs with
 |nil=>simp_all [oN]
 |cons tc cs A=>
  intro cells d x h k i v f g o j;obtain⟨t,q⟩:=tc;cases cells with
  |nil=>simp_all [jJ]
  |cons u cells=>
   cases q with
   |false=>
    simp only[jJ]at h;rw[cond_eq_ite]at h
    grind [oN,ul]
   |true=>
    cases t with
    |list e=>
     cases u with
     |slc id ver s=>
      cases s with
      |none=>
       simp only[jJ]at h;split at h
       .rename_i B y xs D
        replace h:=dB h;obtain⟨l,h⟩:=h;have l:y=ver:=by simpa using l
        subst l;split at h
        .rename_i E m
         split at h
         .rename_i G I
          cases h;have z:=iI m;cases z;rw[gB]at m;cases m;cases d with
          |nil=>simp at j
          |cons p d=>
           obtain⟨J,K⟩:=p;cases k with
           |zero=>
            simp only[oN,List.getElem?_cons_zero,Option.some.injEq,Prod.mk.injEq]at o j;obtain⟨rfl,rfl⟩:=o;obtain⟨rfl,rfl⟩:=j
            grind [ul]
           |succ k=>
            grind [oN,ul]
         .cases h
        .cases h
       .cases h
      |some p=>simp[jJ]at h
     |_=>simp[jJ]at h
    |_=>simp[jJ]at h
theorem ab7 {c':Cx} {b:Bool}: ∀(cs:List (Ty×Bool)) (cells:List bK) (f:List (Nat×Nat)) {x} (vs:List Value),jJ c.hp b cs cells=a6 x->bH c cells vs->f.length=(oN cs cells).length->
  (∀(k i v l m:Nat),(oN cs cells)[k]? =a6 (i,v)->f[k]? =a6 (l,m)-> ∀e xs,dM c.hp i=a6 (.arr e v xs)->dM c'.hp l=a6 (.arr e m xs)/\(c'.mu l).v=(c.mu i).v)->
  (∀t v x u,(t,false)∈cs->(b=true->mQ v=false\/t.rigid=true)->(∀i∈refs v,i∈ut cs cells)->v.as c.hp t=a6 x->bP c v u->VD c' t x u)->bH c' (GM cs f x) vs:=by
 intro cs
 induction cs with
 |nil=>
  grind [GM,bH,jJ]
 |cons tc cs A=>
  intro cells f x vs h o s g hd;obtain⟨t,I⟩:=tc;cases cells with
  |nil=>simp_all [jJ]
  |cons v cells=>
   cases vs with
   |nil=>simp[bH]at o
   |cons u vs=>
    simp only[bH]at o;cases I with
    |false=>
     simp only[jJ]at h;rw[cond_eq_ite]at h;split at h
     .cases h
     .rename_i S
      split at h
      .rename_i B q
       split at h
       .rename_i J y
        cases h;simp only[GM,bH,bP];refine⟨hd t v B u (by simp) (fun U=> ?_) (fun i g=>by simp[ut,g]) q o.1,A cells f vs y o.2 (by simpa [oN] using s) (fun k i v l m d j=>g k i v l m (by simpa [oN] using d) j) fun t v x u d j D=>hd t v x u (au _ d) j fun i g=>by simp[ut,D i g]⟩
        grind
       .cases h
      .cases h
    |true=>
     cases t with
     |list e=>
      cases v with
      |slc id ver K=>
       cases K with
       |none=>
        simp only[jJ]at h;split at h
        .rename_i V E xs L
         replace h:=dB h;obtain⟨z,h⟩:=h;have z:E=ver:=by simpa using z
         subst z;split at h
         .rename_i B q
          split at h
          .rename_i J y
           cases h;have M:=iI q;cases M;rw[gB]at q;cases q;cases f with
           |nil=>simp[oN]at s
           |cons p f=>
            obtain⟨N,O⟩:=p;simp only[GM,bH];obtain⟨d,j⟩:=g 0 id E N O (by simp[oN]) (by simp) _ _ L;refine⟨?_,A cells f vs y o.2 (by simpa [oN] using s) (fun k i v l m d j=>g (k+1) i v l m (by simpa [oN] using d) (by simpa using j)) fun t v x u d j D=>hd t v x u (au _ d) j fun i g=>by simp_all [ut]⟩;have G:=o.1;simp only[bP]at G ⊢;refine⟨G.1,.inl ⟨_,d⟩,fun t u W X=> ?_⟩;simp_all
          .cases h
         .cases h
        .cases h
       |some p=>simp[jJ]at h
      |_=>simp[jJ]at h
     |_=>simp[jJ]at h
theorem LM: ∀(cs:List (Ty×Bool)) (d:List (Nat×Nat)) (x),List.Sublist ((ul cs d x).map (·.1)) (d.map (·.1)):=by
 intro cs
 induction cs with
 |nil=>grind [ul]
 |cons tc cs f=>
  intro d x;obtain⟨t,o⟩:=tc;cases o with
  |false=>simp_all [ul]
  |true=>
   cases t with
   |list e=>
    cases d with
    |nil=>grind [ul]
    |cons p d=>
     simp_all [ul]
   |_=>simp_all [ul]
theorem Oa: ∀(h:gG) (i:Nat) (o:dJ),(h.map (·.1)).Nodup->(i,o)∈h->dM h i=a6 o
 |(k,p)::h,i,o,f,d=>by
  simp only[ak,List.nodup_cons]at f;rw[dY];rcases List.mem_cons.1 d with e|d
  .cases e;simp
  .have:k≠i:=fun e=>f.1 (e▸List.mem_map.2 ⟨_,d,rfl⟩);rw[aq this];exact Oa h i o f.2 d
theorem nX: ∀(l h:gG) (i:Nat),i∉l.map (·.1)->dM (Ob l h) i=dM h i
 |[],h,i,_=>rfl
 |(k,o)::l,h,i,d=>by
  simp only[ak,List.mem_cons,not_or]at d;simp only[Ob];rw[nX l _ i d.2,jf,aq (Ne.symm d.1)]
theorem D7: ∀(l h:gG) (i:Nat) (o:dJ),(l.map (·.1)).Nodup->(i,o)∈l->(dM h i).isSome=true->dM (Ob l h) i=a6 o
 |(k,p)::l,h,i,o,d,f,m=>by
  simp only[ak,List.nodup_cons]at d;simp only[Ob];rcases List.mem_cons.1 f with e|f
  .have g:=(Prod.mk.inj e).1;have j:=(Prod.mk.inj e).2;subst g j;rw[nX l _ i d.1,jf,am rfl];cases hg:dM h i with
   |none=>simp_all
   |some q=>rfl
  .refine D7 l _ i o d.2 f ?_
   grind [jf]
def Vr:List Nat->List Nat->(Nat->Loc)->(Nat->Loc)->Nat->Loc
 |a::e,j::f,d,m,i=>if a=i then d j else Vr e f d m i
 |_,_,_,m,i=>m i
theorem TZ {o m:Nat->Loc}: ∀(d f:List Nat) (k a j:Nat),d.Nodup->d[k]? =a6 a->f[k]? =a6 j->Vr d f o m a=o j
 |[],_,k,a,j,_,h,_=>by simp at h
 |_::_,[],k,a,j,_,_,h=>by simp at h
 |p::d,q::f,0,a,j,_,g,i=>by
  simp_all [Vr]
 |p::d,q::f,k+1,a,j,l,g,i=>by
  simp only[List.getElem?_cons_succ]at g i;simp only[List.nodup_cons]at l;have:p≠a:=fun e=>l.1 (e▸List.mem_of_getElem? g);simp only[Vr,aq this];exact TZ d f k a j l.2 g i
theorem Ua {f m:Nat->Loc}: ∀(d e:List Nat) (i:Nat),i∉d->Vr d e f m i=m i
 |[],_,i,_=>by simp[Vr]
 |_::_,[],i,_=>by simp[Vr]
 |a::d,j::e,i,h=>by
  simp only[List.mem_cons,not_or]at h;simp only[Vr,aq (Ne.symm h.1)];exact Ua d e i h.2
def ay1 (W0:World) (c:Cx) (s:fF) (z:((s.cs.map (·.1)).foldr Ty.pair Ty.unit).den×(s.rs.foldr Ty.pair Ty.unit).den):Ending->World->Prop:=fun e f=>
 ∃(d:Cx) (us:List Value) (cells:List bK),e=.returned (O5 us)/\d.w=f/\d.Ok W0/\c.Mono d/\dM d.hp 0=a6 (.box s.bt cells)/\(d.mu 0).blk=(c.mu 0).blk/\
  ((oN s.cs cells).map (·.1)).Nodup/\jJ d.hp true s.cs cells=a6 z.1/\o8 d s.rs z.2 us
def dI (P:Program) (g:FuncId) (s:fF):Prop:=
 ∀(W0:World) (c:Cx) x y z,c.Ok W0->c.mks=[]->c.nxt=0->c.hp=(0,.box s.bt (GM s.cs (jb s.cs 1) x))::ul s.cs (jb s.cs 1) x-> ∀d:Array Value,bH c (.ptr 0 0::Jq s.ps y) d.toList->s.f x y=a6 z->
  (callFunc g d).run P c.w=.ok (.enter g d) c.w/\Calls P g d c.w (ay1 W0 c s z)
theorem yz: ∀(cs:List (Ty×Bool)) (n:Nat),∀p∈jb cs n,p.2=0
 |[],n,p,h=>by simp[jb]at h
 |(_,true)::cs,n,p,h=>by
  simp only[jb,List.mem_cons]at h;rcases h with rfl|h
  .rfl
  .exact yz cs (n+1) p h
 |(_,false)::cs,n,p,h=>yz cs n p h
theorem LX: ∀(d:List Ty) x (us:List Value),o8 c d x us->bH c (Jq d x) us
 |[],x,us,h=>by
  simp_all [o8,Jq,bH]
 |t::d,x,us,h=>by
  obtain⟨u,e,rfl,f,g⟩:=h;simp only[Jq,bH,bP];exact⟨f,LX d x.2 e g⟩
theorem o8.move {c' c2:Cx} (e:c2.w=c'.w): ∀(d:List Ty) x (us:List Value),((∀b,c'.free b->c2.free b)\/d.all Ty.rigid=true)->o8 c' d x us->o8 c2 d x us
 |[],x,us,_,h=>h
 |t::d,x,us,f,h=>by
  obtain⟨u,g,rfl,i,j⟩:=h;refine⟨u,g,rfl,VD.move e (f.imp (fun h=>h) fun h=> ?_) i,o8.move e d x.2 g (f.imp (fun h=>h) fun h=> ?_) j⟩
  all_goals simp_all
theorem WV: ∀(l:List bK) (v:bK),v∈l-> ∀i∈refs v,i∈lF l
 |u::l,v,d,i,f=>by
  simp only[lF,List.mem_append];rcases List.mem_cons.1 d with e|d
  .simp_all
  .exact .inr (WV l v d i f)
theorem aGL {g:FuncId} {s:fF} (hs:dI P g s) {id:Nat} {qs:List bK} {st:St} {K:bK->St->Option R} (h:s.go id qs st K=a6 r) {a:Act} (hr:iM W0 b0 rd c st a ats) {us:Array Value} (hv:bH c (.ptr id 0::qs) us.toList)
  (Rr:Ending->World->Prop) (hR: ∀c' z u cn,K z cn=a6 r->iM W0 b0 rd c' cn a ats->bP c' z u->c.Mono c'->Rr (.returned u) c'.w):
  (callFunc g us).run P c.w=.ok (.enter g us) c.w/\Calls P g us c.w Rr:=by
 unfold fF.go at h;split at h<;>try (cases h;done)
 rename_i t cells ab
 replace h:=dB h;obtain⟨hc,h⟩:=h;simp only[af,Bool.or_eq_true,Bool.not_eq_true']at hc;obtain⟨ht,⟨ax,aV⟩,ay⟩:=hc;have ht:t=s.bt:=aj ht;subst ht;split at h<;>try (cases h;done)
 rename_i x hx
 split at h<;>try (cases h;done)
 rename_i y hy
 cases hz:s.f x y with
 |none=>rw[hz]at h;cases h
 |some z=>
 rw[hz]at h;simp only[bF]at h;rw[<-hr.hp]at ab hx hy;have ax:=Ei ax;have aV:=uF aV;generalize ag:oN s.cs cells=own at*;have V:=hr.ok;obtain⟨hB,vs,hw,eN,eO⟩:=V.obj id _ ab;have aB: ∀(k i v:Nat),own[k]? =a6 (i,v)-> ∃(e:Ty) (G:List e.den),dM c.hp i=a6 (.arr e v G):=fun k i v hk=>by
  obtain⟨e,G,d,_⟩:=Y1 s.cs cells own hx k i v i v (by rw[ag];exact hk) hk;exact⟨e,G,d⟩
 have az: ∀p∈own,∃k:Nat,own[k]? =a6 p:=fun p W=>List.getElem?_of_mem W;have cv:id∉own.map (·.1):=fun hm=>by
  obtain⟨p,W,rfl⟩:=List.mem_map.1 hm;obtain⟨k,hk⟩:=az p W;obtain⟨e,G,d⟩:=aB k p.1 p.2 hk;rw[ab]at d;cases d
 let S:Nat->Prop:=fun i=>i=id\/i∈own.map (·.1)
 have eR: ∀i,S i-> ∃o,dM c.hp i=a6 o/\ ∀f fr ps jk bd ky n p,o≠ .lp f fr ps jk bd ky n p:=fun i q=>by
  rcases q with rfl|q
  .exact⟨_,ab,by simp⟩
  .obtain⟨p,W,rfl⟩:=List.mem_map.1 q;obtain⟨k,hk⟩:=az p W;obtain⟨e,G,d⟩:=aB k p.1 p.2 hk;exact⟨_,d,by simp⟩
 let aA:Nat->Prop:=fun b=> ∃i o,S i/\dM c.hp i=a6 o/\o.blk (c.mu i)=a6 b
 have aW: ∀b,aA b->c.own b:=fun b ⟨i,o,_,d,l⟩=>⟨i,o,d,l⟩
 let I:Cx:=⟨fun k=>if k=0 then c.mu id else Vr ((jb s.cs 1).map (·.1)) (own.map (·.1)) c.mu c.mu k,(0,.box s.bt (GM s.cs (jb s.cs 1) x))::ul s.cs (jb s.cs 1) x,0,c.w,[],fun b=>s.rigid=false/\b<c.w.heap.size/\ ¬c.free b/\ ¬aA b⟩
 have aX:(jb s.cs 1).length=own.length:=by rw[<-ag];exact WT s.cs cells hx 1
 have ah: ∀(k i v M:Nat),own[k]? =a6 (i,v)->(jb s.cs 1)[k]? =a6 (M,0)->M≠0/\I.mu M=c.mu i:=fun k i v M d l=>by
  have N:=Fe s.cs 1 _ (List.mem_of_getElem? l);refine⟨by simp at N;omega, ?_⟩;have X:M≠0:=by simp at N;omega
  simp only[I,aq X];exact TZ _ _ k M i (vH s.cs 1) (by rw[List.getElem?_map,l];rfl) (by rw[List.getElem?_map,d];rfl)
 have aF: ∀(M:Nat) (o:dJ),dM I.hp M=a6 o->(M=0/\o=.box s.bt (GM s.cs (jb s.cs 1) x))\/
   ∃(k i v:Nat) (e:Ty) (G:List e.den),own[k]? =a6 (i,v)/\(jb s.cs 1)[k]? =a6 (M,0)/\o=.arr e 0 G/\dM c.hp i=a6 (.arr e v G):=fun M o m=>by
  simp only[I,dY]at m;split at m
  .rename_i e
   cases m;exact .inl ⟨e.symm,rfl⟩
  .right;obtain⟨k,i,v,v',e,G,D,B,Y,J,_⟩:=WM s.cs cells (jb s.cs 1) hx (by rw[ag];exact aX) M o (xy _ _ _ m);rw[ag]at D;have:=yz s.cs 1 _ (List.mem_of_getElem? B);simp only at this;subst this;exact⟨k,i,v,e,G,D,B,Y,J⟩
 have aH: ∀b,I.own b->aA b:=fun b ⟨M,o,d,l⟩=>by
  rcases aF M o d with ⟨rfl,rfl⟩|⟨k,i,v,e,G,D,B,rfl,J⟩
  .exact⟨id,_,.inl rfl,ab,by simpa [I,dJ.blk] using l⟩
  .rw[(ah k i v M D B).2]at l;exact⟨i,_,.inr (List.mem_map.2 ⟨_,List.mem_of_getElem? D,rfl⟩),J,l⟩
 have dd: ∀b,c.free b->I.free b/\I.w.heap[b]? =c.w.heap[b]? :=fun b E=>⟨⟨E.1,fun m=>E.2.1 (aW b (aH b m)),by simp[I],fun aY=>aY.2.2.1 E⟩,rfl⟩;have conv: ∀(t:Ty) (v:bK) (x:t.den) (u:Value),(∀i ai vw,v=.slc i ai vw->s.rigid=true/\i≠id/\i∉own.map (·.1))->v.as c.hp t=a6 x->bP c v u->VD I t x u:=fun t v x u eS d l=>by
  refine aeS V dd (fun i ai vw ad o b N X=> ?_) d l;obtain⟨h5,h6,h7⟩:=eS i ai vw ad;refine⟨⟨((V.obj i o N).lt X).2,fun m=> ?_,by simp[I],fun aY=>by have:=aY.1;rw[h5]at this;cases this⟩,rfl⟩;obtain⟨j,Z,hj,h8,h9⟩:=aH b m;have:=V.inj i j o Z b N h8 X h9;subst this;rcases hj with hj|hj
  .exact h6 hj
  .exact h7 hj
 have df: ∀i,i∈lF qs++ut s.cs cells->i≠id/\i∉own.map (·.1):=fun i q=>by
  have:=aV i q;simp only[List.mem_cons,not_or]at this;exact this
 have eT:I.Ok W0:=by
  refine⟨V.bel,fun M o m=> ?_,fun i j o p b d l N X=> ?_,fun r hr=>by simp[I]at hr,fun b E=>⟨E.2.1,fun m=>E.2.2.2 (aH b m),by simp[I]⟩,V.phi⟩
  .rcases aF M o m with ⟨rfl,rfl⟩|⟨k,i,v,e,G,D,B,rfl,J⟩
   .refine⟨by simpa [I] using hB,vs,by simpa [I] using hw, ?_,eO⟩;refine ab7 s.cs cells (jb s.cs 1) vs.toList hx eN (by rw[ag];exact aX) (fun k i v M v' D B e G Y=> ?_) fun t v x u D B Y J q5=>conv t v x u (fun i ai vw ad=> ?_) J q5
    .rw[ag]at D;have dl:=yz s.cs 1 _ (List.mem_of_getElem? B);simp only at dl;subst dl;obtain⟨h6,h7⟩:=ah k i v M D B;refine⟨?_,by rw[h7]⟩;obtain⟨e2,fw,h8,h9⟩:=Y1 s.cs cells (jb s.cs 1) hx k i v M 0 (by rw[ag];exact D) B;rw[Y]at h8;cases h8;have dM:=Oa _ _ _ (List.Sublist.nodup (LM s.cs (jb s.cs 1) x) (vH s.cs 1)) h9;simp only[I,dY,aq (Ne.symm h6)];exact dM
    .subst ad;obtain⟨h6,h7⟩:=df i (bu _ (Y i (by simp[refs])));refine⟨?_,h6,h7⟩;cases hrg2:s.rigid with
     |true=>rfl
     |false=>
      rcases B (by rw[hrg2];rfl)with h8|h8
      .simp[mQ]at h8
      .cases t<;>simp[Ty.rigid]at h8<;>simp[bK.as]at J
   .obtain⟨bf,el,zs,w1,w2,w3⟩:=V.obj i _ J;refine⟨bf,el,zs,by rw[(ah k i v M D B).2];exact w1,gp.mono (fB.mono dd e) _ _ w2,w3⟩
  .rcases aF i o d with ⟨rfl,rfl⟩|⟨k,i1,v,e,G,D,B,rfl,J⟩<;>rcases aF j p l with ⟨rfl,rfl⟩|⟨k',i2,v',e',aI,al,an,rfl,aJ⟩
   .rfl
   .rw[(ah k' i2 v' j al an).2]at X;have:=V.inj id i2 _ _ b ab aJ (by simpa [I,dJ.blk] using N) X;subst this;rw[ab]at aJ;cases aJ
   .rw[(ah k i1 v i D B).2]at N;have:=V.inj id i1 _ _ b ab J (by simpa [I,dJ.blk] using X) N;subst this;rw[ab]at J;cases J
   .rw[(ah k i1 v i D B).2]at N;rw[(ah k' i2 v' j al an).2]at X;have:=V.inj i1 i2 _ _ b J aJ N X;subst this;have bg:k=k':=by
     have e1:(own.map (·.1))[k]? =a6 i1:=by rw[List.getElem?_map,D];rfl
     have e2:(own.map (·.1))[k']? =a6 i1:=by rw[List.getElem?_map,al];rfl
     exact(List.getElem?_inj (List.getElem?_eq_some_iff.1 e1).1 ax).1 (e1.trans e2.symm)
    subst bg;rw[B]at an;cases an;rfl
 obtain⟨us⟩:=us;cases us with
 |nil=>simp[bH]at hv
 |cons u0 us=>
 simp only[bH]at hv;obtain⟨bi,eV⟩:=hv;have eW:bH I (.ptr 0 0::Jq s.ps y) (u0::us):=by
  simp only[bH];refine⟨?_,LX s.ps y us (Ah s.ps qs y us hy eV fun t v x u hm d l=>conv t v x u (fun i ai vw ad=> ?_) d l)⟩
  .simp only[bP]at bi ⊢;exact⟨bi.1,.inl ⟨_,by simp[I,dY];rfl⟩,fun t' fx _=>by simpa [I] using bi.2.2 _ _ ab⟩
  .subst ad;have eZ:i∈lF qs:=WV _ _ hm i (by simp[refs]);obtain⟨h6,h7⟩:=df i (List.mem_append_left _ eZ);refine⟨?_,h6,h7⟩;rcases ay with ay|ay
   .exact ay
   .have:=List.any_eq_false.1 ay _ hm;simp[mQ]at this
 obtain⟨fa,fb⟩:=hs W0 I x y z eT rfl rfl rfl ⟨u0::us⟩ eW hz;refine⟨fa,fb.mono ?_⟩;rintro e w' ⟨O,ds,ao,rfl,rfl,av,bn,dT,fc,fd,aK,fe⟩
 let U:List (Nat×Nat):=own.map fun p=>(p.1,p.2+1)
 generalize aO:oN s.cs ao=own1 at*
 let A:Cx:=⟨fun i=>if i=id then c.mu id else Vr (own.map (·.1)) (own1.map (·.1)) O.mu c.mu i,iT (Ob (ul s.cs U z.1) c.hp) id (.box s.bt (GM s.cs U z.1)),c.nxt,O.w,c.mks,c.bar⟩
 have ea:own1.length=own.length:=by rw[<-aO,<-WT s.cs ao aK 1,aX]
 have ee:U.length=(oN s.cs ao).length:=by rw[aO];simp[U,ea]
 have em:(U.map (·.1))=own.map (·.1):=by simp[U,List.map_map,Function.comp_def]
 have ff:((ul s.cs U z.1).map (·.1)).Nodup:=List.Sublist.nodup (LM s.cs U z.1) (by rw[em];exact ax);have bz: ∀i,i∈(ul s.cs U z.1).map (·.1)->i∈own.map (·.1):=fun i q=>by
  have:=(LM s.cs U z.1).subset q;rwa [em]at this
 have aP: ∀(k i v:Nat),own[k]? =a6 (i,v)-> ∃(j w:Nat) (e:Ty) (G:List e.den),own1[k]? =a6 (j,w)/\dM O.hp j=a6 (.arr e w G)/\dM A.hp i=a6 (.arr e (v+1) G)/\A.mu i=O.mu j/\(.list e,true)∈s.cs:=fun k i v hk=>by
  have fg:k<own1.length:=by rw[ea];exact(List.getElem?_eq_some_iff.1 hk).1
  obtain⟨⟨j,w⟩,hj⟩: ∃p,own1[k]? =a6 p:=⟨_,List.getElem?_eq_getElem fg⟩;have fh:U[k]? =a6 (i,v+1):=by simp[U,List.getElem?_map,hk]
  obtain⟨e,G,d,l⟩:=Y1 s.cs ao U aK k j w i (v+1) (by rw[aO];exact hj) fh;obtain⟨k',i1,v1,v2,e',aI,D,B,Y,J,q5⟩:=WM s.cs ao U aK ee i _ l;have fi:i∈own.map (·.1):=List.mem_map.2 ⟨_,List.mem_of_getElem? hk,rfl⟩;have eq:id≠i:=fun e=>cv (e▸fi);obtain⟨e0,fj,h0⟩:=aB k i v hk;refine⟨j,w,e,G,hj,d, ?_, ?_, ?_⟩
  .simp only[A];rw[jf,aq eq];exact D7 _ _ _ _ ff l (by rw[h0];rfl)
  .simp only[A,aq (Ne.symm eq)];exact TZ _ _ k i j ax (by rw[List.getElem?_map,hk];rfl) (by rw[List.getElem?_map,hj];rfl)
  .cases Y;exact q5
 have bC:dM A.hp id=a6 (.box s.bt (GM s.cs U z.1)):=by
  simp only[A];rw[jf,am rfl,nX _ _ _ fun h=>cv (bz id h),ab];rfl
 have aQ:A.mu id=c.mu id:=by simp[A]
 have es:(O.mu 0).blk=(c.mu id).blk:=by rw[fc];simp[I]
 have aS: ∀(i:Nat) (Z:dJ),S i->dM A.hp i=a6 Z-> ∃j o1,dM O.hp j=a6 o1/\o1.blk (O.mu j)=Z.blk (A.mu i)/\((i=id/\j=0/\o1=.box s.bt ao)\/ ∃(k v w:Nat),own[k]? =a6 (i,v)/\own1[k]? =a6 (j,w)/\ ∃(e:Ty) (G:List e.den),o1=.arr e w G):=fun i Z q m=>by
  rcases q with rfl|q
  .rw[bC]at m;cases m;exact⟨0,_,dT,by simp[dJ.blk,aQ,es],.inl ⟨rfl,rfl,rfl⟩⟩
  .obtain⟨p,W,rfl⟩:=List.mem_map.1 q;obtain⟨k,hk⟩:=az p W;obtain⟨j,w,e,G,D,B,Y,J,_⟩:=aP k p.1 p.2 hk;rw[Y]at m;cases m;exact⟨j,_,B,by simp only[dJ.blk];rw[J],.inr ⟨k,p.2,w,hk,D,e,G,rfl⟩⟩
 have et: ∀b,b<c.w.heap.size-> ¬aA b->O.out b/\O.w.heap[b]? =c.w.heap[b]? :=fun b E hn=>bn.out b ⟨E,fun m=>hn (aH b m),by simp[I]⟩;obtain⟨ew,fk⟩:=Cx.many (c2:=A) V S rfl rfl rfl (fun i q=>by
   have d:i≠id:=fun e=>q (.inl e);have l:i∉own.map (·.1):=fun e=>q (.inr e);refine⟨?_,by simp only[A,aq d];exact Ua _ _ _ l⟩;simp only[A];rw[jf,aq (Ne.symm d),nX _ _ _ fun h=>l (bz i h)])
  (fun i q=>by
   rcases q with rfl|q
   .exact⟨_,_,ab,bC,by simp[dJ.like,aQ],by simp⟩
   .obtain⟨p,W,rfl⟩:=List.mem_map.1 q;obtain⟨k,hk⟩:=az p W;obtain⟨j,w,e,G,D,B,Y,J,_⟩:=aP k p.1 p.2 hk;obtain⟨e0,fj,h0⟩:=aB k p.1 p.2 hk;exact⟨_,_,h0,Y,⟨by omega,fun e=>by omega⟩,by simp⟩)
  av.bel bn.size (fun b E hn=>(et b E fun⟨i,o,d,l,N⟩=>hn i o d l N).2)
  (fun i Z b q m E=>by
   by_cases hlt:b<c.w.heap.size
   .right;refine Classical.byContradiction fun hn=> ?_;obtain⟨j,o1,d,l,_⟩:=aS i Z q m;exact(et b hlt fun⟨j,o,N,X,h5⟩=>hn ⟨j,o,N,X,h5⟩).1.2.1 ⟨j,o1,d,l.trans E⟩
   .left;omega)
  (fun i M Z p' b q fl m W E fm=>by
   obtain⟨j,o1,d,l,N⟩:=aS i Z q m;obtain⟨j',fo,aw,aU,ex⟩:=aS M p' fl W;have hj:=av.inj j j' o1 fo b d aw (l.trans E) (aU.trans fm);subst hj;rw[d]at aw;cases aw;rcases N with ⟨rfl,rfl,rfl⟩|⟨k,v,w,D,B,e,G,rfl⟩
   .rcases ex with ⟨rfl,_⟩|⟨k',v',w',al,an,e',aI,he⟩
    .rfl
    .cases he
   .rcases ex with ⟨_,_,he⟩|⟨k',v',w',al,an,e',aI,he⟩
    .cases he
    .have bg:k=k':=by
      have e1:(own1.map (·.1))[k]? =a6 j:=by rw[List.getElem?_map,B];rfl
      have e2:(own1.map (·.1))[k']? =a6 j:=by rw[List.getElem?_map,an];rfl
      exact(List.getElem?_inj (List.getElem?_eq_some_iff.1 e1).1 fd).1 (e1.trans e2.symm)
     subst bg;rw[D]at al;cases al;rfl)
  (fun b L i o q m E=>by
   obtain⟨o2,d,l⟩:=eR i q;rw[m]at d;cases d;exact(V.obj i o m).no_loop l E)
 have cc:s.rigid=true\/ ∀b,O.free b->A.free b:=by
  cases hrg2:s.rigid with
  |true=>exact .inl rfl
  |false=>
   right;intro b E;have cd: ∀b,b<c.w.heap.size-> ¬c.free b-> ¬aA b-> ¬O.free b:=fun b d l N hf=>hf.2.2.2 (by rw[bn.bar];exact⟨hrg2,d,l,N⟩);refine⟨E.1, ?_,fun hm=> ?_,fun hm=> ?_⟩
   .rintro ⟨i,Z,d,l⟩;by_cases q:S i
    .obtain⟨j,o1,N,X,_⟩:=aS i Z q d;exact E.2.1 ⟨j,o1,N,X.trans l⟩
    .have aw:i≠id:=fun e=>q (.inl e);have aU:i∉own.map (·.1):=fun e=>q (.inr e);simp only[A]at d l;rw[jf,aq (Ne.symm aw),nX _ _ _ fun h=>aU (bz i h)]at d;rw[aq aw,Ua _ _ _ aU]at l;refine cd b ((V.obj i Z d).lt l).2 (fun hf=>hf.2.1 ⟨i,Z,d,l⟩) ?_ E;rintro ⟨j,o,hj,N,X⟩;have:=V.inj i j Z o b d N l X;subst this;exact q hj
   .exact cd b (V.mark_lt hm) (fun hf=>hf.2.2.1 hm) (fun m=>V.mark_own hm (aW b m)) E
   .exact cd b (V.bar b hm).1 (fun hf=>hf.2.2.2 hm) (fun m=>(V.bar b hm).2.1 (aW b m)) E
 have ch:s.rigid=true->(∀p∈s.cs,p.1.rigid=true\/p.2=true/\p.1.elem.rigid=true)/\s.rs.all Ty.rigid=true:=fun h=>by
  simp only[fF.rigid,af]at h;exact⟨fun p W=>by have:=List.all_eq_true.1 h.1 p W;simpa using this,h.2⟩
 have fp:A.Ok W0:=fk fun i Z q m=>by
  rcases q with rfl|q
  .rw[bC]at m;cases m;obtain⟨fy,eL,fq,fs,ft⟩:=av.obj 0 _ dT;refine⟨by rw[aQ];exact hB,eL,by rw[aQ,<-es];exact fq, ?_,ft⟩;refine ab7 s.cs ao U eL.toList aK fs ee (fun k j w i v D B e G Y=> ?_) fun t v x u D B Y J q5=> ?_
   .rw[aO]at D;have hk: ∃v0,own[k]? =a6 (i,v0)/\v=v0+1:=by
     simp only[U,List.getElem?_map,Option.map_eq_some_iff]at B;obtain⟨p,fu,fv⟩:=B;cases fv;exact⟨p.2,fu,rfl⟩
    obtain⟨v0,hk,rfl⟩:=hk;obtain⟨j',w',e',aI,p1,p2,p3,p4,_⟩:=aP k i v0 hk;rw[D]at p1;cases p1;rw[Y]at p2;cases p2;exact⟨p3,by rw[p4]⟩
   .rcases cc with hf|hf
    .have ht:t.rigid=true:=by
      rcases(ch hf).1 (t,false) D with h|h
      .exact h
      .cases h.1
     cases m:mQ v with
     |false=>exact VD.move (c':=O) (c2:=A) rfl (.inr ht) (Je (cb:=O) (fun b E=>⟨E,rfl⟩) m J q5)
     |true=>
      refine VD.move (c':=O) (c2:=A) rfl (.inr ht) (aeS (cb:=O) av (fun b E=>⟨E,rfl⟩) (fun i ai vw ad=> ?_) J q5);subst ad;cases t<;>simp[Ty.rigid]at ht<;>simp[bK.as]at J
    .refine VD.move (c':=O) (c2:=A) rfl (.inl hf) (aeS (cb:=O) av (fun b E=>⟨E,rfl⟩) (fun i ai vw ad=> ?_) J q5);subst ad;rcases B rfl with h8|h8
     .simp[mQ]at h8
     .cases t<;>simp[Ty.rigid]at h8<;>simp[bK.as]at J
  .obtain⟨p,W,rfl⟩:=List.mem_map.1 q;obtain⟨k,hk⟩:=az p W;obtain⟨j,w,e,G,D,B,Y,J,q5⟩:=aP k p.1 p.2 hk;rw[Y]at m;cases m;obtain⟨bf,el,zs,w1,w2,w3⟩:=av.obj j _ B;refine⟨bf,el,zs,by rw[J];exact w1,gp.move (c':=O) (c2:=A) rfl ?_ w2,w3⟩;rcases cc with hf|hf
   .right;rcases(ch hf).1 _ q5 with h|h
    .simp[Ty.rigid]at h
    .exact h.2
   .exact .inl hf
 have hd:Dk W0 c st A {st with hp:=iT (Ob (ul s.cs U z.1) st.hp) id (.box s.bt (GM s.cs U z.1))}:=⟨by simp[A,hr.hp],hr.nxt,rfl,rfl,fp,ew⟩;exact hR A _ _ _ h (hr.did hd) (Bc (LX s.rs z.2 ds (o8.move (c':=O) (c2:=A) rfl s.rs z.2 ds (cc.symm.imp (fun h=>h) fun h=>(ch h).2) fe))) ew.mono
theorem acu {cl:Bool}: ∀(cs:List (Ty×Bool)) (n:Nat) (cells:List bK) (st:St) (K:List bK->St->Option R),sV cl n cs cells st K=a6 r-> ∀(c:Cx) (vs:List Value),c.Ok W0->c.hp=st.hp->c.nxt=st.nxt->bH c cells vs->
  ∃c' d f,Dk W0 c st c' d/\c'.w=c.w/\bH c' f vs/\K f d=a6 r/\ ∀i o,dM st.hp i=a6 o->dM d.hp i=a6 o:=by
 have E: ∀(cells:List bK) (st:St) (K:List bK->St->Option R),K cells st=a6 r-> ∀(c:Cx) (vs:List Value),c.Ok W0->c.hp=st.hp->c.nxt=st.nxt->bH c cells vs->
   ∃c' d f,Dk W0 c st c' d/\c'.w=c.w/\bH c' f vs/\K f d=a6 r/\ ∀i o,dM st.hp i=a6 o->dM d.hp i=a6 o:=
  fun cells st K h c vs j m p g=>⟨c,st,cells,Dk.refl j m p,rfl,g,h,fun i o h=>h⟩
 intro cs
 induction cs with
 |nil=>intro n cells st K h;cases cells<;>exact E _ st K h
 |cons tc cs G=>
  intro n cells st K h c vs j m p g;cases cells with
  |nil=>exact E _ st K (by obtain⟨t,o⟩:=tc;cases o<;>cases t<;>simpa only[sV] using h) c vs j m p g
  |cons v cells=>
   cases vs with
   |nil=>simp[bH]at g
   |cons u vs=>
    have s:sV cl (n+1) cs cells st (fun l st=>K (v::l) st)=a6 r-> ∃c' d f,Dk W0 c st c' d/\c'.w=c.w/\bH c' f (u::vs)/\K f d=a6 r/\ ∀i o,dM st.hp i=a6 o->dM d.hp i=a6 o:=fun h=>by
     simp only[bH]at g;obtain⟨c',d,f,hd,x,z,A,hp⟩:=G (n+1) cells st _ h c vs j m p g.2;exact⟨c',d,v::f,hd,x,by simp only[bH];exact⟨bP.le hd.le _ _ g.1,z⟩,A,hp⟩
    obtain⟨t,o⟩:=tc;cases o with
    |false=>exact s (by simpa only[sV] using h)
    |true=>
     cases t with
     |list e=>
      cases v with
      |nils=>
       simp only[sV]at h;replace h:=dB h;obtain⟨B,h⟩:=h;have B:0<e.size:=by simpa [O1] using B
       obtain⟨id,U,I,L,M,h⟩:=jc h;simp only[bH]at g;have J:=g.1;simp only[bP]at J;subst J;obtain⟨N,q,O,S⟩:=qX j m p I L M (y:=e) B (xs:=[]) (v:=.slice a7 0 0) (w:=c.w) (Below.refl _ _) oV [] ⟨by simp,.inl ⟨rfl,rfl⟩⟩ (by simp[gp]) rfl (fun _=>rfl);obtain⟨c',d,f,hd,x,z,A,hp⟩:=G (n+1) cells _ _ h N vs q.ok q.hp q.nxt (bH.le q.le _ _ g.2);refine⟨c',d,.slc id 0 a7::f,q.trans hd,x.trans O,by simp only[bH];exact⟨bP.le hd.le _ _ S,z⟩,A,fun i o D=>hp i o ?_⟩;have:id≠i:=fun e=>by subst e;rw[I]at D;cases D
       simp only[dY,aq this];exact D
      |_=>exact s (by simpa only[sV] using h)
     |_=>exact s (by simpa only[sV] using h)
theorem aE8 {g:FuncId} {s:fF} (V:dI P g s) (cl:Bool) (n:Nat):mi (R:=R) P W0 n (NI g s cl):=by
 intro b0 rd W X ay st K r h c a ats az j f G Y o next Q Z
 cases W with
 |fn g' ab=>
  simp only[NI]at h;split at h
  .rename_i hg
   subst hg;simp only[bP]at G;obtain⟨l,rfl,ad⟩:=G;have I:=bH.append_arr Y ad;have ag: ∀p:Ending->World->Prop,(∀d z u i,K z i=a6 r->iM W0 b0 rd d i a ats->bP d z u->c.Mono d->p (.returned u) d.w)->
     (callFunc g' (j++l)).run P c.w=.ok (.enter g' (j++l)) c.w/\Calls P g' (j++l) c.w p:=by
    intro p ah;generalize X++ab=al at h I;unfold fF.call at h;split at h<;>try (cases h;done)
    rename_i id qs
    split at h<;>try (cases h;done)
    rename_i t cells q
    rw[cond_eq_ite]at h;split at h
    .rw[<-f.hp]at q;obtain⟨hB,J,hw,ai,an⟩:=f.ok.obj id _ q;obtain⟨d,i,x,hd,aA,ao,hK,M⟩:=acu s.cs _ cells st _ h c J.toList f.ok f.hp f.nxt ai;have m:=f.did hd;have A:dM d.hp id=a6 (.box t cells):=by rw[m.hp];exact M id _ (by rw[<-f.hp];exact q)
     obtain⟨o1,y,B⟩:=hd.le.obj id _ (.inl ⟨_,q⟩) A;rw[q]at y;cases y;simp only[dJ.like]at B;have N:dJ.like (.box t cells) (d.mu id) (.box t x) (d.mu id):=rfl;have O: ∀b,(dJ.box t x).blk (d.mu id)=a6 b->(dJ.box t cells).blk (d.mu id)=a6 b\/d.w.heap.size<=b:=fun b hb=>.inl hb;have S: ∀(b:Nat) (L:Loop),(dJ.box t cells).blk (d.mu id)=a6 b->d.w.heap[b]? =a6 (Obj.loop L)-> ∃L':Loop,d.w.heap[b]? =a6 (Obj.loop L'):=fun b L _ hL=>⟨L,hL⟩;have U:=Cx.Le.put (w:=d.w) m.ok A N (ae _) (fun b _ _=>rfl) O S;have av:Dk W0 d i (d.put id (.box t x) (d.mu id) d.w) {i with hp:=iT i.hp id (.box t x)}:=by
      refine⟨by simp only[Cx.put];rw[m.hp],m.nxt,rfl,rfl,Cx.Ok.put m.ok A N m.ok.bel (ae _) (fun b _ _=>rfl) O S ?_,U⟩;refine⟨by simp_all [Cx.put,upd_same],J,by simp_all [Cx.put,upd_same],bH.le U _ _ ao,an⟩
     have D:=hd.trans av;have hG:=aGL V hK (f.did D) (bH.le D.le _ _ I) p fun c3 z u aw k1 k2 k3 k4=>ah c3 z u aw k1 k2 k3 (D.le.mono.trans k4);change (callFunc g' (j++l)).run P d.w=.ok (.enter g' (j++l)) d.w/\Calls P g' (j++l) d.w p at hG;simp_all
    grind [aGL]
   obtain⟨y,B⟩:=ag (fun e E=>match e with
     |.returned v=>next (a.put o.dst v) E
     |.panicked ax=>Q (.panic ax) a E
     |.outgrown=>LetsOut Q) (fun d z u i k1 k2 k3 k4=>Z d z u i k1 k2 k3 k4)
   rw[rV,y];exact⟨uh rd,(Ai B).mono fun e E he=>by cases e<;>exact he⟩
  .cases h
 |_=>simp[NI]at h
end
end
section
open Option renaming some → a6, none → a7
open Bool renaming and_eq_true → af
open List renaming length_cons → aH, length_nil → aX
open Nat renaming le_trans → aG, lt_of_lt_of_le → aZ
open Go.RowKit
section
variable {P:Program} {T:TT} {W0:World} {b0:Nat} {rd:Option Nat} {R:Type} {r:R} {c:Cx} {ats:List (Array Value)}
theorem aH0 {g:FuncId} {s:Sum} (hs:dK P g s) (cl:Bool) (n:Nat):mi (R:=R) P W0 n (ER g s cl):=by
 intro b0 rd fv aQ aS st K r h c a ats aU ab i ad al o next Q hn
 cases fv with
 |fn g' aV=>
  simp only[ER]at h;split at h
  .rename_i hg
   subst hg;simp only[bP]at ad;obtain⟨vs,rfl,an⟩:=ad;have ae:=bH.append_arr al an;obtain⟨I,x,y,L,hy,A⟩:=aeB h;rw[<-i.hp]at L;obtain⟨z,ao,au,av⟩: ∃z:Nat->Prop,(∀b,z b->b<c.w.heap.size)/\o8 (jM c.w z) s.ps x (ab++vs).toList/\
     ((s.rs.all fun r=>r.1.rigid||(r.2&&r.1.elem.rigid))=true\/z=fun b=>b<c.w.heap.size/\ ¬c.free b):=by
    rcases I with I|I
    .refine⟨fun _=>False,fun b h=>h.elim,Ah s.ps _ x _ L ae fun t v x u _ M A=>ahw i.ok (fun b m=>⟨Ig.2 ⟨m,fun h=>h⟩,rfl⟩) M A,.inl I⟩
    .refine⟨fun b=>b<c.w.heap.size/\ ¬c.free b,fun b h=>h.1,Ah s.ps _ x _ L ae fun t v x u hm M A=>Je (fun b m=>⟨Ig.2 ⟨m.1,fun h=>h.2 m⟩,rfl⟩) ?_ M A,.inr rfl⟩
     grind
   have aw: ∀e B,vG c.w z s.rs y e B->(match e with
     |.returned v=>next (a.put o.dst v) B
     |.panicked ax=>Q (.panic ax) a B
     |.outgrown=>LetsOut Q):= ?_
   .rw[rV];rcases hs c.w z (ab++vs) x y i.ok.phiw ao au hy with ⟨N,O⟩|⟨u,N,O⟩
    .rw[N];exact⟨uh rd,(Ai O).mono fun e B he=>by
      grind⟩
    .rw[N];exact aw (.returned u) c.w O
   rintro e B ⟨d,us,rfl,rfl,S,ay,aW,aY,U⟩;simp only;have D:GK c d.w:=S.bel;have ag: ∀(q:Cx),q.w=d.w->(∀b,(c.at_ d.w).free b->d.free b->q.free b)->((s.rs.all fun r=>r.1.rigid||(r.2&&r.1.elem.rigid))=true\/ ∀b,d.free b->q.free b):=fun q hw hf=>by
    rcases av with V|V
    .exact .inl V
    .right;intro b m;exact hf b (avp i.ok S (ay.trans V) m) m
   rcases A with ⟨bd,ah,W⟩|⟨e,f,id,p,bf,ah,h5,h6,h7,W⟩
   .have az:=i.ext D;refine hn (c.at_ d.w) _ _ _ W az (Bc ?_) (Cx.Le.ext D).mono;refine GI (c':=d) (c2:=c.at_ d.w) rfl 0 s.rs y us (fun t ht=> ?_) (.inl ah) U;rcases ag (c.at_ d.w) rfl (fun b h _=>h)with h8|h8
    all_goals grind
   .have aA:=S.obj 0 (.arr e 0 f) (by simp_all [F6,dY]);obtain⟨aB,el,zs,X,hL,aF⟩:=aA;have hk:=AZ i.hp i.nxt h5 h6;obtain⟨u0,ai⟩:=aeE s.rs y us (by omega) U;simp only[bP]at ai;have Y:dM d.hp 0=a6 (.arr e 0 f):=by simp_all [F6,dY]
    have aI:(d.mu 0).v.oneCell'=true:=by
     have:=(ai.2.2 _ _ _ Y).2 rfl;simp_all [ja]
    have hl: ∀b,dJ.blk (.arr e 0 f) ⟨0,(d.mu 0).v⟩=a6 b->c.w.heap.size<=b:=fun b m=>(World.ownsRow.lt X b m).1;have aj:=Cx.Le.push (o:=.arr e 0 f) (l:=⟨0,(d.mu 0).v⟩) (nxt:=p) (w:=d.w) hk (by rw[i.nxt];exact h7) D.size D.block hl;have bg:=ag (c.push id (.arr e 0 f) ⟨0,(d.mu 0).v⟩ p d.w) rfl (fun b Z aJ=>⟨Z.1,(by
     rintro ⟨j,o,J,E⟩;simp only[Cx.push,dY]at J E;split at J
     .rename_i G
      subst G;cases J;rw[upd_same]at E;exact aJ.2.1 ⟨0,_,Y,E⟩
     .rename_i G
      rw[upd_ne _ _ (Ne.symm G)]at E;exact Z.2.1 ⟨j,o,J,E⟩),Z.2.2⟩)
    have bi:d.w.ownsRow W0.heap.size el e.size (d.mu 0).v f.length zs:=by
     refine⟨X.1, ?_⟩;rcases X.2 with h|⟨g,aK,aO,G,e2,e3⟩
     .exact .inl h
     .exact .inr ⟨g,aK,aO,G,aG i.ok.size e2,e3⟩
    have ho:(c.push id (.arr e 0 f) ⟨0,(d.mu 0).v⟩ p d.w).ORel W0.heap.size id (.arr e 0 f):=by
     refine⟨aB,el,zs,by simp_all [Cx.push,upd_same],gp.move (c':=d) (c2:=c.push id (.arr e 0 f) ⟨0,(d.mu 0).v⟩ p d.w) rfl ?_ hL,aF⟩
     grind [Ou]
    have aP:=i.ok.push hk (by rw[i.nxt];exact h7) D hl ho;have hd:Dk W0 c st (c.push id (.arr e 0 f) ⟨0,(d.mu 0).v⟩ p d.w) {st with hp:=(id,.arr e 0 f)::st.hp,nxt:=p}:=⟨by simp[Cx.push,i.hp],rfl,rfl,rfl,aP,aj⟩;refine hn (c.push id (.arr e 0 f) ⟨0,(d.mu 0).v⟩ p d.w) _ _ _ W (i.did hd) (Bc ?_) aj.mono;refine GI (c':=d) (c2:=c.push id (.arr e 0 f) ⟨0,(d.mu 0).v⟩ p d.w) rfl id s.rs y us (fun t ht=> ?_) (.inr fun u hu=> ?_) U
    .grind
    .simp only[bP]at hu ⊢;have ak:=(hu.2.2 _ _ _ Y).2 rfl;simp only[ja]at ak;subst ak;refine⟨aI,.inl ⟨.arr e 0 f,by simp[Cx.push,dY]⟩,fun t u bn h=> ?_⟩;simp_all [Cx.push,ja,upd_same]
  .cases h
 |_=>simp[ER]at h
theorem Tt: ∀(rs:List (Ty×Bool)),(rs.all fun r=> !r.2&&r.1.rigid)=true->news rs=0
 |[],_=>rfl
 |(t,true)::rs,h=>by simp at h
 |(t,false)::rs,h=>by
  simp only[List.all_cons,af]at h;exact Tt rs h.2
theorem aHZ {g:FuncId} {s:Sum} (G:dK P g s) (cl:Bool) (I:(s.rs.all fun r=> !r.2&&r.1.rigid)=true):nI (R:=R) P (ER g s cl):=by
 intro W0 b0 rd J ab ad st K r h c a ats ae f i z L;cases J with
 |fn g' ag=>
  simp only[ER]at h;split at h
  .rename_i M
   subst M;simp only[bP]at z;obtain⟨j,rfl,N⟩:=z;have O:=bH.append_arr L N;obtain⟨hc,x,y,A,S,l⟩:=aeB h;rw[<-i.hp]at A;rcases l with ⟨ah,U,V⟩|⟨e,xs,id,n',ai,U,_⟩
   .have m:=Ub _ (I5 0 s.rs y I);refine⟨_,rv (MZ (ou 0 s.rs y)),V,(IW m _).2 rfl,fun B d=> ?_⟩;have W:o8 (jM B fun _=>False) s.ps x (f++j).toList:=Ah s.ps _ x _ A O fun t v x u _ X l=>ahw i.ok (fun b D=>⟨Ig.2 ⟨aZ D d.size,fun h=>h⟩,d.block b D⟩) X l;rcases G B (fun _=>False) (f++j) x y (Phi.below d i.ok.phiw) (fun b h=>h.elim) W S with ⟨o,p⟩|⟨u,o,p⟩
    .refine .inl ⟨g',f++j,by rw[rV,o],p.mono ?_⟩;rintro e aj ⟨Y,us,rfl,rfl,E,ak,al,an,q⟩;exact⟨by rw[(IW m _).1 (Bc q)],d.trans (E.bel.mono d.size)⟩
    .obtain⟨Y,us,Z,_,E,_,_,_,q⟩:=p;cases Z;right;rw[rV,o,(IW m _).1 (Bc q)]
   simp_all [Tt]
  .cases h
 |_=>simp[ER]at h
theorem ayU {E:Env} (hT:TOk P E.T) (hb: ∀g,E.bf g=true->BC P E.em g) (h: ∀g s,E.sg g=a6 s->dK P g s) (hx: ∀g s,E.sb g=a6 s->dI P g s):xe P E:=
 ⟨hT,fun R W0 n g s d=>aE8 (hx g s d) E.cl n,hb,fun R W0 n g s d=>aH0 (h g s d) E.cl n,fun R g s d e=>aHZ (h g s d) E.cl e⟩
def EY:(d:List Ty)->(d.foldr Ty.pair Ty.unit).den->List bK
 |[],_=>[]
 |t::d,x=>.val t x.1::EY d x.2
def frozen (hp:gG):bK->bK
 |.val t x=>.val t x
 |.nils=>.nils
 |.slc id ver d=>match dM hp id with
  |some (.arr e v f)=>bif v==ver then .val (.list e) (abR f d)else .undef
  |_=>.undef
 |_=>.undef
def bK.asR (hp:gG) (own:Bool) (t:Ty) (v:bK):Option t.den:=bif own then v.as hp t else match v with
 |.agg l=>bif t.isAgg then Hf t (l.map (frozen hp))else a7
 |v=>v.as hp t
def iW (own:Bool):(rs:List (Ty×Bool))->List bK->gG->Option ((rs.map (·.1)).foldr Ty.pair Ty.unit).den
 |[],[],_=>a6 ()
 |(t,false)::rs,v::l,d=>match(bif own&&(mQ v&& !t.rigid)then a7 else v.asR d own t),iW own rs l d with
  |some x,a6 y=>a6 (x,y)
  |_,_=>a7
 |(.list e,true)::rs,.slc id ver a7::l,d=>match dM d id with
  |some (.arr t u f)=>bif u==ver then(match ku (.list e) (t':=.list t) f,iW own rs l d with
   |some x,a6 y=>a6 (x,y)
   |_,_=>a7)else a7
  |_=>a7
 |_,_,_=>a7
def GN (n:Nat) (v:bK):List bK:=
 match n,v with
 |1,v=>[v]
 |_,.tup l=>l
 |_,_=>[.undef]
def jD (E:Env) (g:FuncId) (d:List Ty) (rs:List (Ty×Bool)) (x:(d.foldr Ty.pair Ty.unit).den):Option ((rs.map (·.1)).foldr Ty.pair Ty.unit).den:=
 kK E 1000000 (.call g (EY d x)) ⟨[],[],[],0⟩ fun v st=>iW (!Nat.beq (news rs) 0) rs (GN rs.length v) st.hp
theorem NR: ∀(d:List Ty) x (us:List Value),o8 c d x us->bH c (EY d x) us
 |[],x,us,h=>by
  simp_all [o8,EY,bH]
 |t::d,x,us,h=>by
  obtain⟨u,e,rfl,f,g⟩:=h;simp only[EY,bH,bP];exact⟨f,NR d x.2 e g⟩
theorem wG {own:Bool}: ∀(rs:List (Ty×Bool)) (l:List bK) {hp:gG},(iW own rs l hp).isSome=true->l.length=rs.length
 |[],[],_,_=>rfl
 |[],_::_,_,h=>by simp[iW]at h
 |(t,false)::rs,[],_,h=>by simp[iW]at h
 |(t,false)::rs,v::l,hp,h=>by
  simp only[iW]at h;split at h
  .rename_i d
   simp[wG rs l (hp:=hp) (by rw[d];rfl)]
  .cases h
 |(t,true)::rs,[],_,h=>by simp_all [iW]
 |(t,true)::rs,v::l,hp,h=>by
  cases t with
  |list e=>
   cases v with
   |slc id ver f=>
    cases f with
    |none=>
     simp only[iW]at h;split at h
     .rw[cond_eq_ite]at h;split at h
      .split at h
       .rename_i d
        simp[wG rs l (hp:=hp) (by rw[d];rfl)]
       .cases h
      .cases h
     .cases h
    |some p=>simp[iW]at h
   |_=>simp[iW]at h
  |_=>simp[iW]at h
theorem EL {own:Bool} {v:bK} {u:Value} {rs:List (Ty×Bool)} {hp:gG} (h:(iW own rs (GN rs.length v) hp).isSome=true) (d:bP c v u): ∃us,u=O5 us/\bH c (GN rs.length v) us:=by
 match rs,h with
 |[t],h=>exact⟨[u],rfl,by simpa [GN,bH] using d⟩
 |[],h=>
  cases v with
  |tup l=>
   simp only[aX,GN]at h ⊢;cases l with
   |nil=>
    simp only[bP]at d;obtain⟨e,rfl,f⟩:=d;have:e= #[]:=by
     have:=bH.length _ _ f
     grind
    subst this;exact⟨[],rfl,by simp[bH]⟩
   |cons _ _=>simp[iW]at h
  |_=>simp[GN,iW]at h
 |g::i::rs,h=>
  cases v with
  |tup l=>
   simp only[bP]at d;obtain⟨e,rfl,f⟩:=d;have m:=bH.length _ _ f;have o:l.length=(g::i::rs).length:=wG _ _ h;simp only[aH,GN];refine⟨e.toList, ?_,f⟩;cases hvs:e.toList with
   |nil=>simp_all
   |cons v1 j=>
    cases j with
    |nil=>simp_all
    |cons v2 p=>simp only[O5];rw[<-hvs]
  |_=>
   exfalso;have:=wG _ _ h;simp[GN]at this
end
end
section
open Option renaming some → a6, none → a7
open Bool renaming and_eq_true → af
open List renaming map_cons → ak, length_map → aI
open Nat renaming le_refl → ae, eq_of_beq_eq_true → aj
open Go.RowKit
structure eP (E:Env):Prop where
 T:TOk E.P E.T
 m:E.P.follows .mixedOrders=true
 ng:Jc E.P
 S: ∀g s,E.sg g=a6 s->dK E.P g s
 L:sU E.P E
 R:aeN E
 B: ∀g,E.bf g=true->BC E.P E.em g
 X: ∀g s,E.sb g=a6 s->dI E.P g s
def aI9 (rs:List (Ty×Bool)):Bool:=Nat.ble (news rs) 1&&rs.all fun r=> !r.2||(match r.1 with|.list e=>Nat.blt 0 e.size|_=>false)
section
variable {P:Program} {T:TT} {W0:World} {b0:Nat} {rd:Option Nat} {R:Type} {r:R} {c:Cx} {ats:List (Array Value)}
theorem Ak {E:Env} (h:eP E) (m:Nat) (R:Type) (W0:World):vF E.P W0 (kK E m (R:=R)):=
 (Ip h.T h.m h.ng rfl rfl (ayU h.T h.B h.S h.X) h.L h.R m R W0).1
theorem wL {w:World} {e:Nat->Prop} (f:Phi w) (hb: ∀b,e b->b<w.heap.size):iM w 0 a7 (jM w e) ⟨[],[],[],0⟩ ⟨#[],[]⟩ []:=
 ⟨rfl,rfl,⟨Below.refl _ _,fun id o h=>by simp[jM,dM]at h,fun i j o p b h=>by simp[jM,dM]at h,fun r d=>by simp[jM]at d,fun b h=>⟨hb b h,(by rintro ⟨i,o,h,_⟩;simp[jM,dM]at h),by simp[jM]⟩,f⟩,by simp[jM,bH],trivial,⟨[],rfl,List.nodup_nil,fun r d=>by simp at d⟩,fun l g=>by cases g⟩
theorem aa5 {own:Bool} {c':Cx} (m:c'.w=c.w) (hf: ∀b,c.free b->c'.free b) (y:own=false-> ∀b,b<c.w.heap.size-> ¬c.bar b->c'.free b) {t:Ty} {v:bK} {x:t.den} {u:Value} (s:c.Ok W0)
  (h:(bif own&&(mQ v&& !t.rigid)then a7 else v.asR c.hp own t)=a6 x) (d:bP c v u):VD c' t x u:=by
 have o: ∀b,c.free b->c'.free b/\c'.w.heap[b]? =c.w.heap[b]? :=fun b z=>⟨hf b z,by rw[m]⟩;rw[cond_eq_ite]at h;split at h
 .cases h
 rename_i S
 have A: ∀{id g i} {u:Value} {e:Ty} {x:List e.den},own=false->(bK.slc id g i).as c.hp (.list e)=a6 x->bP c (.slc id g i) u->VD c' (.list e) x u:=fun {id g i u e x} B h d=>by
  obtain⟨a,cp,D,j,p,E⟩:=Un s h d;have G:=abf s h d j;exact(VD.leaf rfl).2 ⟨a,cp,D,by rw[j],G,gp.mono (fB.mono o e) _ _ p,E.imp (fun h=>h) fun⟨b,I,J,K,L,M⟩=>⟨b,I,J,y B b K L,M.of_block (by rw[m])⟩⟩
 cases own with
 |true=>
  have h:v.as c.hp t=a6 x:=h;cases ho:mQ v with
  |false=>exact Je o ho h d
  |true=>
   cases v with
   |slc id g i=>
    cases t with
    |list e=>grind [Ty.rigid]
    |_=>simp[bK.as]at h
   |agg l=>
    simp only[bK.as]at h;rw[cond_eq_ite]at h;split at h
    .rename_i q
     simp only[bP]at d;obtain⟨f,rfl,j,p⟩:=d;exact VD.move m (.inl hf) ((VD.agg q).2 ⟨f,rfl,oL h j⟩)
    .cases h
   |_=>simp[mQ]at ho
 |false=>
  cases v with
  |slc id g i=>
   have h:(bK.slc id g i).as c.hp t=a6 x:=h;cases t with
   |list e=>grind
   |_=>simp[bK.as]at h
  |agg l=>
   have h:(bif t.isAgg then Hf t (l.map (frozen c.hp))else a7)=a6 x:=h;obtain⟨q,h⟩:=dB h;simp only[bP]at d;obtain⟨f,rfl,j,p⟩:=d;have N: ∀(l:List bK) (f:List Value),bH c l f->bH c' (l.map (frozen c.hp)) f:=by
    intro l
    induction l with
    |nil=>grind [bH]
    |cons v l O=>intro f h;cases f with
     |nil=>simp[bH]at h
     |cons u f=>
      simp only[bH,ak]at h ⊢;refine⟨?_,O f h.2⟩;have d:=h.1;cases v with
      |val t x=>
       grind [frozen,bP,VD.move]
      |nils=>assumption
      |slc id g i=>
       simp only[frozen];split
       .rename_i e v U V
        rw[cond_eq_ite];split
        .rename_i W
         simp only[bP];refine A rfl ?_ d;simp_all [bK.as,BI,gB]
        .simp[bP]
       .simp[bP]
      |_=>simp[frozen,bP]
   exact(VD.agg q).2 ⟨f,rfl,oL h (N l _ j)⟩
  |_=>
   simp only[bK.asR,ac]at h;exact Je o rfl h d
theorem aa4 {own:Bool} {c':Cx} (f:c.Ok W0) (g:c'.w=c.w) (hf: ∀b,c.free b->c'.free b) (i:own=false-> ∀b,b<c.w.heap.size-> ¬c.bar b->c'.free b): ∀(rs:List (Ty×Bool)) (l:List bK) (y) (us:List Value),iW own rs l c.hp=a6 y->news rs=0->bH c l us->bH c' (ou 0 rs y) us
 |[],[],y,[],_,_,_=>by simp[ou,bH]
 |[],[],_,_::_,_,_,d=>by simp[bH]at d
 |[],_::_,_,_,h,_,_=>by simp[iW]at h
 |(t,true)::rs,_,_,_,_,e,_=>by simp[news]at e
 |(t,false)::rs,[],_,_,h,_,_=>by simp[iW]at h
 |(t,false)::rs,v::l,y,[],h,_,d=>by simp[bH]at d
 |(t,false)::rs,v::l,y,u::us,h,e,d=>by
  simp only[iW]at h;split at h
  .rename_i x j m o
   cases h;simp only[bH]at d;simp only[ou,bH,bP];exact⟨aa5 g hf i f m d.1,aa4 f g hf i rs l j us o (by simpa [news] using e) d.2⟩
  .cases h
theorem aj0 (s:c.Ok W0): ∀(rs:List (Ty×Bool)) (l:List bK) (y) (us:List Value),iW true rs l c.hp=a6 y->news rs=1->bH c l us->
  ∃(id f:Nat) (e:Ty) (xs:List e.den),dM c.hp id=a6 (.arr e f xs)/\yM rs y=a6 ⟨e,xs⟩/\
   ∀c':Cx,c'.w=c.w->(∀b,c.free b->c'.free b)->c'.hp=[(0,.arr e 0 xs)]->(c'.mu 0).v=(c.mu id).v->bH c' (ou 0 rs y) us
 |[],_,_,_,_,g,_=>by simp[news]at g
 |(t,false)::rs,[],_,_,h,_,_=>by simp[iW]at h
 |(t,false)::rs,v::l,y,[],h,_,d=>by simp[bH]at d
 |(t,false)::rs,v::l,y,u::us,h,g,d=>by
  simp only[iW]at h;split at h
  .rename_i x j i m
   cases h;simp only[bH]at d;obtain⟨id,f,e,xs,k1,k2,k3⟩:=aj0 s rs l j us m (by simpa [news] using g) d.2;refine⟨id,f,e,xs,k1,k2,fun c' z A B E=> ?_⟩
   grind [ou,bH,bP,aa5]
  .cases h
 |(t,true)::rs,[],_,_,h,_,_=>by simp_all [iW]
 |(t,true)::rs,v::l,y,[],h,_,d=>by simp[bH]at d
 |(t,true)::rs,v::l,y,u::us,h,g,d=>by
  cases t with
  |list e=>
   cases v with
   |slc id f G=>
    cases G with
    |none=>
     simp only[iW]at h;split at h
     .rename_i K w xs D
      rw[cond_eq_ite]at h;split at h
      .rename_i o
       have o:w=f:=by simpa using o
       subst o;split at h
       .rename_i x j i m
        cases h;have I:=iI i;cases I;rw[gB]at i;cases i;simp only[bH]at d;refine⟨id,w,e,x,D,rfl,fun c' z A B E=> ?_⟩;simp only[ou,bH];refine⟨?_,aa4 s z A (fun h=>by cases h) rs l j us m (by simpa [news] using g) d.2⟩;have q:=d.1;simp only[bP]at q ⊢;have J:=(q.2.2 _ _ _ D).2 rfl;simp only[ja]at J;refine⟨q.1,.inl ⟨.arr e 0 x,by rw[B];simp[dY]⟩,fun t L M h=> ?_⟩;simp_all [ja]
       .cases h
      .cases h
     .cases h
    |some p=>simp[iW]at h
   |_=>simp[iW]at h
  |_=>simp[iW]at h
theorem Tq: ∀(rs:List (Ty×Bool)) y,news rs=0->yM rs y=a7
 |[],_,_=>rfl
 |(t,true)::rs,_,h=>by simp[news]at h
 |(t,false)::rs,y,h=>Tq rs y.2 (by simpa [news] using h)
theorem KO (g:c.Ok W0) {rs:List (Ty×Bool)} {l:List bK} {y} {us:List Value} (h:iW (!Nat.beq (news rs) 0) rs l c.hp=a6 y) (E:news rs<=1) (v:bH c l us):
  ∃c':Cx,c'.w=c.w/\c'.Ok W0/\c'.bar=c.bar/\c'.mks=[]/\c'.hp=F6 rs y/\bH c' (ou 0 rs y) us:=by
 by_cases q:news rs=0
 .let c':Cx:=⟨c.mu,[],c.nxt,c.w,[],c.bar⟩
  have s: ∀b,c.free b->c'.free b:=fun b f=>⟨f.1,(by rintro ⟨i,o,h,_⟩;simp[c',dM]at h),by simp[c'],f.2.2.2⟩;exact⟨c',rfl,⟨g.bel,fun id o h=>by simp[c',dM]at h,fun i j o p b h=>by simp[c',dM]at h,fun r u=>by simp[c']at u,fun b f=>⟨(g.bar b f).1,(by rintro ⟨i,o,h,_⟩;simp[c',dM]at h),by simp[c']⟩,g.phi⟩,rfl,rfl,by rw[F6,Tq rs y q],aa4 g (c':=c') rfl s (fun _ b d m=>⟨d,(by rintro ⟨i,o,h,_⟩;simp[c',dM]at h),by simp[c'],m⟩) rs l y us h q v⟩
 .have x:news rs=1:=by omega
  rw[show(!Nat.beq (news rs) 0)=true by rw[x];rfl]at h;obtain⟨id,G,e,z,k1,k2,k3⟩:=aj0 g rs l y us h x v
  let c':Cx:=⟨fun _=>c.mu id,[(0,.arr e 0 z)],c.nxt,c.w,[],c.bar⟩
  have s: ∀b,c.free b->c'.free b:=fun b f=>⟨f.1,(by
   rintro ⟨i,o,d,m⟩;simp only[c',dY]at d m;split at d
   .cases d;exact f.2.1 ⟨id,_,k1,m⟩
   .simp[dM]at d),by simp[c'],f.2.2.2⟩
  refine⟨c',rfl,⟨g.bel,fun i o h=> ?_,fun i j o p b d m _ _=> ?_,fun r u=>by simp[c']at u,fun b f=>⟨(g.bar b f).1,(by
   rintro ⟨i,o,d,m⟩;simp only[c',dY]at d m;split at d
   .cases d;exact(g.bar b f).2.1 ⟨id,_,k1,m⟩
   .simp[dM]at d),by simp[c']⟩,g.phi⟩,rfl,rfl,by rw[F6,k2],k3 c' rfl s rfl rfl⟩
  .simp only[c',dY]at h;split at h
   .cases h;obtain⟨q,A,B,d,m,D⟩:=g.obj id _ k1;exact⟨q,A,B,d,gp.mono (fB.mono (fun b f=>⟨s b f,rfl⟩) e) _ _ m,D⟩
   .simp[dM]at h
  grind [dM]
theorem Bz {E:Env} (j:eP E) {g:FuncId} {s:Sum} (l:news s.rs<=1) (h: ∀x y,s.f x=a6 y->jD E g s.ps s.rs x=a6 y) (w:World) (d:Nat->Prop) (e:Array Value) (x) (y) (m:Phi w) (o: ∀b,d b->b<w.heap.size)
  (p:o8 (jM w d) s.ps x e.toList) (q:s.f x=a6 y):(callFunc g e).run E.P w=.ok (.enter g e) w/\Calls E.P g e w (vG w d s.rs y):=by
 have i:=h x y q;unfold jD at i;refine Ak j 1000000 _ w g (EY s.ps x) _ _ y i 0 a7 (jM w d) ⟨#[],[]⟩ [] e (wL m o) (NR _ _ _ p) (vG w d s.rs y) fun L z u M k1 k2 k3 k4=> ?_;obtain⟨us,rfl,v⟩:=EL (by rw[k1];rfl) k3;rw[<-k2.hp]at k1;obtain⟨A,B,D,G,I,J,K⟩:=KO k2.ok k1 l v;exact⟨A,us,rfl,B,D,G.trans k4.bar,I,J,K⟩
theorem qE {E:Env} (d:eP E) {g:FuncId} {s:Sum} (e:news s.rs<=1) (h: ∀x y,s.f x=a6 y->jD E g s.ps s.rs x=a6 y):dK E.P g s:=fun w i j x y l m o p=>.inl (Bz d e h w i j x y l m o p)
theorem ab6 {E:Env} (i:eP E) {g:FuncId} {d:List Ty} {x:(d.foldr Ty.pair Ty.unit).den} {t:Ty} {y:t.den} (q:t.rigid=true) (h:jD E g d [(t,false)] x=a6 (y,())) {w:World} {args:Array Value} (j:o8 (jM w fun _=>False) d x args.toList) (l:Phi w:=by exact trivial):
  Calls E.P g args w fun e w'=>e=.returned (Jn t y)/\Below w.heap.size w w':=by
 obtain⟨_,m⟩:=Bz i (g:=g) (s:=⟨d,[(t,false)],fun o=>jD E g d [(t,false)] o⟩) (by simp[news]) (fun x y h=>h) w (fun _=>False) args x (y,()) l (fun b h=>h.elim) j h;refine m.mono ?_;rintro e w' ⟨v,us,rfl,rfl,p,_,_,_,f⟩;refine⟨?_,p.bel⟩;cases us with
 |nil=>simp[ou,bH]at f
 |cons u us=>
  cases us with
  |cons _ _=>simp[ou,bH]at f
  |nil=>
   simp_all [ou,bH,bP,O5,VD.rigid]
theorem aFb {E:Env} (A:eP E) {g:FuncId} {e e2:Ty} (B:0<e.size) {f:List e.den->Option (List e2.den)} (D: ∀xs y,f xs=a6 y->kK E 1000000 (.call g [.lst e xs false]) ⟨[],[],[],0⟩ (fun v st=>iW false [(.list e2,false)] (GN 1 v) st.hp)=a6 (y,()))
  (h2: ∀y,f []=a6 y->kK E 1000000 (.call g [.lst e [] true]) ⟨[],[],[],0⟩ (fun v st=>iW false [(.list e2,false)] (GN 1 v) st.hp)=a6 (y,())):
  dK E.P g ⟨[.list e],[(.list e2,false)],fun x=>match f x.1 with|some y=>a6 (y,())|none=>a7⟩:=fun w h j x y G I J d=>.inl (by
 obtain⟨u,K,L,M,N⟩:=J;obtain⟨a,n,O,m,o,i,p⟩:=nY M;simp only at d;split at d
 .rename_i q S
  cases d;have U:kK E 1000000 (.call g [.lst e x.1 a.isNone]) ⟨[],[],[],0⟩ (fun v st=>iW false [(.list e2,false)] (GN 1 v) st.hp)=a6 (q,()):=by
   cases ha:a with
   |some _=>exact D _ _ S
   |none=>
    have V:O=[]:=by
     simp_all
    have s:=gp.length _ _ i;rw[V]at s;have ab:x.1=[]:=by
     cases hxx:x.1 with
     |nil=>rfl
     |cons a l=>rw[hxx]at s;have:=Nat.mul_pos (show 0<(a::l).length by simp) B;simp_all
    grind
  have W:bH (jM w h) [.lst e x.1 a.isNone] j.toList:=by
   rw[L,show K=[] from N];simp only[bH,bP,and_true];simp_all
  refine Ak A 1000000 _ w g [.lst e x.1 a.isNone] _ _ _ U 0 a7 (jM w h) ⟨#[],[]⟩ [] j (wL G I) W (vG w h [(.list e2,false)] (q,())) fun c1 z u X k1 k2 k3 k4=> ?_;obtain⟨us,rfl,Y⟩:=EL (own:=false) (rs:=[(.list e2,false)]) (hp:=X.hp) (by grind) k3;rw[<-k2.hp]at k1;obtain⟨Z,m,o,i,p,q5,q6⟩:=KO (rs:=[(.list e2,false)]) k2.ok k1 (by simp[news]) Y;exact⟨Z,us,rfl,m,o,i.trans k4.bar,p,q5,q6⟩
 .cases d)
theorem avq {E:Env} (s:eP E) {g:FuncId} {e e2:Ty} (A:0<e.size) {f:List e.den->Option (List e2.den)} (h0:f []=a7) (B: ∀xs y,f xs=a6 y->kK E 1000000 (.call g [.lst e xs false]) ⟨[],[],[],0⟩ (fun v st=>iW true [(.list e2,true)] (GN 1 v) st.hp)=a6 (y,())):
  dK E.P g ⟨[.list e],[(.list e2,true)],fun x=>match f x.1 with|some y=>a6 (y,())|none=>a7⟩:=fun w h j x y D G I d=>.inl (by
 obtain⟨u,J,K,L,M⟩:=I;obtain⟨a,n,N,m,o,i,p⟩:=nY L;simp only at d;split at d
 .rename_i O S
  cases d;have U:a.isNone=false:=by
   cases U:a with
   |some _=>rfl
   |none=>
    have V:N=[]:=by
     simp_all
    have q:=gp.length _ _ i;rw[V]at q;have ab:x.1=[]:=by
     cases hxx:x.1 with
     |nil=>rfl
     |cons a l=>rw[hxx]at q;have:=Nat.mul_pos (show 0<(a::l).length by simp) A;simp_all
    simp_all
  have W:=B _ _ S;have X:bH (jM w h) [.lst e x.1 false] j.toList:=by
   rw[K,show J=[] from M];simp_all [bH,bP]
  refine Ak s 1000000 _ w g [.lst e x.1 false] _ _ _ W 0 a7 (jM w h) ⟨#[],[]⟩ [] j (wL D G) X (vG w h [(.list e2,true)] (O,())) fun c1 z u Y k1 k2 k3 k4=> ?_;obtain⟨us,rfl,Z⟩:=EL (own:=true) (rs:=[(.list e2,true)]) (hp:=Y.hp) (by grind) k3;rw[<-k2.hp]at k1;obtain⟨c',m,o,i,p,q5,q6⟩:=KO (rs:=[(.list e2,true)]) k2.ok k1 (by simp[news]) Z;exact⟨c',us,rfl,m,o,i.trans k4.bar,p,q5,q6⟩
 .cases d)
theorem Du {E:Env} (M:eP E) {g:FuncId} {e e2:Ty} (W:0<e.size) (X:0<e2.size) {f:List e.den->Option (List e2.den)} (Y: ∀xs y,f xs=a6 y->kK E 1000000 (.call g [.lst e xs false]) ⟨[],[],[],0⟩ (fun v st=>iW true [(.list e2,true)] (GN 1 v) st.hp)=a6 (y,()))
  (h2: ∀y,f []=a6 y->y=[]/\kK E 1000000 (.call g [.lst e [] true]) ⟨[],[],[],0⟩ (fun v st=>match v,st.hp with|.nils,[]=>a6 ()|_,_=>a7)=a6 ()):
  dK E.P g ⟨[.list e],[(.list e2,true)],fun x=>match f x.1 with|some y=>a6 (y,())|none=>a7⟩:=fun w i A x y N O Z m=>.inl (by
 obtain⟨u,ab,hu,hx,ad⟩:=Z;obtain⟨a,n,zs,o,p,j,q⟩:=nY hx;simp only at m;split at m
 .rename_i y' B
  cases m;have s:bH (jM w i) [.lst e x.1 a.isNone] A.toList:=by
   rw[hu,show ab=[] from ad];simp only[bH,bP,and_true];simp_all
  cases ha:a.isNone with
  |true=>
   have hz:zs=[]:=by
    simp_all
   have S:=gp.length _ _ j;rw[hz]at S;have U:x.1=[]:=by
    cases hxx:x.1 with
    |nil=>rfl
    |cons a l=>rw[hxx]at S;have:=Nat.mul_pos (show 0<(a::l).length by simp) W;simp_all
   rw[ha,U]at s;rw[U]at B;obtain⟨rfl,D⟩:=h2 _ B;refine Ak M 1000000 _ w g [.lst e [] true] _ _ _ D 0 a7 (jM w i) ⟨#[],[]⟩ [] A (wL N O) s (vG w i [(.list e2,true)] ([],())) fun c1 z u d k1 k2 k3 k4=> ?_;split at k1
   .rename_i ai ag
    simp only[bP]at k3;obtain⟨V,G,d2,d3⟩:=qX (W0:=w) k2.ok k2.hp k2.nxt (id:=d.nxt) (n':=d.nxt+1) (by rw[ag];rfl) (ae _) (by omega) X (xs:=[]) (Below.refl _ _) (if e2=.int .u8 then oV else 0) [] (World.ownsRow_nil _ _ _ _) (by simp[gp]) (v:=.slice a7 0 0) rfl (fun h=>by simp[h]);have ah:iW true [(.list e2,true)] [.slc d.nxt 0 a7] V.hp=a6 (([],()):List e2.den×Unit):=by
     rw[G.hp];simp only[iW,dM,beq_self_eq_true,Nat.beq_refl,aa,gB];rfl
    have I:bH V [.slc d.nxt 0 a7] [.slice a7 0 0]:=by simp_all [bH]
    obtain⟨J,o,p,j,q,K,L⟩:=KO (rs:=[(.list e2,true)]) G.ok ah (by simp[news]) I;exact⟨J,[.slice a7 0 0],by rw[k3];rfl,o.trans d2,p,j.trans (G.le.bar.trans k4.bar),q,K,L⟩
   .cases k1
  |false=>
   rw[ha]at s;have D:=Y _ _ B;refine Ak M 1000000 _ w g [.lst e x.1 false] _ _ _ D 0 a7 (jM w i) ⟨#[],[]⟩ [] A (wL N O) s (vG w i [(.list e2,true)] (y',())) fun c1 z u d k1 k2 k3 k4=> ?_;obtain⟨us,rfl,I⟩:=EL (own:=true) (rs:=[(.list e2,true)]) (hp:=d.hp) (by grind) k3;rw[<-k2.hp]at k1;obtain⟨J,o,p,j,q,K,L⟩:=KO (rs:=[(.list e2,true)]) k2.ok k1 (by simp[news]) I;exact⟨J,us,rfl,o,p,j.trans k4.bar,q,K,L⟩
 .cases m)
theorem aJc {P:Program} {g:FuncId} {d:List Ty} {rs:List (Ty×Bool)} {f h:(d.foldr Ty.pair Ty.unit).den->Option ((rs.map (·.1)).foldr Ty.pair Ty.unit).den} (c:(d.foldr Ty.pair Ty.unit).den->Bool) (p:dK P g ⟨d,rs,f⟩) (h2:dK P g ⟨d,rs,h⟩):
  dK P g ⟨d,rs,fun x=>bif c x then f x else h x⟩:=fun w i j x y l m o e=>by
 cases hc:c x with
 |true=>simp only[hc,aa]at e;exact p w i j x y l m o e
 |false=>simp only[hc,ac]at e;exact h2 w i j x y l m o e
def Vs:(rs:List Ty)->List bK->gG->Option (rs.foldr Ty.pair Ty.unit).den
 |[],[],_=>a6 ()
 |t::rs,v::l,d=>match(bif true&&(mQ v&& !t.rigid)then a7 else v.as d t),Vs rs l d with
  |some x,a6 y=>a6 (x,y)
  |_,_=>a7
 |_,_,_=>a7
def atx (E:Env) (g:FuncId) (d:TypeId) (cs:List (Ty×Bool)) (e rs:List Ty) (x:((cs.map (·.1)).foldr Ty.pair Ty.unit).den) (y:(e.foldr Ty.pair Ty.unit).den):Option (((cs.map (·.1)).foldr Ty.pair Ty.unit).den×(rs.foldr Ty.pair Ty.unit).den):=
 kK E 1000000 (.call g (.ptr 0 0::Jq e y)) ⟨[.ptr 0 0],[],(0,.box d (GM cs (jb cs 1) x))::ul cs (jb cs 1) x,0⟩ fun v st=>match st.fr with
  |[.ptr 0 0]=>match dM st.hp 0 with
   |some (.box t cells)=>bif Nat.beq t d&&Tu ((oN cs cells).map (·.1))then(match jJ st.hp true cs cells with
    |some f=>match Vs rs (GN rs.length v) st.hp with
     |some h=>a6 (f,h)
     |none=>a7
    |none=>a7)else a7
   |_=>a7
  |_=>a7
theorem WW: ∀(rs:List Ty) (l:List bK) {hp:gG},(Vs rs l hp).isSome=true->(iW true (rs.map fun t=>(t,false)) l hp).isSome=true
 |[],[],_,_=>rfl
 |[],_::_,_,h=>by simp[Vs]at h
 |_::_,[],_,h=>by simp[Vs]at h
 |t::rs,v::l,hp,h=>by
  simp only[Vs]at h;split at h
  .rename_i x y d e
   have:=WW rs l (hp:=hp) (by rw[e];rfl);change @Option.isSome ((((t,false)::rs.map fun t=>(t,false)).map (·.1)).foldr Ty.pair Ty.unit).den (iW true ((t,false)::rs.map fun t=>(t,false)) (v::l) hp)=true;rw[iW];rw[show bK.asR hp true t v=v.as hp t from rfl,d];cases h3:iW true (rs.map fun t=>(t,false)) l hp with
   |none=>simp_all
   |some z=>rfl
  .cases h
theorem ad1 (e:c.Ok W0): ∀(rs:List Ty) (l:List bK) (z) (us:List Value),Vs rs l c.hp=a6 z->bH c l us->o8 c rs z us
 |[],[],z,[],_,_=>rfl
 |[],[],_,_::_,_,d=>by simp[bH]at d
 |[],_::_,_,_,h,_=>by simp[Vs]at h
 |_::_,[],_,_,h,_=>by simp[Vs]at h
 |t::rs,v::l,z,[],_,d=>by simp[bH]at d
 |t::rs,v::l,z,u::us,h,d=>by
  simp only[Vs]at h;split at h
  .rename_i x y f g
   cases h;simp only[bH]at d;exact⟨u,us,rfl,aa5 (own:=true) (c':=c) rfl (fun b h=>h) (fun h=>by cases h) e f d.1,ad1 e rs l y us g d.2⟩
  .cases h
theorem aez {E:Env} (K:eP E) {g:FuncId} {s:fF} (h: ∀x y z,s.f x y=a6 z->atx E g s.bt s.cs s.ps s.rs x y=a6 z):dI E.P g s:=fun W0 c x y z L Z M o N d O=>by
 have p:=h x y z O;unfold atx at p;obtain⟨us⟩:=N;cases us with
 |nil=>simp[bH]at d
 |cons u0 us=>
 have q:=d;simp only[bH]at q;obtain⟨A,_⟩:=q;have e:iM W0 0 a7 c ⟨[.ptr 0 0],[],(0,.box s.bt (GM s.cs (jb s.cs 1) x))::ul s.cs (jb s.cs 1) x,0⟩ ⟨#[u0],[]⟩ []:=
  ⟨o,M,L,by simp_all [bH],trivial,⟨[],rfl,List.nodup_nil,fun r e=>by simp at e⟩,fun l S=>by cases S⟩
 refine Ak K 1000000 _ W0 g (.ptr 0 0::Jq s.ps y) _ _ z p 0 a7 c ⟨#[u0],[]⟩ [] ⟨u0::us⟩ e d (ay1 W0 c s z) fun U v u V k1 k2 k3 k4=> ?_;split at k1<;>try (cases k1;done)
 rename_i W
 split at k1<;>try (cases k1;done)
 rename_i t cells i
 replace k1:=dB k1;obtain⟨B,k1⟩:=k1;simp only[af]at B;obtain⟨j,X⟩:=B;have j:t=s.bt:=aj j;subst j;split at k1<;>try (cases k1;done)
 rename_i x' D
 split at k1<;>try (cases k1;done)
 rename_i Y G
 cases k1;obtain⟨I,rfl,J⟩:=EL (own:=true) (rs:=s.rs.map fun t=>(t,false)) (hp:=V.hp) (by simp_all [WW]) k3;rw[aI]at J;rw[<-k2.hp]at i D G;refine⟨U,I,cells,rfl,rfl,k2.ok,k4,i, ?_,Ei X,D,ad1 k2.ok s.rs _ Y I G J⟩;have m:=k2.fr;rw[W]at m;simp only[bH,bP,and_true]at m;simp only[bP]at A;have e1:=m.2.2 _ _ i;have e2:=A.2.2 _ _ (by rw[o];simp[dY];exact⟨rfl,rfl⟩);simp_all
end
end
section
open Go.RowKit
def avm:Sum:=⟨[.str,.int .u8],[(.int .i64,false)],fun x=>some (Lib.indexByte x.1 x.2.1.toNat.toUInt8,())⟩
theorem Jg {w:World} {d:Nat->Prop} (e:Phi w) (hb: ∀b,d b->b<w.heap.size):(jM w d).Ok w:=(wL e hb).ok
theorem aeA {P:Program} {g:FuncId} {fn:Func} (hf:P.funcs[g]? =some fn) (e:(fn.name== "runtime.NumGoroutine")=false) (hb:fn.body.isNone=true) (f:Extern.findNext fn=none)
  (h:Extern.find fn=some Extern.BytealgIndexByte.indexByte):dK P g avm:=by
 intro w i j x y l m o p;obtain⟨u,G,I,q,s,J,v,z,d⟩:=o;simp only[o8]at d;subst d v;have A:j= #[u,s]:=by
  grind
 subst A;have B:=q.str_inv;have D:=z.int_inv;subst B D;have E:=Option.some.inj p;subst E;refine .inr ⟨_,by rw[run_callFunc_extern hf e hb f h,Lib.run_indexByteString];rfl,jM w i,[_],rfl,rfl,Jg l m,rfl,rfl,rfl, ?_⟩;simp_all [avm,ou,bH,bP,VD.int_mk]
def avl:Sum:=⟨[.str,.str],[(.int .i64,false)],fun x=>some (Lib.compareBytes x.1 x.2.1,())⟩
theorem aFI {P:Program} {g:FuncId} {fn:Func} (hf:P.funcs[g]? =some fn) (e:(fn.name== "runtime.NumGoroutine")=false) (hb:fn.body.isNone=true) (f:Extern.findNext fn=none)
  (h:Extern.find fn=some Extern.BytealgCompare.compare):dK P g avl:=by
 intro w i j x y l m o p;obtain⟨u,G,I,q,s,J,v,z,d⟩:=o;simp only[o8]at d;subst d v;have A:j= #[u,s]:=by
  grind
 subst A;have B:=q.str_inv;have D:=z.str_inv;subst B D;have E:=Option.some.inj p;subst E;refine .inr ⟨_,by rw[run_callFunc_extern hf e hb f h,Lib.run_compareString];rfl,jM w i,[_],rfl,rfl,Jg l m,rfl,rfl,rfl, ?_⟩;simp_all [avl,ou,bH,bP,VD.int_mk]
end
section
open Option renaming some → a6, none → a7
open Bool renaming and_eq_true → af, false_eq_true → ah
open List renaming mem_cons_of_mem → au, mem_cons_self → aP
open Nat renaming eq_of_beq_eq_true → aj
open Go.RowKit
inductive FK where
 |u
 |v (t:Ty)
 |slc (id:Nat)
 |ptr (id off:Nat)
 |nils
 |slf (id:Nat)
 |yld (id:Nat)
 |nilp
 |e
 |fn (f:FuncId) (caps:List (Nat×Nat))
 |cp (t:Ty)
 |mpv (id:Nat)
 |mfn (f:FuncId) (fst:List (Nat×Nat))
 |kb (b:Bool)
def us (l:List FK) (n:Nat):List FK:=l++List.replicate n .u
def FKs.den:List FK->Ty
 |[]=>.unit
 |.v t::l=>.pair t (FKs.den l)
 |.u::l=>FKs.den l
 |.slc _::l=>FKs.den l
 |.ptr _ _::l=>FKs.den l
 |.nils::l=>FKs.den l
 |.slf _::l=>FKs.den l
 |.mpv _::l=>FKs.den l
 |.mfn _ _::l=>FKs.den l
 |.kb _::l=>FKs.den l
 |.yld _::l=>FKs.den l
 |.nilp::l=>FKs.den l
 |.e::l=>FKs.den l
 |.fn _ _::l=>FKs.den l
 |.cp t::l=>.pair t (FKs.den l)
def MX:List (Nat×Nat)->List bK
 |[]=>[]
 |(i,o)::l=>.ptr i o::MX l
def U0:(l:List FK)->(FKs.den l).den->List bK
 |[],_=>[]
 |.v t::l,y=>.val t y.1::U0 l y.2
 |.u::l,y=>.undef::U0 l y
 |.slc id::l,y=>.slc id 0 a7::U0 l y
 |.ptr id d::l,y=>.ptr id d::U0 l y
 |.nils::l,y=>.nils::U0 l y
 |.slf id::l,y=>.slf id::U0 l y
 |.mpv id::l,y=>.mpv id::U0 l y
 |.mfn f c::l,y=>.mfn f (MX c)::U0 l y
 |.kb b::l,y=>.val .bool b::U0 l y
 |.yld id::l,y=>.yld id::U0 l y
 |.nilp::l,y=>.nilp::U0 l y
 |.e::l,y=>.tup []::U0 l y
 |.fn f g::l,y=>.fn f (MX g)::U0 l y
 |.cp t::l,y=>.cellp t y.1::U0 l y.2
def alk (t:Ty):bK->Option t.den
 |.val t' x=>ku t x
 |_=>a7
def avY (t:Ty):bK->Option t.den
 |.cellp t' x=>ku t x
 |_=>a7
def awF (b:Bool):bK->Bool
 |.val .bool c=>bif b then c else !c
 |_=>false
def isU:bK->Bool
 |.undef=>true
 |_=>false
def isNils:bK->Bool
 |.nils=>true
 |_=>false
def Yx:bK->Bool
 |.nilp=>true
 |_=>false
def isE:bK->Bool
 |.tup l=>l.isEmpty
 |_=>false
def aiw (id:Nat):bK->Bool
 |.slf i=>Nat.beq i id
 |_=>false
def aiv (id:Nat):bK->Bool
 |.mpv i=>Nat.beq i id
 |_=>false
def aix (id:Nat):bK->Bool
 |.yld i=>Nat.beq i id
 |_=>false
def ac3 (id:Nat):bK->Bool
 |.slc i v w=>Nat.beq i id&&(Nat.beq v 0&&(match w with|none=>true|some _=>false))
 |_=>false
def isPtr (id off:Nat):bK->Bool
 |.ptr i o=>Nat.beq i id&&Nat.beq o off
 |_=>false
def Iw:List (Nat×Nat)->List bK->Bool
 |[],[]=>true
 |(i,o)::c,v::l=>isPtr i o v&&Iw c l
 |_,_=>false
def ark (f:FuncId) (c:List (Nat×Nat)):bK->Bool
 |.fn g l=>Nat.beq g f&&Iw c l
 |_=>false
def ac0 (f:FuncId) (c:List (Nat×Nat)):bK->Bool
 |.mfn g l=>Nat.beq g f&&Iw c l
 |_=>false
theorem ahp {t:Ty} {v:bK} {x:t.den} (h:alk t v=a6 x):v=.val t x:=by
 cases v with
 |val t' z=>
  grind [alk,iI,gB]
 |_=>simp[alk]at h
theorem alF {t:Ty} {v:bK} {x:t.den} (h:avY t v=a6 x):v=.cellp t x:=by
 cases v with
 |cellp t' z=>
  grind [avY,iI,gB]
 |_=>simp[avY]at h
theorem arl {v:bK} (h:isU v=true):v=.undef:=by grind [isU]
theorem ac2 {v:bK} (h:isNils v=true):v=.nils:=by grind [isNils]
theorem D8: ∀{c:List (Nat×Nat)} {l:List bK},Iw c l=true->l=MX c
 |[],[],_=>rfl
 |(i,o)::c,v::l,h=>by
  simp only[Iw,af]at h;have d:v=.ptr i o:=by
   have:=h.1;cases v<;>simp only[isPtr,ah]at this;simp_all
  rw[d,D8 h.2];rfl
 |[],_::_,h=>by simp[Iw]at h
 |_::_,[],h=>by simp[Iw]at h
theorem amU {f:FuncId} {c:List (Nat×Nat)} {v:bK} (h:ark f c v=true):v=.fn f (MX c):=by
 cases v with
 |fn g l=>
  simp only[ark,af]at h;rw[aj h.1,D8 h.2]
 |_=>simp[ark]at h
theorem amV {b:Bool} {v:bK} (h:awF b v=true):v=.val .bool b:=by
 unfold awF at h;split at h
 .rename_i c
  cases b<;>cases c<;>first|rfl|exact absurd h (by decide)
 .exact absurd h (by decide)
theorem afG {f:FuncId} {c:List (Nat×Nat)} {v:bK} (h:ac0 f c v=true):v=.mfn f (MX c):=by
 cases v with
 |mfn g l=>
  simp only[ac0,af]at h;rw[aj h.1,D8 h.2]
 |_=>simp[ac0]at h
theorem ac1 {v:bK} (h:Yx v=true):v=.nilp:=by grind [Yx]
theorem arj {v:bK} (h:isE v=true):v=.tup []:=by
 cases v with
 |tup l=>simp_all [isE]
 |_=>simp[isE]at h
theorem afK {id:Nat} {v:bK} (h:aiw id v=true):v=.slf id:=by
 cases v with
 |slf i=>rw[aj h]
 |_=>simp[aiw]at h
theorem afH {id:Nat} {v:bK} (h:aiv id v=true):v=.mpv id:=by
 cases v with
 |mpv i=>rw[aj h]
 |_=>simp[aiv]at h
theorem afL {id:Nat} {v:bK} (h:aix id v=true):v=.yld id:=by
 cases v with
 |yld i=>rw[aj h]
 |_=>simp[aix]at h
theorem afI {id:Nat} {v:bK} (h:ac3 id v=true):v=.slc id 0 a7:=by
 cases v with
 |slc i k w=>
  simp only[ac3,af]at h;obtain rfl:i=id:=aj h.1;obtain rfl:k=0:=aj h.2.1
  grind
 |_=>simp[ac3]at h
theorem afJ {id off:Nat} {v:bK} (h:isPtr id off v=true):v=.ptr id off:=by
 cases v with
 |ptr i o=>
  simp_all [isPtr]
 |_=>simp[isPtr]at h
def kw:(l:List FK)->List bK->Option (FKs.den l).den
 |[],d=>match d with
  |[]=>a6 ()
  |_=>a7
 |.v t::l,d=>match d with
  |v::d=>match alk t v,kw l d with
   |some x,a6 y=>a6 (x,y)
   |_,_=>a7
  |[]=>a7
 |.u::l,d=>match d with
  |v::d=>bif isU v then kw l d else a7
  |[]=>a7
 |.slc id::l,d=>match d with
  |v::d=>bif ac3 id v then kw l d else a7
  |[]=>a7
 |.ptr id g::l,d=>match d with
  |v::d=>bif isPtr id g v then kw l d else a7
  |[]=>a7
 |.nils::l,d=>match d with
  |v::d=>bif isNils v then kw l d else a7
  |[]=>a7
 |.nilp::l,d=>match d with
  |v::d=>bif Yx v then kw l d else a7
  |[]=>a7
 |.e::l,d=>match d with
  |v::d=>bif isE v then kw l d else a7
  |[]=>a7
 |.fn f c::l,d=>match d with
  |v::d=>bif ark f c v then kw l d else a7
  |[]=>a7
 |.mfn f c::l,d=>match d with
  |v::d=>bif ac0 f c v then kw l d else a7
  |[]=>a7
 |.kb b::l,d=>match d with
  |v::d=>bif awF b v then kw l d else a7
  |[]=>a7
 |.slf id::l,d=>match d with
  |v::d=>bif aiw id v then kw l d else a7
  |[]=>a7
 |.mpv id::l,d=>match d with
  |v::d=>bif aiv id v then kw l d else a7
  |[]=>a7
 |.yld id::l,d=>match d with
  |v::d=>bif aix id v then kw l d else a7
  |[]=>a7
 |.cp t::l,d=>match d with
  |v::d=>match avY t v,kw l d with
   |some x,a6 y=>a6 (x,y)
   |_,_=>a7
  |[]=>a7
theorem iL: ∀(l:List FK) (fr:List bK) (y:(FKs.den l).den),kw l fr=a6 y->fr=U0 l y
 |[],fr,y,h=>by
  simp only[kw]at h;split at h
  .rfl
  .cases h
 |.v t::l,fr,y,h=>by
  simp only[kw]at h;split at h
  .split at h
   .rename_i x g i j
    cases h;rw[ahp i,iL l _ g j];rfl
   .cases h
  .cases h
 |.u::l,fr,y,h=>by
  simp only[kw]at h;split at h
  .rename_i v fr
   obtain⟨d,h⟩:isU v=true/\kw l fr=a6 y:=dB h;rw[arl d,iL l fr y h];rfl
  .cases h
 |.slc id::l,fr,y,h=>by
  simp only[kw]at h;split at h
  .rename_i v fr
   obtain⟨d,h⟩:ac3 id v=true/\kw l fr=a6 y:=dB h;rw[afI d,iL l fr y h];rfl
  .cases h
 |.ptr id m::l,fr,y,h=>by
  simp only[kw]at h;split at h
  .rename_i v fr
   obtain⟨d,h⟩:isPtr id m v=true/\kw l fr=a6 y:=dB h;rw[afJ d,iL l fr y h];rfl
  .cases h
 |.nils::l,fr,y,h=>by
  simp only[kw]at h;split at h
  .rename_i v fr
   obtain⟨d,h⟩:isNils v=true/\kw l fr=a6 y:=dB h;rw[ac2 d,iL l fr y h];rfl
  .cases h
 |.nilp::l,fr,y,h=>by
  simp only[kw]at h;split at h
  .rename_i v fr
   obtain⟨d,h⟩:Yx v=true/\kw l fr=a6 y:=dB h;rw[ac1 d,iL l fr y h];rfl
  .cases h
 |.e::l,fr,y,h=>by
  simp only[kw]at h;split at h
  .rename_i v fr
   obtain⟨d,h⟩:isE v=true/\kw l fr=a6 y:=dB h;rw[arj d,iL l fr y h];rfl
  .cases h
 |.fn f c::l,fr,y,h=>by
  simp only[kw]at h;split at h
  .rename_i v fr
   obtain⟨d,h⟩:ark f c v=true/\kw l fr=a6 y:=dB h;rw[amU d,iL l fr y h];rfl
  .cases h
 |.mfn f c::l,fr,y,h=>by
  simp only[kw]at h;split at h
  .rename_i v fr
   obtain⟨d,h⟩:ac0 f c v=true/\kw l fr=a6 y:=dB h;rw[afG d,iL l fr y h];rfl
  .cases h
 |.kb b::l,fr,y,h=>by
  simp only[kw]at h;split at h
  .rename_i v fr
   obtain⟨d,h⟩:awF b v=true/\kw l fr=a6 y:=dB h;rw[amV d,iL l fr y h];rfl
  .cases h
 |.slf id::l,fr,y,h=>by
  simp only[kw]at h;split at h
  .rename_i v fr
   obtain⟨d,h⟩:aiw id v=true/\kw l fr=a6 y:=dB h;rw[afK d,iL l fr y h];rfl
  .cases h
 |.mpv id::l,fr,y,h=>by
  simp only[kw]at h;split at h
  .rename_i v fr
   obtain⟨d,h⟩:aiv id v=true/\kw l fr=a6 y:=dB h;rw[afH d,iL l fr y h];rfl
  .cases h
 |.yld id::l,fr,y,h=>by
  simp only[kw]at h;split at h
  .rename_i v fr
   obtain⟨d,h⟩:aix id v=true/\kw l fr=a6 y:=dB h;rw[afL d,iL l fr y h];rfl
  .cases h
 |.cp t::l,fr,y,h=>by
  simp only[kw]at h;split at h
  .split at h
   .rename_i x g i j
    cases h;rw[alF i,iL l _ g j];rfl
   .cases h
  .cases h
noncomputable def rfA (f:FuncId) (k:Nat):Code:=match uI f k with
 |some (a,_)=>a
 |none=>.skip
noncomputable def rfB (f:FuncId) (k:Nat):Code:=match uI f k with
 |some (_,b)=>b
 |none=>.skip
inductive HK where
 |arr (id:Nat) (e:Ty)
 |box (id:Nat) (t:TypeId) (cs:List FK)
 |mp (id:Nat) (kk vk:IntKind)
 |lp (id:Nat) (f:FuncId) (fr:List FK) (ps:List Nat) (key:Nat) (n:Nat) (p:Option Ex)
def HKs.den:List HK->Ty
 |[]=>.unit
 |.arr _ e::l=>.pair (.list e) (HKs.den l)
 |.mp _ kk d::l=>.pair (.list (.pair (.int kk) (.int d))) (HKs.den l)
 |.box _ _ cs::l=>.pair (FKs.den cs) (HKs.den l)
 |.lp _ _ fr _ _ _ _::l=>.pair (FKs.den fr) (HKs.den l)
noncomputable def mkH:(l:List HK)->(HKs.den l).den->gG
 |[],_=>[]
 |.arr id e::l,y=>(id,.arr e 0 y.1)::mkH l y.2
 |.mp id kk d::l,y=>(id,.mp kk d y.1)::mkH l y.2
 |.box id t cs::l,y=>(id,.box t (U0 cs y.1))::mkH l y.2
 |.lp id f fr ps key n p::l,y=>(id,.lp f (U0 fr y.1) ps (rfA f key) (rfB f key) (a6 key) n p)::mkH l y.2
def ahv (e:Ty):dJ->Option (List e.den)
 |.arr e' v d=>bif Nat.beq v 0 then ku (.list e) (t':=.list e') d else a7
 |_=>a7
def axI (d e:IntKind):dJ->Option (List (Int×Int))
 |.mp k v f=>bif decide (k=d)&&decide (v=e)then a6 f else a7
 |_=>a7
theorem am5 {d e:IntKind} {o:dJ} {x:List (Int×Int)} (h:axI d e o=a6 x):o=.mp d e x:=by
 cases o with
 |mp k v f=>
  simp only[axI]at h
  grind
 |_=>simp[axI]at h
def ahz (t:TypeId) (cs:List FK):dJ->Option (FKs.den cs).den
 |.box t' l=>bif Nat.beq t' t then kw cs l else a7
 |_=>a7
def aBv:Ex->Ex->Bool
 |.normal,.normal=>true
 |.exit i,.exit j=>Nat.beq i j
 |.goto i,.goto j=>Nat.beq i j
 |.ret,.ret=>true
 |_,_=>false
def atj:Option Ex->Option Ex->Bool
 |none,a7=>true
 |some a,a6 b=>aBv a b
 |_,_=>false
def MQ:List Nat->List Nat->Bool
 |[],[]=>true
 |a::l,b::m=>Nat.beq a b&&MQ l m
 |_,_=>false
theorem amD {a b:Ex} (h:aBv a b=true):a=b:=by
 cases a<;>cases b<;>simp only[aBv,ah]at h<;>first|rfl|simp_all
theorem agV {a b:Option Ex} (h:atj a b=true):a=b:=by
 cases a<;>cases b<;>simp only[atj,ah]at h<;>first|rfl|rw[amD h]
theorem Ot: ∀{l m:List Nat},MQ l m=true->l=m
 |[],[],_=>rfl
 |a::l,b::m,h=>by
  simp only[MQ,af]at h;rw[aj h.1,Ot h.2]
 |[],_::_,h=>by simp[MQ]at h
 |_::_,[],h=>by simp[MQ]at h
def asc (f:FuncId) (fr:List FK) (d:List Nat) (key n:Nat) (p:Option Ex):dJ->Option (FKs.den fr).den
 |.lp f' fr' ps' _ _ (a6 e) n' g=>bif Nat.beq f' f&&(MQ ps' d&&(Nat.beq e key&&(Nat.beq n' n&&atj g p)))then kw fr fr' else a7
 |_=>a7
theorem aeR {e:Ty} {o:dJ} {x:List e.den} (h:ahv e o=a6 x):o=.arr e 0 x:=by
 cases o with
 |arr e' v f=>
  simp only[ahv]at h;rw[cond_eq_ite]at h;split at h
  .rename_i d
   obtain rfl:v=0:=aj d
   grind [iI,gB]
  .cases h
 |_=>simp[ahv]at h
theorem aeV {t:TypeId} {cs:List FK} {o:dJ} {x:(FKs.den cs).den} (h:ahz t cs o=a6 x):o=.box t (U0 cs x):=by
 cases o with
 |box t' l=>
  simp only[ahz]at h;obtain⟨d,h⟩:=dB h;rw[iL cs l x h,aj d]
 |_=>simp[ahz]at h
theorem am4 {f:FuncId} {fr:List FK} {m:List Nat} {key n:Nat} {p:Option Ex} {o:dJ} {x:(FKs.den fr).den} (u:WfO o) (h:asc f fr m key n p o=a6 x):o=.lp f (U0 fr x) m (rfA f key) (rfB f key) (a6 key) n p:=by
 cases o with
 |lp f' fr' ps' jk bd ky n' v=>
  cases ky with
  |none=>simp[asc]at h
  |some d=>
   simp only[asc]at h;replace h:=dB h;obtain⟨q,h⟩:=h;simp only[af]at q;obtain⟨e,g,i,j,l⟩:=q;have e:=aj e;have g:=Ot g;have i:=aj i;have j:=aj j;have l:=agV l;subst e g i j l;have s:uI f' d=a6 (jk,bd):=u;have y:rfA f' d=jk:=by unfold rfA;rw[s]
   have z:rfB f' d=bd:=by unfold rfB;rw[s]
   grind [iL]
 |_=>simp[asc]at h
def OZ:(l:List HK)->gG->Option (HKs.den l).den
 |[],d=>match d with
  |[]=>a6 ()
  |_=>a7
 |.arr id e::l,d=>match d with
  |(j,o)::d=>bif Nat.beq j id then(match ahv e o,OZ l d with
   |some x,a6 y=>a6 (x,y)
   |_,_=>a7)else a7
  |[]=>a7
 |.mp id kk g::l,d=>match d with
  |(j,o)::d=>bif Nat.beq j id then(match axI kk g o,OZ l d with
   |some x,a6 y=>a6 (x,y)
   |_,_=>a7)else a7
  |[]=>a7
 |.box id t cs::l,d=>match d with
  |(j,o)::d=>bif Nat.beq j id then(match ahz t cs o,OZ l d with
   |some x,a6 y=>a6 (x,y)
   |_,_=>a7)else a7
  |[]=>a7
 |.lp id f fr ps key n p::l,d=>match d with
  |(j,o)::d=>bif Nat.beq j id then(match asc f fr ps key n p o,OZ l d with
   |some x,a6 y=>a6 (x,y)
   |_,_=>a7)else a7
  |[]=>a7
theorem wO: ∀(l:List HK) (hp:gG) (y:(HKs.den l).den),(∀e∈hp,WfO e.2)->OZ l hp=a6 y->hp=mkH l y
 |[],hp,y,_,h=>by
  simp only[OZ]at h;split at h
  .rfl
  .cases h
 |.arr id e::l,hp,y,d,h=>by
  simp only[OZ]at h;split at h
  .rw[cond_eq_ite]at h;split at h
   .rename_i g
    split at h
    .rename_i x i j m
     cases h;rw[aeR j,wO l _ i (fun e o=>d e (au _ o)) m,aj g];rfl
    .cases h
   .cases h
  .cases h
 |.mp id kk s::l,hp,y,d,h=>by
  simp only[OZ]at h;split at h
  .rw[cond_eq_ite]at h;split at h
   .rename_i g
    split at h
    .rename_i x i j m
     cases h;rw[am5 j,wO l _ i (fun e o=>d e (au _ o)) m,aj g];rfl
    .cases h
   .cases h
  .cases h
 |.box id t cs::l,hp,y,d,h=>by
  simp only[OZ]at h;split at h
  .rw[cond_eq_ite]at h;split at h
   .rename_i g
    split at h
    .rename_i x i j m
     cases h;rw[aeV j,wO l _ i (fun e o=>d e (au _ o)) m,aj g];rfl
    .cases h
   .cases h
  .cases h
 |.lp id f fr ps key n p::l,hp,y,d,h=>by
  simp only[OZ]at h;split at h
  .rw[cond_eq_ite]at h;split at h
   .rename_i g
    split at h
    .rename_i x i j m
     cases h;have q:=d _ aP;dsimp only at q;rw[am4 q j,wO l _ i (fun e o=>d e (au _ o)) m,aj g];rfl
    .cases h
   .cases h
  .cases h
structure SP where
 fr:List FK
 hp:List HK
def SP.den (p:SP):Type:=(FKs.den p.fr).den×(HKs.den p.hp).den
noncomputable def lw (p:SP) (y:p.den):St:=⟨U0 p.fr y.1,[[]],mkH p.hp y.2,0⟩
def arc (p:SP) (st:St):Option p.den:=
 match st.stk,st.nxt with
 |[[]],0=>match kw p.fr st.fr,OZ p.hp st.hp with
  |some x,a6 y=>bif tu st.hp then a6 (x,y)else a7
  |_,_=>a7
 |_,_=>a7
theorem RY {p:SP} {st:St} {y:p.den} (d:WfH st.hp) (h:arc p st=a6 y):st=lw p y:=by
 obtain⟨l,m,hp,o⟩:=st;unfold arc at h;split at h
 .rename_i e f
  subst e f;split at h
  .rename_i x q g i
   replace h:=dB h;obtain⟨j,h⟩:=h;cases h;have s:=iL _ _ _ g;have u:=wO _ _ _ (NM _ j d) i;simp_all [lw]
  .cases h
 .cases h
def Be {R:Type} (E:Env) (d:Nat) (f:FuncId) (c:Code):St->(Ex->St->Option R)->Option R:=run (E.at d) (kK E d) (VS E d) f c
noncomputable def fH (k:eG) (l d e:SP) (g:Ex) (h:l.den->Option (d.den⊕e.den)) (f:Nat:=0) (i:Ex:=.ret):dA:={
 V:=l.den
 A:=fun _=>d.den
 B:=fun _=>e.den
 get:=fun st=>match LG k.slots k.owns st with
  |some st=>arc l st
  |none=>a7
 spec:=h
 exA:=fun _=>g
 stA:=fun _ _ a=>lw d a
 stB:=fun _ _ b=>lw e b
 dep:=f
 exB:=fun _=>i}
theorem am2 {E:Env} {f:FuncId} {c:Code} {k:eG} {l i j:SP} {s:Ex} {p:l.den->Option (i.den⊕j.den)} {u:Nat} {x:Ex} (hk:E.kp f (dC c)=a6 k)
  (h: ∀(R:Type) (d:Nat) (K:Ex->St->Option R) (v:l.den) o,p v=a6 o->
   ∃m,iter (a6 k) (Be E (d+u) f c) m (lw l v) K=dL o (fun a=>K s (lw i a)) fun b=>K x (lw j b)):dQ E f c (fH k l i j s p u x):=by
 intro R d r st v K A q g;simp only[fH]at q;split at q
 .rename_i D y
  have e:=RY (A _ _ _ y) q;subst e;simp only[fH]at g;cases ho:p v with
  |none=>rw[ho]at g;cases g
  |some o=>
   rw[ho]at g;obtain⟨m,B⟩:=h R d K v o ho;have z:(E.at (d+(fH k l i j s p u x).dep)).kp f (dC c)=a6 k:=hk;refine⟨m,lw l v,by rw[z];exact y, ?_⟩;rw[z];exact B.trans g
 .cases q
theorem Jm {E:Env} {f:FuncId} {c:Code} {k:eG} {l i j:SP} {s:Ex} {p:l.den->Option (i.den⊕j.den)} {u:Nat} {x:Ex} (hk:E.kp f (800000+dC c)=a6 k)
  (h: ∀(R:Type) (d:Nat) (K:Ex->St->Option R) (v:l.den) o,p v=a6 o->
   ∃m,iter (a6 k) (DL (Be E (d+u) f c)) m (lw l v) K=dL o (fun a=>K s (lw i a)) fun b=>K x (lw j b)):uX E f c (fH k l i j s p u x):=by
 intro R d r st v K A q g;simp only[fH]at q;split at q
 .rename_i D y
  have e:=RY (A _ _ _ y) q;subst e;simp only[fH]at g;cases ho:p v with
  |none=>rw[ho]at g;cases g
  |some o=>
   rw[ho]at g;obtain⟨m,B⟩:=h R d K v o ho;have z:(E.at (d+(fH k l i j s p u x).dep)).kp f (800000+dC c)=a6 k:=hk;refine⟨m,lw l v,by rw[z];exact y, ?_⟩;rw[z];exact B.trans g
 .cases q
def FKss.den:List (List FK)->Type
 |[]=>Unit
 |l::d=>(FKs.den l).den×FKss.den d
def mkK:(l:List (List FK))->FKss.den l->List (List bK)
 |[],_=>[]
 |l::d,y=>U0 l y.1::mkK d y.2
def arb:(l:List (List FK))->List (List bK)->Option (FKss.den l)
 |[],st=>match st with
  |[]=>a6 ()
  |_=>a7
 |l::d,st=>match st with
  |e::st=>match kw l e,arb d st with
   |some x,a6 y=>a6 (x,y)
   |_,_=>a7
  |[]=>a7
theorem V9: ∀(l:List (List FK)) (st:List (List bK)) (y:FKss.den l),arb l st=a6 y->st=mkK l y
 |[],st,y,h=>by
  simp only[arb]at h;split at h
  .rfl
  .cases h
 |l::d,st,y,h=>by
  simp only[arb]at h;split at h
  .split at h
   .rename_i x e f g
    cases h;rw[iL _ _ _ f,V9 d _ e g];rfl
   .cases h
  .cases h
structure SQ where
 fr:List FK
 stk:List (List FK)
 hp:List HK
def SQ.den (p:SQ):Type:=(FKs.den p.fr).den×(FKss.den p.stk×(HKs.den p.hp).den)
noncomputable def mX (p:SQ) (y:p.den):St:=⟨U0 p.fr y.1,mkK p.stk y.2.1,mkH p.hp y.2.2,0⟩
def afF (p:SQ) (st:St):Option p.den:=
 match st.nxt with
 |0=>match kw p.fr st.fr,arb p.stk st.stk,OZ p.hp st.hp with
  |some x,a6 k,a6 y=>bif tu st.hp then a6 (x,k,y)else a7
  |_,_,_=>a7
 |_=>a7
theorem N8 {p:SQ} {st:St} {y:p.den} (d:WfH st.hp) (h:afF p st=a6 y):st=mX p y:=by
 obtain⟨j,l,hp,m⟩:=st;unfold afF at h;split at h
 .rename_i e
  subst e;split at h
  .rename_i x k o f hk g
   replace h:=dB h;obtain⟨i,h⟩:=h;cases h;have q:=iL _ _ _ f;have s:=wO _ _ _ (NM _ i d) g
   grind [V9,mX]
  .cases h
 .cases h
noncomputable def fK (k:eG) (l d e:SQ) (g:Ex) (h:l.den->Option (d.den⊕e.den)) (f:Nat:=0) (i:Ex:=.ret):dA:={
 V:=l.den
 A:=fun _=>d.den
 B:=fun _=>e.den
 get:=fun st=>match LG k.slots k.owns st with
  |some st=>afF l st
  |none=>a7
 spec:=h
 exA:=fun _=>g
 stA:=fun _ _ a=>mX d a
 stB:=fun _ _ b=>mX e b
 dep:=f
 exB:=fun _=>i}
theorem afY {E:Env} {f:FuncId} {c:Code} {k:eG} {l i j:SQ} {s:Ex} {p:l.den->Option (i.den⊕j.den)} {u:Nat} {x:Ex} (hk:E.kp f (dC c)=a6 k)
  (h: ∀(R:Type) (d:Nat) (K:Ex->St->Option R) (v:l.den) o,p v=a6 o->
   ∃m,iter (a6 k) (Be E (d+u) f c) m (mX l v) K=dL o (fun a=>K s (mX i a)) fun b=>K x (mX j b)):dQ E f c (fK k l i j s p u x):=by
 intro R d r st v K A q g;simp only[fK]at q;split at q
 .rename_i D y
  have e:=N8 (A _ _ _ y) q;subst e;simp only[fK]at g;cases ho:p v with
  |none=>rw[ho]at g;cases g
  |some o=>
   rw[ho]at g;obtain⟨m,B⟩:=h R d K v o ho;have z:(E.at (d+(fK k l i j s p u x).dep)).kp f (dC c)=a6 k:=hk;refine⟨m,mX l v,by rw[z];exact y, ?_⟩;rw[z];exact B.trans g
 .cases q
theorem alG {E:Env} {f:FuncId} {c:Code} {k:eG} {l i j:SQ} {s:Ex} {p:l.den->Option (i.den⊕j.den)} {u:Nat} {x:Ex} (hk:E.kp f (800000+dC c)=a6 k)
  (h: ∀(R:Type) (d:Nat) (K:Ex->St->Option R) (v:l.den) o,p v=a6 o->
   ∃m,iter (a6 k) (DL (Be E (d+u) f c)) m (mX l v) K=dL o (fun a=>K s (mX i a)) fun b=>K x (mX j b)):uX E f c (fK k l i j s p u x):=by
 intro R d r st v K A q g;simp only[fK]at q;split at q
 .rename_i D y
  have e:=N8 (A _ _ _ y) q;subst e;simp only[fK]at g;cases ho:p v with
  |none=>rw[ho]at g;cases g
  |some o=>
   rw[ho]at g;obtain⟨m,B⟩:=h R d K v o ho;have z:(E.at (d+(fK k l i j s p u x).dep)).kp f (800000+dC c)=a6 k:=hk;refine⟨m,mX l v,by rw[z];exact y, ?_⟩;rw[z];exact B.trans g
 .cases q
def kN (L M:dA):dA:={
 V:=L.V⊕M.V
 A:=fun v=>match v with|.inl v=>L.A v|.inr v=>M.A v
 B:=fun v=>match v with|.inl v=>L.B v|.inr v=>M.B v
 get:=fun st=>match L.get st with
  |some v=>a6 (.inl v)
  |none=>match M.get st with
   |some v=>a6 (.inr v)
   |none=>a7
 spec:=fun v=>match v with|.inl v=>L.spec v|.inr v=>M.spec v
 exA:=fun v=>match v with|.inl v=>L.exA v|.inr v=>M.exA v
 stA:=fun st v=>match v with|.inl v=>L.stA st v|.inr v=>M.stA st v
 stB:=fun st v=>match v with|.inl v=>L.stB st v|.inr v=>M.stB st v
 dep:=L.dep+M.dep
 exB:=fun v=>match v with|.inl v=>L.exB v|.inr v=>M.exB v}
theorem rX {E:Env} {f:FuncId} {c:Code} {L M:dA} (l:dQ E f c L) (h2:dQ E f c M):dQ E f c (kN L M):=fun R m r st v K i d j=>by
 simp only[kN]at d;split at d
 .rename_i g h
  cases d;have e:m+(kN L M).dep=(m+M.dep)+L.dep:=by show m+(L.dep+M.dep)=_;omega
  rw[e];exact l R _ r st g K i h j
 .split at d
  .rename_i g h
   cases d;have e:m+(kN L M).dep=(m+L.dep)+M.dep:=by show m+(L.dep+M.dep)=_;omega
   rw[e];exact h2 R _ r st g K i h j
  .cases d
theorem aGf {E:Env} {f:FuncId} {c:Code} {L M:dA} (l:uX E f c L) (h2:uX E f c M):uX E f c (kN L M):=fun R m r st v K i d j=>by
 simp only[kN]at d;split at d
 .rename_i g h
  cases d;have e:m+(kN L M).dep=(m+M.dep)+L.dep:=by show m+(L.dep+M.dep)=_;omega
  rw[e];exact l R _ r st g K i h j
 .split at d
  .rename_i g h
   cases d;have e:m+(kN L M).dep=(m+L.dep)+M.dep:=by show m+(L.dep+M.dep)=_;omega
   rw[e];exact h2 R _ r st g K i h j
  .cases d
end
section
open Option renaming some → a6, none → a7
open List renaming mem_cons_of_mem → au, mem_cons_self → aP
open Nat renaming eq_of_beq_eq_true → aj
open Go.RowKit
def at6:List (FuncId×Sum)->FuncId->Option Sum
 |[],_=>a7
 |e::l,g=>bif Nat.beq g e.1 then a6 e.2 else at6 l g
theorem abb {P:Program}: ∀(l:List (FuncId×Sum)),(∀e∈l,dK P e.1 e.2)-> ∀g s,at6 l g=a6 s->dK P g s
 |[],_,g,s,h=>by cases h
 |e::l,d,g,s,h=>by
  simp only[at6]at h;rw[cond_eq_ite]at h;split at h
  .simp_all
  .exact abb l (fun e f=>d e (au _ f)) g s h
def aI2 (f:FuncId) (l:List (Nat×eG)) (g:FuncId) (id:Nat):Option eG:=cond (Nat.beq g f) ((l.find? fun e=>Nat.beq id e.1).map (·.2)) a7
def aCx (f:FuncId) (l:List (Nat×dA)) (g:FuncId) (id:Nat):Option dA:=
 bif Nat.beq g f then(match l.find? fun e=>Nat.beq id e.1 with|some e=>a6 e.2|none=>a7)else a7
theorem af5 {f g:FuncId} (l:List (Nat×dA)) (h:g≠f) (id:Nat):aCx f l g id=a7:=by
 grind [aj,aCx]
def aGd:FuncId:=39
def JO (g:FuncId):Bool:=Nat.beq g aGd&& !Nat.beq aGd 1000000
def aGg:List (Nat×Nat×Nat):=[(65,2,5)]
def G9 (t o n:Nat):Bool:=aGg.any fun e=>Nat.blt e.1 900000&&(Nat.beq e.1 t&&(Nat.beq e.2.1 o&&Nat.beq e.2.2 n))
def atX:List (FuncId×fF)->FuncId->Option fF
 |[],_=>a7
 |e::l,g=>bif Nat.beq g e.1 then a6 e.2 else atX l g
theorem aa9 {P:Program}: ∀(l:List (FuncId×fF)),(∀e∈l,dI P e.1 e.2)-> ∀g s,atX l g=a6 s->dI P g s
 |[],_,g,s,h=>by cases h
 |e::l,d,g,s,h=>by
  simp only[atX]at h;cases hb:Nat.beq g e.1 with
  |true=>
   simp_all
  |false=>
   rw[hb]at h;exact aa9 l (fun e f=>d e (au _ f)) g s h
def iU (P:Program) (T:TT) (f:FuncId) (sg:List (FuncId×Sum)) (kp:List (Nat×eG)) (lp:List (Nat×dA)) (sb:List (FuncId×fF):=[]):Env:=
 {P:=P,T:=T,cl:=false,kp:=aI2 f kp,sg:=at6 sg,lp:=aCx f lp,bf:=JO,em:=G9,sb:=atX sb}
theorem aqn {P:Program} {T:TT} (hT:TOk P T) (h:P.follows .mixedOrders=true) (i:Jc P) {f:FuncId} {sg:List (FuncId×Sum)} {kp:List (Nat×eG)} {lp:List (Nat×dA)} {sb:List (FuncId×fF)}
  (j: ∀e∈sg,dK P e.1 e.2) {fn:Func} {c:Code} (hf:P.funcs[f]? =a6 fn) (hb:fn.body=a6 c) (hl:dO (iU P T f sg kp lp sb) f c) (l: ∀E,sU P E->aeN E) (m: ∀g,JO g=true->BC P G9 g) (hx: ∀e∈sb,dI P e.1 e.2:=by simp):eP (iU P T f sg kp lp sb):=by
 have d:sU P (iU P T f sg kp lp sb):= ?_;exact⟨hT,h,i,abb sg j,d,l _ d,m,aa9 sb hx⟩;intro g p o q s;by_cases e:g=f
 .simp_all
 .exact jy (fun id=>af5 lp e id) (fun _=>rfl) o
def aGY (l:List (FuncId×Nat×eG)) (g:FuncId) (id:Nat):Option eG:=match l.find? fun e=>Nat.beq g e.1&&Nat.beq id e.2.1 with
 |some e=>a6 e.2.2
 |none=>a7
def aiJ:List (FuncId×Nat×dA)->FuncId->Nat->Option dA
 |[],_,_=>a7
 |e::l,g,id=>bif Nat.beq g e.1&&Nat.beq id e.2.1 then a6 e.2.2 else aiJ l g id
theorem SY: ∀(l:List (FuncId×Nat×dA)) (g:FuncId),(∀e∈l,e.1≠g)-> ∀id,aiJ l g id=a7
 |[],g,_,id=>rfl
 |e::l,g,h,id=>by
  have d:Nat.beq g e.1=false:=by
   grind [aj]
  simp only[aiJ,d,Bool.false_and,ac];exact SY l g (fun e f=>h e (au _ f)) id
def gQ (P:Program) (T:TT) (sg:List (FuncId×Sum)) (kp:List (FuncId×Nat×eG)) (lp:List (FuncId×Nat×dA)) (rf:List FuncId) (sb:List (FuncId×fF):=[]):Env:=
 {P:=P,T:=T,cl:=false,kp:=aGY kp,sg:=at6 sg,lp:=aiJ lp,rf:=fun g _=>rf.any fun x=>Nat.beq g x,bf:=JO,em:=G9,sb:=atX sb}
theorem amz {P:Program} {T:TT} (hT:TOk P T) (h:P.follows .mixedOrders=true) (i:Jc P) {sg:List (FuncId×Sum)} {kp:List (FuncId×Nat×eG)} {lp:List (FuncId×Nat×dA)}
  {rf:List FuncId} {sb:List (FuncId×fF)} (j: ∀e∈sg,dK P e.1 e.2) (d:List FuncId) (p:(lp.all fun e=>d.any fun g=>Nat.beq e.1 g)=true) (q:(rf.all fun e=>d.any fun g=>Nat.beq e g)=true) (hl: ∀g∈d,∃fn c,P.funcs[g]? =a6 fn/\fn.body=a6 c/\dO (gQ P T sg kp lp rf sb) g c)
  (l: ∀E,sU P E->aeN E) (m: ∀g,JO g=true->BC P G9 g) (hx: ∀e∈sb,dI P e.1 e.2:=by simp):eP (gQ P T sg kp lp rf sb):=by
 have f:sU P (gQ P T sg kp lp rf sb):= ?_;exact⟨hT,h,i,abb sg j,f,l _ f,m,aa9 sb hx⟩;intro g s o u v;by_cases e:g∈d
 .grind
 .refine jy (fun id=>SY lp g (fun x hx y=>e ?_) id) (fun _=> ?_) o
  .grind [aj]
  .cases hr:rf.any fun x=>Nat.beq g x with
   |false=>exact hr
   |true=>
    simp_all
def bM {d:Type} (a b:List d):List d:=a++b
def dw (i:Int):Nat:=i.toNat
def dD {e:Type} (l:List e) (d:e) (i:Nat):e:=l.getD i d
def takeN {d:Type} (l:List d) (n:Nat):List d:=l.take n
def aD3 {d:Type} (n:Nat) (x:d):List d:=List.replicate n x
def iD (a b:List UInt8):Bool:=decide (a.length+b.length<=jO)
def ni {d:Type} (i:Nat) (l:List d):Bool:=O1 i l.length
def O4 (a b:Int):Int:=a.tmod b
def aJ6 (k:IntKind) (n:Int):Int:=k.wrap n
def aJ7 (a b:Int):Int:=a+b
def aKz (a b:Int):Int:=a-b
def atv (c:Int) (n:Nat):Bool:=decide (c.toNat*n<=jO)
def jr (a b:Bool):Bool:=a==b
def oH (t:Ty) (x y:List t.den):Bool:=xk (X8 t) x y
def ibW (s:List UInt8) (c:Int):Int:=Lib.indexByte s c.toNat.toUInt8
def cA:Code->Code
 |.seq a _=>a
 |.block _ c=>c
 |.loop c=>c
 |.scope c=>c
 |.cond _ a _=>a
 |.rangeFunc _ _ a _=>a
 |c=>c
def cB:Code->Code
 |.seq _ b=>b
 |.cond _ _ b=>b
 |.rangeFunc _ _ _ b=>b
 |c=>c
def jP:Code->List Code
 |.seq a b=>jP a++jP b
 |.cond _ a b=>jP a++jP b
 |.block _ c=>jP c
 |.scope c=>jP c
 |.loop c=>jP c++[c]
 |.rangeFunc _ _ a b=>jP a++jP b
 |_=>[]
def kF:Code->List (Code×Code)
 |.seq a b=>kF a++kF b
 |.cond _ a b=>kF a++kF b
 |.block _ c=>kF c
 |.scope c=>kF c
 |.loop c=>kF c
 |.rangeFunc _ _ a b=>(a,b)::(kF a++kF b)
 |_=>[]
def qm:Code->List Code
 |.seq a b=>qm a++(b::qm b)
 |.cond _ a b=>qm a++qm b
 |.block _ c=>qm c
 |.scope c=>qm c
 |.loop c=>qm c
 |.rangeFunc _ _ a b=>qm a++qm b
 |_=>[]
def YS (E:Env) (f:FuncId) (c:Code):Bool:=(qm c).all fun d=>(E.lp f (800000+dC d)).isNone
theorem jS {R:Type} {E:Env} {x:nD R} {e:XD} {f:FuncId}: ∀c:Code,(∀x∈kF c,E.rf f (dC x.2)=true->uI f (dC x.2)=a6 x)->(∀d∈jP c,∀L,E.lp f (dC d)=a6 L->L.dep.ble E.dp=true->XC E x e f d L)->
  (∀d∈qm c,∀L,E.lp f (800000+dC d)=a6 L->L.dep.ble E.dp=true->aeL E x e f d L)->jl E x e f c
 |.seq a b,g,h,k=>⟨⟨jS a (fun d hd=>g d (List.mem_append.2 (.inl hd))) (fun d hd=>h d (List.mem_append.2 (.inl hd))) fun d hd=>k d (List.mem_append.2 (.inl hd)),k b (List.mem_append.2 (.inr aP))⟩,
   jS b (fun d hd=>g d (List.mem_append.2 (.inr hd))) (fun d hd=>h d (List.mem_append.2 (.inr hd))) fun d hd=>k d (List.mem_append.2 (.inr (au _ hd)))⟩
 |.cond _ a b,g,h,k=>⟨jS a (fun d hd=>g d (List.mem_append.2 (.inl hd))) (fun d hd=>h d (List.mem_append.2 (.inl hd))) fun d hd=>k d (List.mem_append.2 (.inl hd)),jS b (fun d hd=>g d (List.mem_append.2 (.inr hd))) (fun d hd=>h d (List.mem_append.2 (.inr hd))) fun d hd=>k d (List.mem_append.2 (.inr hd))⟩
 |.block _ c,g,h,k=>jS (E:=E) c g h k
 |.scope c,g,h,k=>jS (E:=E) c g h k
 |.loop c,g,h,k=>⟨jS c g (fun d hd=>h d (List.mem_append.2 (.inl hd))) k,h c (List.mem_append.2 (.inr (List.mem_singleton.2 rfl)))⟩
 |.rangeFunc _ _ a b,g,h,k=>⟨jS a (fun d hd=>g d (au _ (List.mem_append.2 (.inl hd)))) (fun d hd=>h d (List.mem_append.2 (.inl hd))) fun d hd=>k d (List.mem_append.2 (.inl hd)),
   jS b (fun d hd=>g d (au _ (List.mem_append.2 (.inr hd)))) (fun d hd=>h d (List.mem_append.2 (.inr hd))) fun d hd=>k d (List.mem_append.2 (.inr hd)),g (a,b) aP⟩
 |.skip,_,_,_|.label _,_,_,_|.region _ _ _,_,_,_|.exit _,_,_,_|.goto _,_,_,_|.ret,_,_,_|.refuse _,_,_,_=>trivial
theorem Ea {E:Env} {f:FuncId} (c:Code) (g: ∀x∈kF c,E.rf f (dC x.2)=true->uI f (dC x.2)=a6 x) (h: ∀d∈jP c,∀L,E.lp f (dC d)=a6 L->dQ E f d L)
  (k: ∀d∈qm c,∀L,E.lp f (800000+dC d)=a6 L->uX E f d L):dO E f c:=fun R m=>
 jS (E:=E.at m) c g (fun d hd L i j=>by
  have e:=h d hd L i R (m-L.dep);rw[show m-L.dep+L.dep=m from Nat.sub_add_cancel (Nat.le_of_ble_eq_true (m:=m) j)]at e;exact e) fun d hd L i j=>by
  have e:=k d hd L i R (m-L.dep);rw[show m-L.dep+L.dep=m from Nat.sub_add_cancel (Nat.le_of_ble_eq_true (m:=m) j)]at e;exact e
theorem am8 {E:Env} {f:FuncId} {c:Code} (h:YS E f c=true): ∀d∈qm c,∀L,E.lp f (800000+dC d)=a6 L->uX E f d L:=fun d hd L e=>by
 have:=List.all_eq_true.1 h d hd;simp_all
def MF (E:Env) (f:FuncId) (c:Code):List Code:=(qm c).filter fun d=>(E.lp f (800000+dC d)).isSome
theorem JP {E:Env} {f:FuncId} {c:Code} (h: ∀d∈MF E f c,∀L,E.lp f (800000+dC d)=a6 L->uX E f d L): ∀d∈qm c,∀L,E.lp f (800000+dC d)=a6 L->uX E f d L:=fun d hd L e=>
 h d (List.mem_filter.2 ⟨hd,by rw[e];rfl⟩) L e
theorem yJ {E:Env} {f:FuncId} (c:Code) (g: ∀x∈kF c,E.rf f (dC x.2)=true->uI f (dC x.2)=a6 x) (h: ∀d∈jP c,∀L,E.lp f (dC d)=a6 L->dQ E f d L) (k:YS E f c=true:=by kernel_rfl):dO E f c:=
 Ea c g h (am8 k)
theorem afZ {E:Env} {f:FuncId} (c:Code) (e: ∀id,E.rf f id=false) (h: ∀d∈jP c,∀L,E.lp f (dC d)=a6 L->dQ E f d L) (k:YS E f c=true:=by kernel_rfl):dO E f c:=
 yJ c (fun x _ g=>by simp_all) h k
theorem cu {d e:Type} (b:Bool) (x y:Option d) (k:d->Option e):bF (bif b then x else y) k=bif b then bF x k else bF y k:=by cases b<;>rfl
theorem cO {d e:Type} (k:d->Option e):bF a7 k=a7:=rfl
theorem bD {d e:Type} (x:d) (k:d->Option e):bF (a6 x) k=k x:=rfl
theorem bV {d e f:Type} (x:Option d) (k:d->Option e) (l:e->Option f):bF (bF x k) l=bF x fun a=>bF (k a) l:=by cases x<;>rfl
theorem as6 {d h e:Type} (a:d) (f:d->e) (g:h->e):dL (.inl a) f g=f a:=rfl
theorem aHA {h d e:Type} (b:d) (f:h->e) (g:d->e):dL (.inr b) f g=g b:=rfl
theorem cZ {e h d i:Type} (o:e⊕h) (f:e->Option d) (g:h->Option d) (k:d->Option i):bF (dL o f g) k=dL o (fun a=>bF (f a) k) fun b=>bF (g b) k:=by cases o<;>rfl
end
end Go.Proofs.YtkichehglnecnaaGreatDoor
