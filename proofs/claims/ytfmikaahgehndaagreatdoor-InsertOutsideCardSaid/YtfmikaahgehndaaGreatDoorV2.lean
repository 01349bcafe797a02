/- Parts of the proof, joined and shortened by a program: the plain machine, the functions as it prints them, and the mathematics over them. -/
import Derived.Stop.Looks
import Derived.RangeFuncNested
import Derived.RangeFuncRecord
import Derived.Sort.LoopGhostIn
import Derived.Laws.Externs
import Derived.Lib.Bytealg
import Derived.Test.YtfmikaahgehndaaGreatDoorV1
set_option linter.unusedVariables false
set_option linter.unusedSimpArgs false
set_option maxRecDepth 100000
set_option maxHeartbeats 4000000
namespace Go.Proofs.YtfmikaahgehndaaGreatDoor
section
open Bool renaming and_eq_true → af
open List renaming eq_nil_of_length_eq_zero → bg
open Nat renaming le_refl → ae, eq_of_beq_eq_true → ak
open Go.RowKit
section
variable {P:Program} {T:TT} {W0:World} {b0 n:Nat} {rd:Option Nat} {c:Cx} {R:Type} {r:R} {st:St} {a:Act} {ats:List (Array Value)}
theorem Nw (hr:iO W0 b0 rd c st a ats) {s:Nat} {t:Ty} {st':St} (h:xU s t st=some st'): ∃c',iO W0 b0 rd c' st' a ats/\c.Mono c'/\c'.w=c.w:=by
 have hslot: ∀hs:s<a.tmps.toList.length,bJ c (st.fr.getD s .undef) a.tmps.toList[s]:=fun hs=>by
  have:=hr.fr.getD s;rwa [Array.getD,dif_pos (by simpa using hs)]at this
 obtain⟨fr,stk,hp,nxt⟩:=st;simp only[xU]at h;split at h
 ·rename_i hn
  simp only at hslot;rw[hn]at hslot;split at h
  ·cases h
  ·rename_i hg
   rw[cond_eq_ite]at h;split at h
   ·rename_i hb
    cases h;simp only[af]at hb;have h1:nxt<=1000000*stk.length+800000+s:=by simp_all
    have h2:0<t.size:=by simp_all
    obtain⟨c',hd,hw,hv⟩:=qy hr.ok (st:=⟨fr,stk,hp,nxt⟩) hr.hp hr.nxt hg h1 (ae nxt) (y:=t) h2 (xs:=[]) (v:=.slice none 0 0) (w:=c.w) (Below.refl _ _) oD [] ⟨by simp,.inl ⟨rfl,rfl⟩⟩ (by simp[fQ]) rfl (fun _=>rfl);have hr':=hr.did hd;refine⟨c',⟨hr'.hp,hr'.nxt,hr'.ok,bF.setL _ _ _ hr'.fr fun hs=> ?_,hr'.stk,hr'.df,hr'.rd⟩,hd.le.mono,hw⟩
    grind [bJ]
   ·cases h
 ·rename_i id ver vw hn
  simp only at hslot;rw[hn]at hslot;split at h
  ·rename_i u w xs hg
   rw[cond_eq_ite]at h;split at h
   ·rename_i hver
    have hver:w=ver:=by simpa using hver
    subst hver;split at h
    ·cases h;exact⟨c,hr,Cx.Mono.refl c,rfl⟩
    ·rename_i lo hi
     rw[cond_eq_ite]at h;split at h
     ·rename_i hb
      cases h;simp only[beq_iff_eq]at hb;subst hb;have hhp:=hr.hp;simp only at hhp;subst hhp;have hobj:=hr.ok.obj id _ hg;obtain⟨hpos,e,zs,hown,hL,hty⟩:=hobj;by_cases hs:s<a.tmps.toList.length
      ·have hv:=hslot hs;simp only[bJ]at hv;have hview:=(hv.2.2 _ _ _ hg).2 rfl;have⟨hb1,hb2⟩:0<=hi/\hi<=bC xs:=by
        obtain⟨a1,n1,c1,e1,_,p2,p3,_⟩:=hview;obtain⟨a2,c2,e2,_⟩:=qK hown;rw[e2]at e1;cases e1;exact⟨p2,p3⟩
       obtain⟨hown',hblk⟩:=Gu hown hb1 hb2 hview;have hk:(dD.arr u w xs).like (c.mu id) (.arr u (w+1) (xs.take hi.toNat)) ⟨(c.mu id).blk,a.tmps.toList[s]⟩:=⟨by omega,fun e=>by omega⟩;have hle:=Cx.Le.put (w:=c.w) hr.ok hg hk (ae _) (fun _ _ _=>rfl) (fun b hb=>.inl (hblk b hb)) (fun b L _ hL=>⟨L,hL⟩);have hok:=Cx.Ok.put (w:=c.w) hr.ok hg hk hr.ok.bel (ae _) (fun _ _ _=>rfl) (fun b hb=>.inl (hblk b hb)) (fun b L _ hL=>⟨L,hL⟩) (by
        refine⟨hpos,e,zs.take (hi.toNat*u.size), ?_,fQ.take _ _ _ (fQ.mono (eY.mono hle.free u) _ _ hL),hty⟩;simp_all [bC,Cx.put,upd_same])
       refine⟨c.put id (dD.arr u (w+1) (List.take hi.toNat xs)) ⟨(c.mu id).blk,a.tmps.toList[s]⟩ c.w,⟨rfl,hr.nxt,hok,bF.setL _ _ _ (bF.le hle _ _ hr.fr) fun _=> ?_,Cc.le hle _ _ hr.stk, ?_, ?_⟩,hle.mono,rfl⟩
       ·simp only[bJ];refine⟨hv.1,.inl ⟨_,Cx.put_get hg⟩,fun t' u' xs' hg'=> ?_⟩;rw[Cx.put_get hg]at hg';simp_all [iT,Cx.put,upd_same]
       ·obtain⟨ds,h1,h2,h3⟩:=hr.df;exact⟨ds,h1,h2,h3⟩
       ·exact hr.rd
      ·exfalso;have hl:=bF.length _ _ hr.fr;simp_all
     ·cases h
   ·cases h
  ·cases h
 ·cases h
theorem Jk (hr:iO W0 b0 rd c st a ats) {s:Nat} {t:Ty} {st':St} (h:Du s t st=some st'): ∃c',iO W0 b0 rd c' st' a ats/\c.Mono c'/\c'.w=c.w:=by
 have hslot: ∀hs:s<a.tmps.toList.length,bJ c (st.fr.getD s .undef) a.tmps.toList[s]:=fun hs=>by
  have:=hr.fr.getD s;rwa [Array.getD,dif_pos (by simpa using hs)]at this
 have empty: ∀(hv: ∀hs:s<a.tmps.toList.length,∃av,a.tmps.toList[s]=.slice av 0 0),∃c',iO W0 b0 rd c' {st with fr:=st.fr.set s (.val (.list t) [])} a ats/\c.Mono c'/\c'.w=c.w:=fun hv=>
  ⟨c,⟨hr.hp,hr.nxt,hr.ok,bF.setL _ _ _ hr.fr fun hs=>by
   obtain⟨av,hav⟩:=hv hs;rw[hav];simp only[bJ];exact(VD.leaf rfl).2 ⟨av,0,[],rfl,ae _,rfl,.inl rfl⟩,hr.stk,hr.df,hr.rd⟩,Cx.Mono.refl c,rfl⟩
 unfold Du at h;split at h
 ·simp_all [bJ]
 ·simp_all [bJ]
 ·rename_i id ver hn
  rw[hn]at hslot;split at h
  ·rename_i u w xs hg
   replace h:=di h;obtain⟨hb,h⟩:=h;simp only[af,beq_iff_eq]at hb;obtain⟨rfl,hno⟩:=hb;cases h;obtain⟨fr,stk,hp,nxt⟩:=st;have hhp:=hr.hp;simp only at hhp hg hno hn;subst hhp;have hfr0:bF c (fr.set s .undef) a.tmps.toList:=bF.setL _ _ _ hr.fr fun _=>by simp[bJ]
   have hk:=Cx.keeps_filter (c:=c) (p:=fun i=> !Nat.beq i id) (tV hno);have hok':=hr.ok.filter (p:=fun i=> !Nat.beq i id) hk.right;have hrel:iO W0 b0 rd {c with hp:=c.hp.filter fun e=> !Nat.beq e.1 id} ⟨fr.set s .undef,stk,c.hp.filter fun e=> !Nat.beq e.1 id,nxt⟩ a ats:=
    ⟨rfl,hr.nxt,hok',bF.keeps _ _ hk.left.left hfr0,Cc.keeps _ _ hk.left.right hr.stk,hr.df,hr.rd⟩
   refine⟨{c with hp:=c.hp.filter fun e=> !Nat.beq e.1 id},⟨rfl,hrel.nxt,hrel.ok, ?_,hrel.stk,hrel.df,hrel.rd⟩,⟨fun _ h=>h,fun b L h=>⟨L,h⟩,ae _,rfl,Q3 c fun i=> !Nat.beq i id⟩,rfl⟩;have iV:=bF.setL (z:=.val (.list u) xs) s _ _ hrel.fr fun hs=>by
    have hv:=hslot hs;simp only[bJ]at hv ⊢;have hu:=(hv.2.2 _ _ _ hg).2 rfl;simp only[iT]at hu;obtain⟨hpos,e,zs,hown,hL,hty⟩:=hr.ok.obj id _ hg;rw[hu];have hL':=fQ.mono (eY.mono hk.free u) _ _ hL;rcases hown.2 with ⟨e1,e2⟩|⟨g,cap,cur,e1,e2,e3,e4,e5,e6,e7⟩
    ·have hx:xs=[]:=bg e2;subst hx;rw[e1];exact(VD.leaf rfl).2 ⟨none,0,[],rfl,ae _,rfl,.inl rfl⟩
    ·obtain⟨a2,cp2,f1,f2,f3⟩:=LV hown;rw[e1]at f1;cases f1;rw[e1];refine(VD.leaf rfl).2 ⟨_,_,zs,rfl,e4,hL',f3.imp (fun h=>h) fun⟨g',q1,q2,q4,q3⟩=> ?_⟩;cases q1;refine⟨g,0,rfl,⟨q2, ?_, ?_,fun hb=>(hr.ok.bar _ hb).2.1 ⟨id,_,hg,by simp[dD.blk,e1,Value.ownBlock]⟩⟩,q3⟩
     ·rintro ⟨j,o,h1,h2⟩;simp only at h1;rw[jO (fun i=> !Nat.beq i id)]at h1;split at h1
      ·rename_i hj
       have:=hr.ok.inj j id o _ g h1 hg h2 (by simp[dD.blk,e1,Value.ownBlock]);simp_all
      ·cases h1
     ·intro hm;obtain⟨_,hd⟩:=hr.ok.mks g hm;simp_all
   simp_all
  ·cases h
 ·cases h
 ·cases h;exact⟨c,hr,Cx.Mono.refl c,rfl⟩
theorem XC (hr:iO W0 b0 rd c st a ats) {id off:Nat} {t:Ty} {st':St} (h:Q4 id off t st=some st'): ∃c',iO W0 b0 rd c' st' a ats/\c.Mono c'/\c'.w=c.w:=by
 have same:some st=some st'-> ∃c',iO W0 b0 rd c' st' a ats/\c.Mono c'/\c'.w=c.w:=fun h=>by cases h;exact⟨c,hr,Cx.Mono.refl c,rfl⟩
 obtain⟨fr,stk,hp,nxt⟩:=st;simp only[Q4]at h;split at h
 ·rename_i bt cs hbox
  split at h
  ·rename_i hcell
   split at h
   ·rename_i t'
    cases h;have hbox':dH c.hp id=some (.box bt cs):=by rw[hr.hp];exact hbox
    obtain⟨hB,us,h3,h4,h5⟩:=hr.ok.obj id _ hbox';have hnil: ∀ho:off<us.toList.length,us.toList[off]=.slice none 0 0:=fun ho=>by
     have:=bF.getD h4 off;rw[hcell,Array.getD,dif_pos (by simpa using ho)]at this
     assumption
    have hk2:(dD.box bt cs).like (c.mu id) (.box bt (cs.set off (.val (.list t') []))) (c.mu id):=rfl;have hle2:=Cx.Le.put (w:=c.w) hr.ok hbox' hk2 (ae _) (fun _ _ _=>rfl) (fun b hb=>.inl hb) (fun b L _ hL=>⟨L,hL⟩);have hok2:=Cx.Ok.put (w:=c.w) hr.ok hbox' hk2 hr.ok.bel (ae _) (fun _ _ _=>rfl) (fun b hb=>.inl hb) (fun b L _ hL=>⟨L,hL⟩) (by
     refine⟨by simp only[Cx.put,upd_same];exact hB,us,by simp only[Cx.put,upd_same];exact h3, ?_,h5⟩;exact bF.le hle2 _ _ (bF.setL off _ _ h4 fun ho=>by
      rw[hnil ho];simp only[bJ];exact(VD.leaf rfl).2 ⟨none,0,[],rfl,ae _,rfl,.inl rfl⟩))
    refine⟨c.put id (.box bt (cs.set off (.val (.list t') []))) (c.mu id) c.w,⟨?_,hr.nxt,hok2,bF.le hle2 _ _ hr.fr,Cc.le hle2 _ _ hr.stk, ?_, ?_⟩,hle2.mono,rfl⟩
    ·simp only[Cx.put];rw[hr.hp]
    ·obtain⟨ds,q1,q2,q3⟩:=hr.df;exact⟨ds,q1,q2,q3⟩
    ·exact hr.rd
   generalize id+500000+2000*off=nm at h;split at h
   ·cases h
   ·rename_i hg
    rw[cond_eq_ite]at h;split at h
    ·rename_i hb
     cases h;simp only[af]at hb;have h1:nxt<=nm:=by simpa [Nat.ble_eq] using hb.1
     have h2:0<t.size:=by have:=hb.2;simp[Nat.blt]at this;omega
     have hne:nm≠id:=fun e=>by simp_all
     obtain⟨c',hd,hw,hv⟩:=qy hr.ok (st:=⟨fr,stk,hp,nxt⟩) hr.hp hr.nxt hg h1 (ae nxt) (y:=t) h2 (xs:=[]) (v:=.slice none 0 0) (w:=c.w) (Below.refl _ _) oD [] ⟨by simp,.inl ⟨rfl,rfl⟩⟩ (by simp[fQ]) rfl (fun _=>rfl);have hr':=hr.did hd;have hbox':dH c'.hp id=some (.box bt cs):=by
      rw[hd.hp];simp only[dV]
      grind
     obtain⟨hB,us,h3,h4,h5⟩:=hr'.ok.obj id _ hbox';have hnil: ∀ho:off<us.toList.length,us.toList[off]=.slice none 0 0:=fun ho=>by
      have:=bF.getD h4 off;rw[hcell,Array.getD,dif_pos (by simpa using ho)]at this
      assumption
     have hk2:(dD.box bt cs).like (c'.mu id) (.box bt (cs.set off (.slc nm 0 none))) (c'.mu id):=rfl;have hle2:=Cx.Le.put (w:=c'.w) hr'.ok hbox' hk2 (ae _) (fun _ _ _=>rfl) (fun b hb=>.inl hb) (fun b L _ hL=>⟨L,hL⟩);have hok2:=Cx.Ok.put (w:=c'.w) hr'.ok hbox' hk2 hr'.ok.bel (ae _) (fun _ _ _=>rfl) (fun b hb=>.inl hb) (fun b L _ hL=>⟨L,hL⟩) (by
      refine⟨by simp only[Cx.put,upd_same];exact hB,us,by simp only[Cx.put,upd_same];exact h3, ?_,h5⟩
      grind [bF.le,bF.setL])
     refine⟨c'.put id (.box bt (cs.set off (.slc nm 0 none))) (c'.mu id) c'.w,⟨?_,hr'.nxt,hok2,bF.le hle2 _ _ hr'.fr,Cc.le hle2 _ _ hr'.stk, ?_, ?_⟩,hd.le.mono.trans hle2.mono,hw⟩
     ·simp only[Cx.put];rw[hd.hp]
     ·obtain⟨ds,q1,q2,q3⟩:=hr'.df;exact⟨ds,q1,q2,q3⟩
     ·exact hr'.rd
    ·cases h
  ·exact same h
 ·exact same h
theorem UQ (k:Nat) (o:dD) (i:Nat): ∀h:gz,dH (aoA k o h) i=if k=i then some o else dH h i
 |[]=>by simp[aoA,dV]
 |(j,p)::h=>by
  simp only[aoA];rw[cond_eq_ite];split
  ·rw[dV]
  ·rename_i hb
   have hne:j≠k:=fun e=>hb (by simp_all);rw[dV,UQ k o i h,dV]
   grind
theorem wH (i:Nat): ∀h:gz,dH (lC h) i=dH h i
 |[]=>rfl
 |(k,o)::h=>by simp only[lC];rw[UQ,wH i h,dV]
theorem iO.sorted (hr:iO W0 b0 rd c st a ats): ∃c',iO W0 b0 rd c' {st with hp:=lC st.hp} a ats/\c.Mono c'/\c'.w=c.w:=by
 have hg: ∀i,dH (lC c.hp) i=dH c.hp i:=fun i=>wH i _;have hself: ∀(o:dD) (l:Loc),o.like l o l:=fun o l=>by
  cases o<;>simp[dD.like]
 have hle:c.Le {c with hp:=lC c.hp}:=by
  refine⟨fun b hb=>⟨⟨hb.1,fun⟨j,o,h1,h2⟩=>hb.2.1 ⟨j,o,by simp_all,h2⟩,hb.2.2⟩,rfl⟩,fun id hk=> ?_,fun id o' _ h=>⟨o',by rw[<-hg];exact h,hself _ _⟩,fun _ h=>h,fun b L h=>⟨L,h⟩,ae _,rfl⟩;rcases hk with ⟨o,h⟩|h
  ·exact .inl ⟨o,by simp_all⟩
  ·exact .inr h
 have hok:({c with hp:=lC c.hp}:Cx).Ok W0:=by
  refine⟨hr.ok.bel,fun id o h=> ?_,fun i j o p b h1 h2=>hr.ok.inj i j o p b (by simp_all) (by simp_all),hr.ok.mks,fun b hb=>(hle.out b (hr.ok.bar b hb)).1,hr.ok.phi⟩;exact(hr.ok.obj id o (by rw[<-hg];exact h)).le hle rfl fun b _=>rfl
 exact⟨{c with hp:=lC c.hp},⟨by show lC c.hp=lC st.hp;rw[hr.hp],hr.nxt,hok,bF.le hle _ _ hr.fr,Cc.le hle _ _ hr.stk,hr.df,hr.rd⟩,hle.mono,rfl⟩
theorem ab7 (hr:iO W0 b0 rd c st a ats) {id off:Nat} {t:Ty} {st':St} (h:Ov id off t st=some st'): ∃c',iO W0 b0 rd c' st' a ats/\c.Mono c'/\c'.w=c.w:=by
 simp only[Ov]at h;split at h
 ·rename_i st1 h1
  cases h;obtain⟨c1,r1,m1,w1⟩:=XC hr h1;obtain⟨c2,r2,m2,w2⟩:=r1.sorted;exact⟨c2,r2,m1.trans m2,w2.trans w1⟩
 ·cases h
theorem aff (hr:iO W0 b0 rd c st a ats) {s id N:Nat} {u:TypeId} {xs:List bG} (hn:st.fr.getD s .undef=.ptr id 0) (hg:dH st.hp id=some (.box u xs)) (hne:id≠N)
  (hnx:st.nxt.ble N=true) (hno:DV [id,N] (lw (st.fr.set s .undef)++rC st.stk++(lw xs++wQ (st.hp.filter fun e=> !(Nat.beq e.1 id||Nat.beq e.1 N))))=true):
  ∃c',iO W0 b0 rd c' {st with fr:=st.fr.set s (.ptr N 0),hp:=lC ((N,.box u xs)::st.hp.filter fun e=> !(Nat.beq e.1 id||Nat.beq e.1 N))} a ats/\c.Mono c'/\c'.w=c.w:=by
 have hslot: ∀hs:s<a.tmps.toList.length,bJ c (.ptr id 0) a.tmps.toList[s]:=fun hs=>by
  have:=hr.fr.getD s;rw[hn]at this;rwa [Array.getD,dif_pos (by simpa using hs)]at this
 obtain⟨fr,stk,hp,nxt⟩:=st;have hhp:=hr.hp;have hcn:=hr.nxt;simp only at hhp hg hno hn hnx hcn;subst hhp;subst hcn;have hnx:c.nxt<=N:=by simp_all
 have hno': ∀i∈lw (fr.set s .undef)++rC stk++(lw xs++wQ (c.hp.filter fun e=> !(Nat.beq e.1 id||Nat.beq e.1 N))),i≠id/\i≠N:=fun i hi=>by
  have:=tV hno i hi;simp_all
 have hget2: ∀i,dH (lC ((N,.box u xs)::c.hp.filter fun e=> !(Nat.beq e.1 id||Nat.beq e.1 N))) i=if N=i then some (.box u xs)else if i=id then none else dH c.hp i:=fun i=>by
  rw[wH,dV];split
  ·rfl
  ·rename_i hNi
   rw[jO (fun i=> !(Nat.beq i id||Nat.beq i N))];have h1:Nat.beq i N=false:=Bool.eq_false_iff.2 fun h=>hNi (ak h).symm;simp_all [Bool.eq_false_iff]
 generalize hH:lC ((N,.box u xs)::c.hp.filter fun e=> !(Nat.beq e.1 id||Nat.beq e.1 N))=H at*;generalize hc2:({c with mu:=Go.Proofs.YtfmikaahgehndaaGreatDoor.upd c.mu N (c.mu id),hp:=H}:Cx)=c2;have e_hp:c2.hp=H:=by rw[<-hc2]
 have e_w:c2.w=c.w:=by rw[<-hc2]
 have e_nxt:c2.nxt=c.nxt:=by rw[<-hc2]
 have e_mks:c2.mks=c.mks:=by rw[<-hc2]
 have e_bar:c2.bar=c.bar:=by rw[<-hc2]
 have e_muN:c2.mu N=c.mu id:=by rw[<-hc2];exact upd_same ..
 have e_mu: ∀i,i≠N->c2.mu i=c.mu i:=fun i hi=>by rw[<-hc2];simp[Go.Proofs.YtfmikaahgehndaaGreatDoor.upd,hi]
 have claim: ∀b,(∃i o,dH c2.hp i=some o/\o.blk (c2.mu i)=some b)-> ∃i o,dH c.hp i=some o/\o.blk (c.mu i)=some b:=fun b ⟨i,o,h1,h2⟩=>by
  grind
 have hout: ∀b,c.out b->c2.out b:=fun b hb=>⟨by rw[e_w];exact hb.1,fun h=>hb.2.1 (claim b h),by rw[e_mks];exact hb.2.2⟩;have hfree: ∀b,c.free b->c2.free b/\c2.w.heap[b]? =c.w.heap[b]? :=fun b hb=>⟨⟨by rw[e_w];exact hb.1,fun h=>hb.2.1 (claim b h),by rw[e_mks,e_bar];exact hb.2.2⟩,by rw[e_w]⟩;have keeps: ∀l:List Nat,(∀i∈l,i≠id/\i≠N)->c.Keeps c2 l:=fun l hl=>by
  refine⟨hfree,fun i hi hk=> ?_,fun i hi o' ho=> ?_⟩
  ·rcases hk with ⟨o,ho⟩|hk
   ·left
    grind
   ·right;rw[e_nxt];exact hk
  ·rw[e_hp,hget2,if_neg (fun e=>(hl i hi).2 e.symm),if_neg (hl i hi).1]at ho;refine⟨o',ho, ?_⟩;rw[e_mu i (hl i hi).2];exact o'.like_refl _
 have hmemf: ∀i o,i≠id->i≠N->dH c.hp i=some o->(i,o)∈c.hp.filter fun e=> !(Nat.beq e.1 id||Nat.beq e.1 N):=fun i o hi hi2 ho=>List.mem_filter.2 ⟨wG _ _ _ ho,by
  have h1:Nat.beq i N=false:=Bool.eq_false_iff.2 fun h=>hi2 (ak h);have h2:Nat.beq i id=false:=Bool.eq_false_iff.2 fun h=>hi (ak h);simp_all⟩
 have hok:c2.Ok W0:=by
  refine⟨by rw[e_w];exact hr.ok.bel,fun i o ho=> ?_,fun i j o q b h1 h2 h3 h4=> ?_,fun r hrm=>by rw[e_w];exact hr.ok.mks r (by simp_all),fun b hb=>hout b (hr.ok.bar b (by simp_all)),hr.ok.phi⟩
  ·rw[e_hp,hget2]at ho;split at ho
   ·rename_i e;subst e;cases ho
    obtain⟨h1,vs,h2,h3,h4⟩:=hr.ok.obj id _ hg;exact⟨by rw[e_muN];exact h1,vs,by rw[e_w,e_muN];exact h2,bF.keeps _ _ (keeps _ fun j hj=>hno' j (List.mem_append_right _ (List.mem_append_left _ hj))) h3,h4⟩
   ·rename_i e
    split at ho
    ·cases ho
    ·rename_i e2
     have h0:=hr.ok.obj i o ho;have hm:=hmemf i o e2 (fun q=>e q.symm) ho;have hk:=fun j hj=>hno' j (List.mem_append_right _ (List.mem_append_right _ (zZ _ _ hm j hj)));have hmu:=e_mu i (fun q=>e q.symm);cases o with
     |box e cs=>
      obtain⟨h1,vs,h2,h3,h4⟩:=h0;refine⟨by rw[hmu];exact h1,vs,by simp_all,bF.keeps _ _ (keeps _ hk) h3,h4⟩
     |arr t ver xs=>
      obtain⟨h0,e,zs,h1,h2,h3⟩:=h0;refine⟨h0,e,zs,by simp_all, ?_,h3⟩
      grind [fQ.mono,eY.mono]
     |lp f fr ps iY bd ky n p=>
      obtain⟨h0,h1,L,h2,h3,h4⟩:=h0;refine⟨h0,by rw[hmu];exact h1,L,by simp_all,bF.keeps _ _ (keeps _ hk) h3,h4⟩
     |dead=>trivial
     |mp kk vk es=>
      simp_all [Cx.ORel]
  ·rw[e_hp,hget2]at h1 h2;split at h1<;>split at h2
   ·omega
   ·rename_i e1 e2
    split at h2
    ·cases h2
    ·rename_i e3
     subst e1;cases h1;rw[e_muN]at h3;rw[e_mu j (fun q=>e2 q.symm)]at h4;exact absurd (hr.ok.inj id j _ q b hg h2 h3 h4).symm e3
   ·rename_i e1 e2
    split at h1
    ·cases h1
    ·rename_i e3
     subst e2;cases h2;rw[e_muN]at h4;rw[e_mu i (fun q=>e1 q.symm)]at h3;exact absurd (hr.ok.inj i id o _ b h1 hg h3 h4) e3
   ·rename_i e1 e2
    split at h1
    ·cases h1
    ·split at h2
     ·cases h2
     ·rw[e_mu i (fun q=>e1 q.symm)]at h3;rw[e_mu j (fun q=>e2 q.symm)]at h4;exact hr.ok.inj i j o q b h1 h2 h3 h4
 have hfr0:bF c (fr.set s .undef) a.tmps.toList:=bF.setL _ _ _ hr.fr fun _=>by simp[bJ]
 have kl:=keeps _ hno';have hfr1:=bF.keeps _ _ kl.left.left hfr0;have iV:=bF.setL (z:=.ptr N 0) s _ _ hfr1 fun hs=>by
  have hv:=hslot hs;simp only[bJ]at hv ⊢;exact⟨hv.1,.inl ⟨_,by rw[e_hp,hget2,if_pos rfl]⟩,fun _ _ _=>by rw[e_muN];exact hv.2.2 _ _ hg⟩
 rw[List.set_set]at iV;exact⟨c2,⟨by rw[e_hp],e_nxt,hok,iV,Cc.keeps _ _ kl.left.right hr.stk,by rw[e_mks];exact hr.df,by rw[e_w];exact hr.rd⟩,
  ⟨fun _ h=>by rw[e_mks];exact h,fun b L h=>⟨L,by rw[e_w];exact h⟩,by simp_all,e_bar,fun b hb=>⟨hout b hb,by rw[e_w]⟩⟩,e_w⟩
theorem ack (hr:iO W0 b0 rd c st a ats) {s:Nat} {t:Ty} {st':St} (h:OC s t st=some st'): ∃c',iO W0 b0 rd c' st' a ats/\c.Mono c'/\c'.w=c.w:=by
 have hslot: ∀hs:s<a.tmps.toList.length,bJ c (st.fr.getD s .undef) a.tmps.toList[s]:=fun hs=>by
  have:=hr.fr.getD s;rwa [Array.getD,dif_pos (by simpa using hs)]at this
 unfold OC at h;generalize hN:1000000*st.stk.length+800000+s=N at h;split at h
 ·rename_i id ver hn
  rw[hn]at hslot;rw[cond_eq_ite]at h;split at h
  ·cases h;exact hr.sorted
  ·rename_i hne
   have hne:id≠N:=fun e=>hne (by simp[e]);split at h
   ·rename_i u w xs hg
    obtain⟨hb,h⟩:=di h;simp only[af]at hb;obtain⟨hnx,hno⟩:=hb;cases h;obtain⟨fr,stk,hp,nxt⟩:=st;have hhp:=hr.hp;have hcn:=hr.nxt;simp only at hhp hg hno hn hnx hcn;subst hhp;subst hcn;have hnx:c.nxt<=N:=by simp_all
    have hno': ∀i∈lw (fr.set s .undef)++rC stk++wQ (c.hp.filter fun e=> !(Nat.beq e.1 id||Nat.beq e.1 N)),i≠id/\i≠N:=fun i hi=>by
     have:=tV hno i hi;simp_all
    have hget2: ∀i,dH (lC ((N,.arr u w xs)::c.hp.filter fun e=> !(Nat.beq e.1 id||Nat.beq e.1 N))) i=if N=i then some (.arr u w xs)else if i=id then none else dH c.hp i:=fun i=>by
     rw[wH,dV];split
     ·rfl
     ·rename_i hNi
      rw[jO (fun i=> !(Nat.beq i id||Nat.beq i N))];have h1:Nat.beq i N=false:=Bool.eq_false_iff.2 fun h=>hNi (ak h).symm;simp_all [Bool.eq_false_iff]
    generalize hH:lC ((N,.arr u w xs)::c.hp.filter fun e=> !(Nat.beq e.1 id||Nat.beq e.1 N))=H at*;generalize hc2:({c with mu:=Go.Proofs.YtfmikaahgehndaaGreatDoor.upd c.mu N (c.mu id),hp:=H}:Cx)=c2;have e_hp:c2.hp=H:=by rw[<-hc2]
    have e_w:c2.w=c.w:=by rw[<-hc2]
    have e_nxt:c2.nxt=c.nxt:=by rw[<-hc2]
    have e_mks:c2.mks=c.mks:=by rw[<-hc2]
    have e_bar:c2.bar=c.bar:=by rw[<-hc2]
    have e_muN:c2.mu N=c.mu id:=by rw[<-hc2];exact upd_same ..
    have e_mu: ∀i,i≠N->c2.mu i=c.mu i:=fun i hi=>by rw[<-hc2];simp[Go.Proofs.YtfmikaahgehndaaGreatDoor.upd,hi]
    have claim: ∀b,(∃i o,dH c2.hp i=some o/\o.blk (c2.mu i)=some b)-> ∃i o,dH c.hp i=some o/\o.blk (c.mu i)=some b:=fun b ⟨i,o,h1,h2⟩=>by
     grind
    have hout: ∀b,c.out b->c2.out b:=fun b hb=>⟨by rw[e_w];exact hb.1,fun h=>hb.2.1 (claim b h),by rw[e_mks];exact hb.2.2⟩;have hfree: ∀b,c.free b->c2.free b/\c2.w.heap[b]? =c.w.heap[b]? :=fun b hb=>⟨⟨by rw[e_w];exact hb.1,fun h=>hb.2.1 (claim b h),by rw[e_mks,e_bar];exact hb.2.2⟩,by rw[e_w]⟩;have keeps: ∀l:List Nat,(∀i∈l,i≠id/\i≠N)->c.Keeps c2 l:=fun l hl=>by
     refine⟨hfree,fun i hi hk=> ?_,fun i hi o' ho=> ?_⟩
     ·rcases hk with ⟨o,ho⟩|hk
      ·left
       grind
      ·right;rw[e_nxt];exact hk
     ·rw[e_hp,hget2,if_neg (fun e=>(hl i hi).2 e.symm),if_neg (hl i hi).1]at ho;refine⟨o',ho, ?_⟩;rw[e_mu i (hl i hi).2];exact o'.like_refl _
    have hmemf: ∀i o,i≠id->i≠N->dH c.hp i=some o->(i,o)∈c.hp.filter fun e=> !(Nat.beq e.1 id||Nat.beq e.1 N):=fun i o hi hi2 ho=>List.mem_filter.2 ⟨wG _ _ _ ho,by
     have h1:Nat.beq i N=false:=Bool.eq_false_iff.2 fun h=>hi2 (ak h);have h2:Nat.beq i id=false:=Bool.eq_false_iff.2 fun h=>hi (ak h);simp_all⟩
    have hok:c2.Ok W0:=by
     refine⟨by rw[e_w];exact hr.ok.bel,fun i o ho=> ?_,fun i j o q b h1 h2 h3 h4=> ?_,fun r hrm=>by rw[e_w];exact hr.ok.mks r (by simp_all),fun b hb=>hout b (hr.ok.bar b (by simp_all)),hr.ok.phi⟩
     ·rw[e_hp,hget2]at ho;split at ho
      ·rename_i e;subst e;cases ho
       obtain⟨hpos,e,zs,hown,hL,hty⟩:=hr.ok.obj id _ hg;refine⟨hpos,e,zs, ?_, ?_,hty⟩
       ·simp_all
       grind [fQ.mono,eY.mono]
      ·rename_i e
       split at ho
       ·cases ho
       ·rename_i e2
        have h0:=hr.ok.obj i o ho;have hm:=hmemf i o e2 (fun q=>e q.symm) ho;have hk:=fun j hj=>hno' j (List.mem_append_right _ (zZ _ _ hm j hj));have hmu:=e_mu i (fun q=>e q.symm);cases o with
        |box e cs=>
         obtain⟨h1,vs,h2,h3,h4⟩:=h0;refine⟨by rw[hmu];exact h1,vs,by simp_all,bF.keeps _ _ (keeps _ hk) h3,h4⟩
        |arr t ver xs=>
         obtain⟨h0,e,zs,h1,h2,h3⟩:=h0;refine⟨h0,e,zs,by simp_all, ?_,h3⟩
         grind [fQ.mono,eY.mono]
        |lp f fr ps iY bd ky n p=>
         obtain⟨h0,h1,L,h2,h3,h4⟩:=h0;refine⟨h0,by rw[hmu];exact h1,L,by simp_all,bF.keeps _ _ (keeps _ hk) h3,h4⟩
        |dead=>trivial
        |mp kk vk es=>
         simp_all [Cx.ORel]
     ·rw[e_hp,hget2]at h1 h2;split at h1<;>split at h2
      ·omega
      ·rename_i e1 e2
       split at h2
       ·cases h2
       ·rename_i e3
        subst e1;cases h1;rw[e_muN]at h3;rw[e_mu j (fun q=>e2 q.symm)]at h4;exact absurd (hr.ok.inj id j _ q b hg h2 h3 h4).symm e3
      ·rename_i e1 e2
       split at h1
       ·cases h1
       ·rename_i e3
        subst e2;cases h2;rw[e_muN]at h4;rw[e_mu i (fun q=>e1 q.symm)]at h3;exact absurd (hr.ok.inj i id o _ b h1 hg h3 h4) e3
      ·rename_i e1 e2
       split at h1
       ·cases h1
       ·split at h2
        ·cases h2
        ·rw[e_mu i (fun q=>e1 q.symm)]at h3;rw[e_mu j (fun q=>e2 q.symm)]at h4;exact hr.ok.inj i j o q b h1 h2 h3 h4
    have hfr0:bF c (fr.set s .undef) a.tmps.toList:=bF.setL _ _ _ hr.fr fun _=>by simp[bJ]
    have kl:=keeps _ hno';have hfr1:=bF.keeps _ _ kl.left.left hfr0;have iV:=bF.setL (z:=.slc N ver none) s _ _ hfr1 fun hs=>by
     have hv:=hslot hs;simp only[bJ]at hv ⊢;refine⟨hv.1,.inl ⟨_,by rw[e_hp,hget2,if_pos rfl]⟩,fun t' u' xs' hg'=> ?_⟩
     grind
    rw[List.set_set]at iV;exact⟨c2,⟨by rw[e_hp],e_nxt,hok,iV,Cc.keeps _ _ kl.left.right hr.stk,by rw[e_mks];exact hr.df,by rw[e_w];exact hr.rd⟩,
     ⟨fun _ h=>by rw[e_mks];exact h,fun b L h=>⟨L,by rw[e_w];exact h⟩,by simp_all,e_bar,fun b hb=>⟨hout b hb,by rw[e_w]⟩⟩,e_w⟩
   ·cases h
 ·rename_i id hn
  rw[cond_eq_ite]at h;split at h
  ·cases h;exact hr.sorted
  ·rename_i hne
   have hne:id≠N:=fun e=>hne (by simp[e]);split at h
   ·rename_i u xs hg
    obtain⟨hb,h⟩:=di h;simp only[af]at hb;cases h;exact aff hr hn hg hne hb.1 hb.2
   ·cases h
 ·cases ho:xU s t st with
  |none=>simp_all
  |some st1=>
   rw[ho]at h;cases h;obtain⟨c1,hr1,hm1,hw1⟩:=Nw hr ho;obtain⟨c2,hr2,hm2,hw2⟩:=hr1.sorted;exact⟨c2,hr2,hm1.trans hm2,hw2.trans hw1⟩
theorem TQ {s:Nat} {t:Ty} {l:List (Nat×Ty)} {st st':St} (h:jy ((s,t)::l) st=some st'):(∃t' st1,Du s t' st=some st1/\jy l st1=some st')\/(∃t' st1,Ov (s/100) (s %100) t' st=some st1/\jy l st1=some st')\/(∃t' st1,OC s t' st=some st1/\jy l st1=some st')\/ ∃st1,xU s t st=some st1/\jy l st1=some st':=by
 have own:(match xU s t st with|some st=>jy l st|none=>none)=some st'-> ∃st1,xU s t st=some st1/\jy l st1=some st':=fun h=>by
  grind
 cases t with
 |pair x y=>
  cases x with
  |unit=>
   grind [jy]
  |list z=>
   cases z with
   |unit=>
    grind [jy]
   |bool=>
    grind [jy]
   |_=>right;right;right;exact own h
  |_=>right;right;right;exact own h
 |_=>right;right;right;exact own h
theorem qC: ∀(l:List (Nat×Ty)) {c:Cx} {st:St},iO W0 b0 rd c st a ats-> ∀{st':St},jy l st=some st'-> ∃c',iO W0 b0 rd c' st' a ats/\c.Mono c'/\c'.w=c.w
 |[],c,st,hr,st',h=>by cases h;exact⟨c,hr,Cx.Mono.refl c,rfl⟩
 |(s,t)::l,c,st,hr,st',h=>by
  rcases TQ h with ⟨t',st1,h1,h2⟩|⟨t',st1,h1,h2⟩|⟨t',st1,h1,h2⟩|⟨st1,h1,h2⟩
  ·obtain⟨c1,hr1,hm1,hw1⟩:=Jk hr h1;obtain⟨c2,hr2,hm2,hw2⟩:=qC l hr1 h2;exact⟨c2,hr2,hm1.trans hm2,hw2.trans hw1⟩
  ·obtain⟨c1,hr1,hm1,hw1⟩:=ab7 hr h1;obtain⟨c2,hr2,hm2,hw2⟩:=qC l hr1 h2;exact⟨c2,hr2,hm1.trans hm2,hw2.trans hw1⟩
  ·obtain⟨c1,hr1,hm1,hw1⟩:=ack hr h1;obtain⟨c2,hr2,hm2,hw2⟩:=qC l hr1 h2;exact⟨c2,hr2,hm1.trans hm2,hw2.trans hw1⟩
  ·obtain⟨c1,hr1,hm1,hw1⟩:=Nw hr h1;obtain⟨c2,hr2,hm2,hw2⟩:=qC l hr1 h2;exact⟨c2,hr2,hm1.trans hm2,hw2.trans hw1⟩
theorem oZ (hr:iO W0 b0 rd c st a ats) {slots:List Nat} {owns:List (Nat×Ty)} {st':St} (h:Ku slots owns st=some st'): ∃c',iO W0 b0 rd c' st' a ats/\c.Mono c'/\c'.w=c.w:=by
 have hr0:iO W0 b0 rd c {st with fr:=Gs slots 0 st.fr} a ats:=⟨hr.hp,hr.nxt,hr.ok,zS 0 _ _ hr.fr,hr.stk,hr.df,hr.rd⟩;have go: ∀{c0:Cx} {st0:St},iO W0 b0 rd c0 st0 a ats->(match jy owns st0 with
   |some st=>match gc (1000000*st.stk.length) .undef st with
    |some st=>some (VY st)
    |none=>none
   |none=>none)=some st'-> ∃c',iO W0 b0 rd c' st' a ats/\c0.Mono c'/\c'.w=c0.w:=fun {c0 st0} hr0 h=>by
  split at h
  ·rename_i st1 h1
   obtain⟨c1,hr1,hm1,hw1⟩:=qC owns hr0 h1;split at h
   ·rename_i st2 h2
    cases h;obtain⟨c2,hr2,_,hm2,hw2,_,_⟩:=hr1.gc (v:=.undef) (u:=undef) (by simp[bJ]) h2;obtain⟨c3,hr3,hm3,hw3⟩:=hr2.anew;exact⟨c3,hr3,(hm1.trans hm2).trans hm3,hw3.trans (hw2.trans hw1)⟩
   ·cases h
  ·cases h
 unfold Ku at h;split at h
 ·rename_i st1 h1
  split at h1
  ·grind
  ·obtain⟨c1,hr1,_,hm1,hw1,_,_⟩:=hr0.gc (v:=.undef) (u:=undef) (by simp[bJ]) h1;obtain⟨c2,hr2,hm2,hw2⟩:=go hr1 h;exact⟨c2,hr2,hm1.trans hm2,hw2.trans hw1⟩
 ·cases h
theorem Gp: ∀(l:List (Nat×Ty)) {c:Cx} {st:St},iO W0 b0 rd c st a ats-> ∀{st':St},ET l st=some st'-> ∃c',iO W0 b0 rd c' st' a ats/\c.Mono c'/\c'.w=c.w
 |[],c,st,hr,st',h=>by cases h;exact⟨c,hr,Cx.Mono.refl c,rfl⟩
 |(s,t)::l,c,st,hr,st',h=>by
  simp only[ET]at h;split at h
  ·rename_i st1 h1
   obtain⟨c1,hr1,hm1,hw1⟩:=Jk hr h1;obtain⟨c2,hr2,hm2,hw2⟩:=Gp l hr1 h;exact⟨c2,hr2,hm1.trans hm2,hw2.trans hw1⟩
  ·cases h
theorem VQ (hr:iO W0 b0 rd c st a ats) {k:dM} {st':St} (h:ar6 k st=some st'): ∃c',iO W0 b0 rd c' st' a ats/\c.Mono c'/\c'.w=c.w:=by
 simp only[ar6]at h;split at h
 ·rename_i st1 h1
  have hr0:iO W0 b0 rd c {st with fr:=Gs k.rets 0 st.fr} a ats:=⟨hr.hp,hr.nxt,hr.ok,zS 0 _ _ hr.fr,hr.stk,hr.df,hr.rd⟩;obtain⟨c1,hr1,hm1,hw1⟩:=Gp k.give hr0 h1;split at h
  ·rename_i st2 h2
   cases h;obtain⟨c2,hr2,_,hm2,hw2,_,_⟩:=hr1.gc (v:=.undef) (u:=undef) (by simp[bJ]) h2;obtain⟨c3,hr3,hm3,hw3⟩:=hr2.anew;exact⟨c3,hr3,(hm1.trans hm2).trans hm3,hw3.trans (hw2.trans hw1)⟩
  ·cases h
 ·cases h
end
end
section
open Bool renaming and_eq_true → af, false_eq_true → ah
open List renaming mem_cons_of_mem → aj
open Nat renaming le_refl → ae, lt_or_ge → aP
open Go.RowKit
def mV {R:Type} (P:Program) (call:fV R):Prop:=
 ∀(W0:World) (b0:Nat) (rd:Option Nat) (fv:bG) (args:List bG) (dst:Option Nat) (st:St) (K:bG->St->Option R) (r:R),call fv args dst st K=some r->
  ∀(c:Cx) (a:Act) (ats:List (Array Value)) (fv':Value) (args':Array Value),iO W0 b0 rd c st a ats->bJ c fv fv'->bF c args args'.toList->
   ∃z v,K z st=some r/\bJ c z v/\ ∀w',FZ c w'->(∃g args'',(do let d<-Deferred.ofValue fv' args';invoke d.target d.args:Sem Next).run P w'=.ok (.enter g args'') w'/\
    Calls P g args'' w' (fun e w''=>e=.returned v/\FZ c w''))\/(do let d<-Deferred.ofValue fv' args';invoke d.target d.args:Sem Next).run P w'=.ok (.value v) w'
section
variable {P:Program} {T:TT} {W0:World} {b0 n:Nat} {rd:Option Nat} {c:Cx} {R:Type} {r:R} {st:St} {a:Act} {ats:List (Array Value)}
theorem iO.ext (h:iO W0 b0 rd c st a ats) {w:World} (hw:FZ c w):iO W0 b0 rd (c.at_ w) st a ats:=by
 have hle:=Cx.Le.ext hw;exact⟨h.hp,h.nxt,h.ok.ext hw,bF.le hle _ _ h.fr,Cc.le hle _ _ h.stk,let⟨ds,h1,h2,h3⟩:=h.df;⟨ds,h1,h2,h3⟩,fun l hl=>let⟨L,hL⟩:=h.rd l hl;hle.lp l L hL⟩
theorem ab4 (hT:TOk P T) {cl:Bool} {call:fV R} (hcall:mV P call) {o:Oper} (hq:jE o.op=true) {K:bG->St->Option R} (h:dW T cl call o st K=some r) (hr:iO W0 b0 rd c st a ats):
  ∃z v,K z st=some r/\bJ c z v/\ ∀w',FZ c w'->o.quietAtIn (FW rd) n P a (FZ c) w' v:=by
 by_cases hq2:iq o.op=true
 ·obtain⟨z,u,h1,h2,h3⟩:=zY hT hr.ok hq2 hr.hp hr.fr h;refine⟨z,u,h1,h2,fun w' hw'=> ?_⟩;unfold Oper.quietAtIn;rw[h3 w' hw'];exact⟨rfl,rfl⟩
 ·obtain⟨dst,op,ty,pos,after,guard⟩:=o;cases op<;>simp only[jE,ah]at hq<;>(try (exact absurd rfl hq2))
  case call cc=>
   obtain⟨callee,args,argTypes⟩:=cc;cases callee with
   |builtin b=>cases b<;>simp only[ah]at hq<;>exact absurd rfl hq2
   |invoke x m=>simp_all
   |value f=>
    simp only[dW]at h;obtain⟨z,v,h1,h2,h3⟩:=hcall W0 b0 rd _ _ dst st K r h c a ats (a.eval f) (args.map a.eval) hr (dG hr.fr f) (by
     have:=bF.map_eval (c:=c) hr.fr args.toList;simpa using this)
    refine⟨z,v,h1,h2,fun w' hw'=> ?_⟩;unfold Oper.quietAtIn;rcases h3 w' hw' with ⟨g,args'',h4,h5⟩|h4
    ·have h6:(execOp a.eval ⟨dst,.call {callee:=.value f,args:=args,argTypes:=argTypes},ty,pos,after,guard⟩).run P w'=.ok (.enter g args'') w':=h4;rw[h6];exact⟨rfl,sO rd,(callsIn_wide (n:=n-1)).2 h5⟩
    ·have h6:(execOp a.eval ⟨dst,.call {callee:=.value f,args:=args,argTypes:=argTypes},ty,pos,after,guard⟩).run P w'=.ok (.value v) w':=h4;rw[h6];exact⟨rfl,rfl⟩
theorem Lt (hT:TOk P T) {cl:Bool} {call:fV R} (hcall:mV P call) (ops:Array Oper) {K:St->Option R}: ∀(l:List Oper) (st:St) (a:Act),(∀o∈l,jE o.op=true)->gZ T cl call ops K l st=some r->iO W0 b0 rd c st a ats->
  wpQuietIn (FW rd) n P ops (FZ c) (fun a'=> ∃st',K st'=some r/\iO W0 b0 rd c st' a' ats) l a
 |[],st,a,hq,h,hr=>by
  simp only[gZ]at h;exact⟨st,h,hr⟩
 |o::l,st,a,hq,h,hr=>by
  simp only[gZ]at h;have hq': ∀o∈l,jE o.op=true:=fun o' ho'=>hq o' (aj _ ho');have step: ∀(st:St) (a:Act),iO W0 b0 rd c st a ats->dW T cl call o st (fun v st=>gZ T cl call ops K l (st.put o.dst v))=some r->
    o.quietIn (FW rd) n P a (FZ c) (wpQuietIn (FW rd) n P ops (FZ c) (fun a'=> ∃st',K st'=some r/\iO W0 b0 rd c st' a' ats) l):=fun st a hr h=>by
   obtain⟨z,v,h1,h2,h3⟩:=ab4 (n:=n) hT hcall (hq o (by simp)) h hr;exact⟨v,h3,Lt hT hcall ops l _ _ hq' h1 (hr.put h2)⟩
  have skip: ∀(st:St),iO W0 b0 rd c st a ats->gZ T cl call ops K l (st.put o.dst (.tup []))=some r->wpQuietIn (FW rd) n P ops (FZ c) (fun a'=> ∃st',K st'=some r/\iO W0 b0 rd c st' a' ats) l (a.put o.dst undef):=fun st hr h=>
   Lt hT hcall ops l (st.put o.dst (.tup [])) (a.put o.dst undef) hq' h (hr.put (by simp only[bJ];exact⟨#[],rfl,by simp[bF]⟩))
  simp only[wpQuietIn];refine⟨fun _ _ _ _=>trivial, ?_⟩;cases hg:o.guard with
  |none=>
   rw[hg]at h;rw[if_pos (by simp[Region.wanted,hg])];exact step st a hr h
  |some jw=>
   obtain⟨j,want⟩:=jw;rw[hg]at h;simp only at h;split at h
   ·cases h
   ·rename_i d hd
    have hy:=IC ops j d hd a.tmps;have hsl:=hr.fr.getD d;split at h
    ·rename_i b hb
     rw[hb]at hsl;simp only[bJ]at hsl;have hv:=hsl.bool_inv;have hdl:d<a.tmps.size:=by
      rcases aP d a.tmps.size with h1|h1
      ·exact h1
      simp_all [undef]
     have hv2:a.tmps[d]? =some (.bool b):=by
      simp_all
     rw[hv2]at hy;simp only at hy;have hself:a.put (some d) (.bool b)=a:=by
      simp only[Act.put];obtain⟨hh1,hh2⟩:=Array.getElem?_eq_some_iff.1 hv2;have:a.tmps.setIfInBounds d (.bool b)=a.tmps:=by
       grind
      rw[this]
     have hr2:iO W0 b0 rd c (st.put (some d) (.val .bool b)) a ats:=by
      have:=hr.put (dst:=some d) (z:=.val .bool b) (v:=.bool b) (by simp_all [bJ]);rwa [hself]at this
     cases b<;>cases want<;>(try simp only[cond_true,cond_false]at h)
     ·rw[if_pos (by simp[Region.wanted,hg,hy])];exact step _ a hr2 h
     ·rw[if_neg (by simp[Region.wanted,hg,hy])];exact skip _ hr2 h
     ·rw[if_neg (by simp[Region.wanted,hg,hy])];exact skip _ hr2 h
     ·rw[if_pos (by simp[Region.wanted,hg,hy])];exact step _ a hr2 h
    ·rename_i hb
     rw[hb]at hsl;simp only[bJ]at hsl;obtain⟨vs,hv,_⟩:=hsl;have hy2:yielded ops a.tmps j=none:=by
      rw[hy];cases he:a.tmps[d]? with
      |none=>rfl
      |some x=>
       simp_all
     rw[if_neg (by simp[Region.wanted,hg,hy2])];exact skip st hr h
    ·cases h
section
variable {ops:Array Oper} {md:Region.Mode} {C:World->Prop} {F:Fence}
theorem S9 {o:Oper} (hd:qp o.op=false) {a:Act} {K:Act->Prop} {K':Act->World->Prop} {Q':Exit->Act->World->Prop} {w:World} (hw:C w) (h: ∀a w',C w'->K a->K' a w')
  (ha:o.askedIn F P a C) (hh:o.quietIn F n P a C K):o.wpIn F n P a w K' Q':=by
 obtain⟨v,h1,h2⟩:=hh;have h3:=h1 w hw;unfold Oper.quietAtIn at h3;unfold Oper.wpIn;refine⟨ha w hw, ?_⟩;rw[wS hd];generalize (execOp a.eval o).run P w=r at*;cases r with
 |ok x w'=>
  cases x<;>simp only[Oper.quietUponIn]at h3<;>simp only[Oper.uponIn]
  case value u=>
   simp_all
  case skip=>
   simp_all
  case enter f args=>
   obtain⟨e1,hd,hc⟩:=h3;rw[e1];exact⟨hd,hc.mono fun e w'' ⟨he,hw''⟩=>by simp_all⟩
 |halt x w'=>simp only[Oper.quietUponIn]at h3
theorem MK {i:Nat} (hd: ∀(i:Nat) (o:Oper),ops[i]? =some o->qp o.op=false) {a:Act} {K:Act->Prop} {K':Act->World->Prop} {Q':Exit->Act->World->Prop} {w:World} (hC:C w) (h: ∀a w',C w'->K a->K' a w')
  (hh:qOpIn F n P ops C i K a):wpOpIn F n P ops Q' i K' a w:=by
 unfold qOpIn at hh;unfold wpOpIn;split
 ·simp_all
 ·rename_i o ho
  simp only[ho]at hh;obtain⟨ha,hh⟩:=hh;split
  ·rename_i hw;simp only[hw,if_true]at hh;grind [S9]
  ·rename_i hw;simp only[hw]at hh;exact⟨ha w hC,h _ _ hC hh⟩
theorem yz {Q:Act->Prop} {Q':Exit->Act->World->Prop} (hd: ∀(i:Nat) (o:Oper),ops[i]? =some o->qp o.op=false) (hQ: ∀a w,C w->Q a->Q' .normal a w): ∀(fuel:Nat) (listed:Array Bool) (a:Act) (w:World),C w->
  wpAnyQIn F n P md ops C Q fuel listed a->wpAnyIn F n P md ops Q' fuel listed a w
 |0,_,_,_,hw,h=>⟨h.1,hQ _ _ hw h.2⟩
 |fuel+1,_,_,_,hw,h=>⟨fun h0=>hQ _ _ hw (h.1 h0),fun i hi=>MK hd hw (fun a' w' hw'=>yz hd hQ fuel _ a' w' hw') (h.2 i hi)⟩
theorem IB {id:Nat} {Q:Exit->Act->World->Prop} {a:Act} {w:World} (hd: ∀(i:Nat) (o:Oper),ops[i]? =some o->qp o.op=false) (hm:P.follows .mixedOrders=true) (hB:Region.lexB .any ops=true) (hC:C {w with drawn:=w.drawn+1})
  (h:wpQuietIn F n P ops C (fun a'=> ∀w',C w'->Q .normal a' w') ops.toList a):(Code.region id ops true).wpIn F n P Q a w:=by
 simp only[Region.lexB,af]at hB;refine wpIn_region_any hm (yz (Q:=fun a'=> ∀w',C w'->Q .normal a' w') hd (fun _ w' hw' h=>h w' hw') _ _ _ _ hC ?_);have:=wpAnyQIn_lex (F:=F) (n:=n) (C:=C) (md:=.any) hB.1 ops.toList 0 (Array.replicate ops.size false) a (by simp) (by simpa using hB.2) h;simpa using this
end
theorem xg {F:Fence} {ops:Array Oper} {C:World->Prop} {Q Q':Act->Prop} (h: ∀a,Q a->Q' a): ∀(l:List Oper) (a:Act),wpQuietIn F n P ops C Q l a->wpQuietIn F n P ops C Q' l a
 |[],a,hh=>h a hh
 |o::l,a,hh=>by
  simp only[wpQuietIn]at hh ⊢;refine⟨hh.1, ?_⟩;have h2:=hh.2;split
  ·rename_i hw
   rw[if_pos hw]at h2;exact Oper.quietIn_mono (xg h l) h2
  ·rename_i hw
   rw[if_neg hw]at h2;exact xg h l _ h2
theorem TS {op:Op} (h:jE op=true):qp op=false:=by cases op<;>first|rfl|(simp[jE]at h)
theorem MQ (hT:TOk P T) (hm:P.follows .mixedOrders=true) {cl:Bool} {call:fV R} (hcall:mV P call) {id:Nat} {ops:Array Oper} (hok:JV ops=true) {K:St->Option R} {Q:Exit->Act->World->Prop}
  (h:gZ T cl call ops K ops.toList st=some r) (hr:iO W0 b0 rd c st a ats) (hQ: ∀c' st' a',K st'=some r->iO W0 b0 rd c' st' a' ats->c.Mono c'->Q .normal a' c'.w):
  (Code.region id ops true).wpIn (FW rd) n P Q a c.w:=by
 simp only[JV,af]at hok;have hq: ∀o∈ops.toList,jE o.op=true:=List.all_eq_true.1 hok.1;refine IB (C:=FZ c) (fun i o ho=>TS (hq o (by grind))) hm hok.2 ⟨rfl,rfl,rfl,ae _,fun _ _=>rfl⟩ ?_;refine xg (fun a' ha' w' hw'=> ?_) _ _ (Lt (n:=n) hT hcall ops ops.toList st a hq h hr);obtain⟨st',h1,h2⟩:=ha';exact hQ (c.at_ w') st' a' h1 (h2.ext hw') (Cx.Le.ext hw').mono
end
end
section
open Bool renaming and_eq_true → af, false_eq_true → ah
open List renaming map_cons → ax, map_nil → aV
open Nat renaming le_refl → ae
open Go.RowKit
section
variable {P:Program} {T:TT} {W0:World} {b0 n:Nat} {rd:Option Nat} {c:Cx} {R:Type} {r:R} {st:St} {a:Act} {ats:List (Array Value)} {t:TypeId}
theorem ave (hT:TOk P T) (hok:c.Ok W0) {cl:Bool} {call:fV R} {o:Oper} {st:St} {a:Act} {K:bG->St->Option R} (hq:Ij o.op=true) (hhp:c.hp=st.hp) (hfr:bF c st.fr a.tmps.toList)
  (h:dW T cl call o st K=some r): ∃z u,K z st=some r/\bJ c z u/\ ∀w',(execOp a.eval o).run P w'=.ok (.value u) w':=by
 have hval: ∀{s:Sem Value} {u:Value} {w':World},s.run P w'=.ok u w'->(do pure (Next.value (<-s)):Sem Next).run P w'=.ok (.value u) w':=fun hs=>by
  simp[Sem.run_bind,hs]
 obtain⟨dst,op,ty,pos,after,guard⟩:=o;simp only at hq;cases op<;>simp only[Ij,ah]at hq
 case move x=>exact⟨_,_,h,dG hfr x,fun w'=>rfl⟩
 case assign x=>exact⟨_,_,h,dG hfr x,fun w'=>rfl⟩
 case pick x y z=>
  simp only[dW]at h;have hc:=dG hfr x;split at h
  ·rename_i b hb
   rw[hb]at hc;simp only[bJ]at hc;have hc':=hc.bool_inv;cases b
   ·exact⟨_,_,h,dG hfr z,fun w'=>by simp[execOp,hc',asBool]⟩
   ·exact⟨_,_,h,dG hfr y,fun w'=>by simp[execOp,hc',asBool]⟩
  ·cases h
 case nilCheck x=>
  simp only[dW]at h;have hx:=dG hfr x;split at h
  ·rename_i id off he
   rw[he]at hx;split at h
   ·rename_i bt cs hcs
    have hx':=hx;simp only[bJ]at hx;rw[<-hhp]at hcs;have hv:=hx.2.2 _ _ hcs;exact⟨_,_,h,hx',fun w'=>by simp[execOp,hv]⟩
   ·cases h
  ·rename_i y e he
   rw[he]at hx;have hx':=hx;simp only[bJ]at hx;obtain⟨b,o,zs,hv,_⟩:=hx;exact⟨_,_,h,hx',fun w'=>by simp[execOp,hv]⟩
  ·rename_i id ver i off he
   rw[he]at hx;split at h
   ·rename_i e u xs harr
    replace h:=di h;obtain⟨h0,h⟩:=h;have h0:u=ver:=by simpa using h0
    subst h0;have hx':=hx;simp only[bJ]at hx;rw[<-hhp]at harr;obtain⟨g,n,cp,_,hv⟩:=(hx.2.2 _ _ _ harr).2 rfl;exact⟨_,_,h,hx',fun w'=>by simp[execOp,hv]⟩
   ·cases h
  ·cases h
 case binOp op t x y yt=>
  simp only[dW]at h;rw[<-hhp]at h;obtain⟨z,u,h1,h2,h3⟩:=apX (P:=P) (ox:=x) (oy:=y) (K:=fun v=>K v st) hT hok h (dG hfr x) (dG hfr y);exact⟨z,u,h1,h2,fun w'=>hval (h3 w')⟩
 case unOp op t x=>
  simp only[dW]at h;obtain⟨z,u,h1,h2,h3⟩:=aCV (P:=P) (K:=fun v=>K v st) h (dG hfr x);exact⟨z,u,h1,h2,fun w'=>hval (h3 w')⟩
 case slice t x lo hi mx=>
  simp only[dW]at h;rw[<-hhp]at h;obtain⟨z,u,h1,h2,h3⟩:=ahr (P:=P) (K:=fun v=>K v st) hT hok h (dG hfr x) (lK.map hfr lo) (lK.map hfr hi) (lK.map hfr mx);exact⟨z,u,h1,h2,fun w'=>hval (h3 w')⟩
 case fieldAddr t x f=>
  simp only[dW]at h;rw[<-hhp]at h;obtain⟨z,u,h1,h2,h3⟩:=NC (P:=P) (K:=fun v=>K v st) hT h (dG hfr x);exact⟨z,u,h1,h2,fun w'=>hval (h3 w')⟩
 case field t x f=>
  simp only[dW]at h;obtain⟨z,u,h1,h2,h3⟩:=ahp (P:=P) (K:=fun v=>K v st) hT h (dG hfr x);exact⟨z,u,h1,h2,fun w'=>hval (h3 w')⟩
 case indexAddr t x i=>
  simp only[dW]at h;rw[<-hhp]at h;obtain⟨z,u,h1,h2,h3⟩:=ND (P:=P) (K:=fun v=>K v st) hT hok h (dG hfr x) (dG hfr i);exact⟨z,u,h1,h2,fun w'=>hval (h3 w')⟩
 case index t x i=>
  simp only[dW]at h;split at h
  ·rename_i s n hs hn
   replace h:=fU h;obtain⟨h1,h⟩:=h;have hx:=dG hfr x;rw[hs]at hx;obtain⟨h2,h3⟩:=ahq (P:=P) hT hx (dG hfr i) hn h1;exact⟨_,_,h,h2,fun w'=>hval (h3 w')⟩
  ·cases h
 case extract x n=>
  simp only[dW]at h;have hx:=dG hfr x;split at h
  ·rename_i l hl
   rw[hl]at hx;split at h
   ·rename_i v hv
    simp only[bJ]at hx;obtain⟨vs,he,hvs⟩:=hx;obtain⟨hn,hv⟩:=List.getElem?_eq_some_iff.1 hv;have hlen:=bF.length _ _ hvs;simp at hlen;have h1:=bF.get _ _ hvs n hn (by simp;omega);rw[hv]at h1;simp only[Array.getElem_toList]at h1;refine⟨_,_,h,h1,fun w'=>hval ?_⟩;rw[he];have:vs[n]? =some vs[n]:=Array.getElem?_eq_getElem (by omega);simp[Instr.extract,this]
   ·cases h
  ·cases h
 case call cc=>
  obtain⟨callee,args,argTypes⟩:=cc;simp only at hq;have hargs:=bF.map_eval (c:=c) hfr args.toList;split at hq
  all_goals try (cases hq;done)
  ·
   simp only[dW,jV]at h;split at h<;>try (cases h;done)
   ·rename_i x hb hx
    split at h<;>try (cases h;done)
    rename_i t ht
    rw[<-hhp]at h;obtain⟨x0,hx0⟩: ∃x0,args= #[x0]:=by
     obtain⟨l⟩:=args
     match l,hx with
     |[x0],_=>exact⟨x0,rfl⟩
    subst hx0;obtain⟨t0⟩:=argTypes;simp only at ht;subst ht;simp only[ax,aV,List.cons.injEq,and_true]at hx;subst hx;obtain⟨z,u,h1,h2,h3⟩:=q_len (P:=P) (K:=fun v=>K v st) hT hok h (dG hfr x0) (ty:=ty);exact⟨z,u,h1,h2,fun w'=>by simp[execOp,resolve,invoke,builtin,Sem.run_bind,h3 w']⟩
   all_goals (rename_i hb _;cases hb)
  ·
   simp only[dW,jV]at h;split at h<;>try (cases h;done)
   all_goals try (rename_i hb _;cases hb;done)
   rename_i k n l hb hx
   split at h<;>try (cases h;done)
   rename_i ns hns
   rw[hx]at hargs;obtain⟨al⟩:=args;cases al with
   |nil=>simp[bF]at hargs
   |cons x0 al=>
    simp only[ax,bF]at hargs;have h0:=hargs.1;simp only[bJ]at h0;have h1:=h0.int_inv;have h2:=sS _ _ _ hns hargs.2;exact⟨_,_,h,by simp only[bJ];exact VD.int_mk,fun w'=>by simp[execOp,resolve,invoke,builtin,Sem.run_bind,Builtin.min_,h1,h2,Rq]⟩
  ·
   simp only[dW,jV]at h;split at h<;>try (cases h;done)
   all_goals try (rename_i hb _;cases hb;done)
   rename_i k n l hb hx
   split at h<;>try (cases h;done)
   rename_i ns hns
   rw[hx]at hargs;obtain⟨al⟩:=args;cases al with
   |nil=>simp[bF]at hargs
   |cons x0 al=>
    simp only[ax,bF]at hargs;have h0:=hargs.1;simp only[bJ]at h0;have h1:=h0.int_inv;have h2:=sS _ _ _ hns hargs.2;exact⟨_,_,h,by simp only[bJ];exact VD.int_mk,fun w'=>by simp[execOp,resolve,invoke,builtin,Sem.run_bind,Builtin.max_,h1,h2,Ro]⟩
def iL {α:Type} (x:Sem α):Prop:= ∀P w v w',x.run P w=.ok v w'->Below w.heap.size w w'
theorem iL.pure {α:Type} (v:α):iL (pure v:Sem α):=fun P w v w' h=>by simp_all [Below.refl]
theorem iL.looks {α:Type} {x:Sem α} (h:x.Looks):iL x:=fun P w v w' hr=>by rw[h.ok hr];exact Below.refl _ _
theorem iL.bind {α β:Type} {x:Sem α} {f:α->Sem β} (hx:iL x) (hf: ∀a,iL (f a)):iL (x>>=f):=fun P w v w' h=>by
 rw[Sem.run_bind]at h;cases hr:x.run P w with
 |halt e w1=>simp_all
 |ok u w1=>
  rw[hr,Result.andThen_ok]at h;have h1:=hx P w u w1 hr;exact h1.trans ((hf u P w1 v w' h).mono h1.size)
theorem iL.never {α:Type} {x:Sem α} (h: ∀P w v w',x.run P w≠ .ok v w'):iL x:=fun P w v w' hr=>absurd hr (h P w v w')
theorem iL.new (o:Obj):iL (newObj o):=fun P w v w' h=>by
 have e:(newObj o).run P w=.ok w.heap.size (w.alloc o):=rfl;rw[e]at h;cases h;exact(Below.refl _ _).alloc (ae _) o
theorem uG (t:TypeId):iL (underlying t):=.looks (underlying_looks t)
theorem adY (t:TypeId):iL (typeInfo t):=.looks (typeInfo_looks t)
theorem Qi (t:TypeId):iL (sizeOf t):=.looks (sizeOf_looks t)
theorem o9 {α:Type} (s:String):iL (stuck s:Sem α):=.looks (stuck_looks s)
theorem Gn {α:Type} (u:Unsupported):iL (unsupported u:Sem α):=.looks (unsupported_looks u)
theorem agt (t:TypeId):iL (isAgg t):=by
 unfold isAgg;refine(uG t).bind fun d=> ?_;split<;>exact .pure _
theorem aaN (t:TypeId):iL (zeroValue t):=by
 unfold zeroValue;refine(adY t).bind fun d=> ?_;split
 ·exact .pure _
 ·exact Gn _
theorem adX (v:Value):iL (Instr.sureAddr v):=by
 unfold Instr.sureAddr;split
 ·exact .pure _
 ·exact o9 _
theorem akk (t:TypeId) (a:Addr):iL (loadVar t a):=by
 unfold loadVar;refine(agt t).bind fun d=> ?_;split
 ·exact(Qi t).bind fun k=>(iL.looks (loadCells_looks a k)).bind fun _=>.pure _
 ·exact .looks (load_looks _ _)
theorem aki (v:Value):iL (asIntOf v):=by
 unfold asIntOf;split
 ·exact .pure _
 ·exact Gn _
 ·exact o9 _
theorem aou (v:Value):iL (asBool v):=by
 unfold asBool;split
 ·exact .pure _
 ·exact o9 _
theorem QR {α β:Type} {x:Sem α} {f:α->Sem β} (hf: ∀a P w v w',(f a).run P w≠ .ok v w'): ∀P w v w',(x>>=f).run P w≠ .ok v w':=fun P w v w' h=>by
 rw[Sem.run_bind]at h;cases hr:x.run P w with
 |halt e w1=>simp_all
 |ok u w1=>simp_all
theorem TD {α:Type} (v:Value): ∀P w u w',(goPanic v:Sem α).run P w≠ .ok u w':=fun P w u w' h=>by cases h
theorem H6 {α:Type} (e:RuntimeError): ∀P w u w',(runtimePanic e:Sem α).run P w≠ .ok u w':=by
 grind [runtimePanic,QR,TD]
theorem Tn {α:Type} (k:IntKind) (x y:Int) (code:BoundsCode):iL (boundsPanic k x y code:Sem α):=by
 unfold boundsPanic;dsimp only;split<;>exact .never (QR fun _=>H6 _)
theorem aaL (e:TypeId) (cs:Array Value):iL (newRow e cs):=by
 unfold newRow;exact(iL.new _).bind fun _=>.pure _
theorem ayN (t:TypeId) (cs:Array Value) (off:Nat):iL (part t cs off):=by
 unfold part;refine(agt t).bind fun b=> ?_;split
 ·exact(Qi t).bind fun _=>.pure _
 ·split
  ·exact .pure _
  ·exact o9 _
theorem aow (t:TypeId) (v:Value):iL (Instr.loadAt t v):=by
 unfold Instr.loadAt;exact(adX v).bind fun a=>akk t a
theorem akj (t:Value) (i:Nat):iL (Instr.extract t i):=by
 unfold Instr.extract;split
 ·split
  ·exact .pure _
  ·exact o9 _
 ·exact o9 _
theorem atg (t:TypeId) (x i:Value):iL (Instr.index t x i):=by
 unfold Instr.index;refine(aki i).bind fun ki=> ?_;refine(uG t).bind fun d=> ?_
 repeat' first
  |exact Tn _ _ _ _
  |exact o9 _
  |exact .pure _
  |exact(Qi _).bind fun _=>ayN _ _ _
  |split
  |dsimp only
theorem aBR (t:TypeId) (v:Value):iL (Instr.box t v):=by
 unfold Instr.box newVar;exact(aaL _ _).bind fun _=>.pure _
theorem atf (t:TypeId):iL (Instr.alloc t true (.tuple #[])):=by
 unfold Instr.alloc;refine(aaN t).bind fun z=> ?_;dsimp only;unfold newVar;exact(aaL _ _).bind fun _=>.pure _
theorem WV (r:Nat):(getObj r).Looks:=fun _=>trivial
theorem aaK (r:Nat):iL (getObj r):=.looks (WV r)
theorem ath (r:Nat):iL (Go.shape r):=.looks (fun _=>trivial)
theorem aox (r:Nat):iL (viewAt r):=by
 unfold viewAt
 repeat' first
  |exact .pure _
  |exact ath _
  |exact aaK _
  |(refine iL.bind ?_ fun _=> ?_)
  |split
  |dsimp only
theorem aov (t:TypeId):iL (elemOf t):=by
 unfold elemOf;refine(uG t).bind fun d=> ?_;split
 ·exact .pure _
 ·exact o9 _
theorem aBS (ts:Array TypeId) (ty:TypeId) (args:Array Value):iL (Builtin.len_ ts ty args):=by
 unfold Builtin.len_
 repeat' first
  |exact .pure _
  |exact o9 _
  |exact uG _
  |exact aaK _
  |(refine iL.bind ?_ fun _=> ?_)
  |split
  |dsimp only
theorem aaM (ts:Array TypeId) (ty:TypeId) (args:Array Value):iL (Builtin.unsafeSliceData_ ts ty args):=by
 obtain⟨l⟩:=args
 match l with
 |[]=>exact o9 _
 |_::_::_=>exact o9 _
 |[v]=>
  cases v with
  |slice a n c=>
   cases a with
   |none=>exact iL.pure _
   |some a=>
    have e:Builtin.unsafeSliceData_ ts ty #[.slice (some a) n c]=(do
      if c≠0 then pure (.pointer (some a))
      else if(<-viewAt a.block).isSome then pure (.pointer (some a))
      else pure (.pointer (some ⟨<-newObj (.view a (<-elemOf ty)),0,none⟩))):=rfl
    rw[e]
    repeat' first
     |exact .pure _
     |exact aox _
     |exact aov _
     |exact iL.new _
     |(refine iL.bind ?_ fun _=> ?_)
     |split
     |dsimp only
  |_=>exact o9 _
theorem aeh {o:Oper} (hk:Oj o.op=true) (ρ:Operand->Value) (P:Program) (w:World) (v:Next) (w':World) (h:(execOp ρ o).run P w=.ok v w'):(∃u,v=.value u)/\Below w.heap.size w w':=by
 have hv: ∀{s:Sem Value},iL s->(do pure (Next.value (<-s)):Sem Next).run P w=.ok v w'->(∃u,v=.value u)/\Below w.heap.size w w':=fun {s} hs h=>by
  rw[Sem.run_bind]at h;cases hr:s.run P w with
  |halt e w1=>simp_all
  |ok u w1=>
   rw[hr,Result.andThen_ok,Sem.run_pure]at h;cases h;exact⟨⟨u,rfl⟩,hs P w u w' hr⟩
 obtain⟨dst,op,ty,pos,after,guard⟩:=o;simp only at hk;cases op<;>simp only[Oj,ah]at hk
 case move x=>cases h;exact⟨⟨_,rfl⟩,Below.refl _ _⟩
 case assign x=>cases h;exact⟨⟨_,rfl⟩,Below.refl _ _⟩
 case pick x y z=>
  have e:execOp ρ ⟨dst,.pick x y z,ty,pos,after,guard⟩=(do pure (Next.value (<-(do pure (if<-asBool (ρ x)then ρ y else ρ z):Sem Value))):Sem Next):=by
   simp[execOp,bind_assoc]
  rw[e]at h;exact hv ((aou _).bind fun _=>.pure _) h
 case load t x=>exact hv (aow t (ρ x)) h
 case index t x i=>exact hv (atg t (ρ x) (ρ i)) h
 case extract x i=>exact hv (akj (ρ x) i) h
 case box t x=>exact hv (aBR t (ρ x)) h
 case alloc t=>exact hv (atf t) h
 case call cc=>
  obtain⟨callee,args,ts⟩:=cc;cases callee with
  |builtin b=>
   cases b<;>simp only[ah]at hk
   case len=>
    grind [execOp,builtin,resolve,invoke,aBS]
   case unsafeSliceData=>
    have e:execOp ρ ⟨dst,.call {callee:=.builtin .unsafeSliceData,args:=args,argTypes:=ts},ty,pos,after,guard⟩=(do pure (Next.value (<-Builtin.unsafeSliceData_ ts ty (args.map ρ))):Sem Next):=by
     rfl
    grind [aaM]
  |_=>simp at hk
theorem nT {ops:Array Oper} (h:mi ops=true) (i:Nat) (o:Oper) (ho:ops[i]? =some o):qp o.op=false/\ ∀cs b,o.op≠ .select cs b:=by
 have:=List.all_eq_true.1 h o (by grind)
 grind [qp]
def o8 (P:Program) (ops:Array Oper) (C:World->Prop) (o:Oper) (v:Value) (a:Act):Prop:=
 (Region.wanted o (yielded ops a.tmps)=true/\ ∀w,C w->(execOp a.eval o).run P w=.ok (.value v) w)\/(Region.wanted o (yielded ops a.tmps)=false/\v=undef)
def VU (P:Program) (C:World->Prop) (o:Oper):Prop:=(∀w,C w)\/ ∀ρ w v w',C w->(execOp ρ o).run P w=.ok v w'->(∃u,v=.value u)/\C w'
variable {ops:Array Oper} {C:World->Prop} {Q:Exit->Act->World->Prop}
theorem o8.of_same {o:Oper} {v:Value} {a a':Act} (hy:o8 P ops C o v a) (he:execOp a'.eval o=execOp a.eval o)
  (hw:Region.wanted o (yielded ops a'.tmps)=Region.wanted o (yielded ops a.tmps)):o8 P ops C o v a':=by
 rcases hy with ⟨h1,h2⟩|⟨h1,h2⟩
 ·exact .inl ⟨by rw[hw];exact h1,fun w hc=>by simp_all⟩
 ·exact .inr ⟨by rw[hw];exact h1,h2⟩
theorem o8.wpOpIn {i:Nat} {o:Oper} {v:Value} {a:Act} (hd:mi ops=true) (hi:ops[i]? =some o) (hy:o8 P ops C o v a) {K:Act->World->Prop} {w:World} (hw:C w) (h:K (a.put o.dst v) w):wpOpIn (FW rd) n P ops Q i K a w:=by
 unfold Go.wpOpIn;simp only[hi];rcases hy with ⟨h1,h2⟩|⟨h1,rfl⟩
 ·rw[if_pos h1];refine⟨qj o w _, ?_⟩;rw[wS (nT hd i o hi).1,h2 w hw];exact h
 ·rw[if_neg (by rw[h1];simp)]
  grind [qj]
theorem ac2 {j:Nat} {oi oj:Oper} {v:Value} (hd:mi ops=true) (hi: ∃i:Nat,ops[i]? =some oi) (hj:ops[j]? =some oj) (hap:oi.apart ops oj=true) (hkeep:VU P C oj) (hQ: ∀c a w,¬Q (.panic c) a w) {K:Act->World->Prop} {a:Act} {w:World} (hw:C w)
  (hy:o8 P ops C oi v a) (h:wpOpIn (FW rd) n P ops Q j K (a.put oi.dst v) w):wpOpIn (FW rd) n P ops Q j (fun a' w'=>C w'/\o8 P ops C oi v a'/\K (a'.put oi.dst v) w') a w:=by
 obtain⟨h1,h2,h3⟩:=Oper.apart_spec hap;obtain⟨i,hi⟩:=hi;have hsi:=(nT hd i oi hi).2;obtain⟨hdj,hsj⟩:=nT hd j oj hj;have keep: ∀(a:Act),o8 P ops C oi v a-> ∀u,o8 P ops C oi v (a.put oj.dst u):=fun a hy u=>hy.of_same (execOp_put oi hsi a oj.dst u h3) (wanted_put oi a oj.dst u h3);unfold wpOpIn at*;simp only[hj]at*;rw[wanted_put oj a oi.dst v h1]at h;split
 ·rename_i hwt
  rw[if_pos hwt]at h;unfold Oper.wpIn at*;refine⟨qj oj w _, ?_⟩;have h:=h.2;rw[wS hdj,execOp_put oj hsj a oi.dst v h1]at h;rw[wS hdj];have hk:(∀w,C w)\/ ∀x w',(execOp a.eval oj).run P w=.ok x w'->(∃u,x=.value u)/\C w':=by
   rcases hkeep with hk|hk
   all_goals grind
  generalize (execOp a.eval oj).run P w=r at*;cases r with
  |ok x w'=>
   have hall:(∀w,C w)\/((∃u,x=.value u)/\C w'):=by
    simp_all
   cases x<;>simp only[Oper.uponIn]at h ⊢
   case value u=>
    grind [Act.put_comm]
   case skip=>
    grind [Act.put_comm]
   case defer d=>
    rcases hall with hk|hk
    ·have keepD: ∀d,o8 P ops C oi v {a with defers:=d::a.defers}:=fun d=>hy.of_same rfl rfl
     grind [Act.put_comm,Act.put_defers]
    simp_all
   case enter f args=>
    grind [Act.put_comm]
   case row row args=>
    grind [Act.put_comm]
   grind [Act.put_comm]
  |halt x w'=>
   cases x<;>simp only[Oper.uponIn]at h ⊢;simp_all
 ·rename_i hwt
  rw[if_neg hwt]at h
  grind [qj,Act.put_comm]
theorem Ld {l:List Nat} {i:Nat}:U6 l i=true↔i∈l:=by
 simp_all [U6]
theorem EI {i:Nat} {oi:Oper} {v:Value} (hd:mi ops=true) (hi:ops[i]? =some oi) (hQ: ∀c a w,¬Q (.panic c) a w) (D:List Nat) (hD: ∀j∈D,j≠i->EH ops j D=true):
  ∀(fuel:Nat) (listed:Array Bool) (a:Act) (w:World),C w->(∀j∈D,listed.getD j true=false)->
   (∀j oj,ops[j]? =some oj->j∉D->listed.getD j true=false->oi.apart ops oj=true/\VU P C oj)->i∈D->
   i∈Region.ready .any ops listed->o8 P ops C oi v a->
   wpAnyIn (FW rd) n P .any ops Q fuel (listed.setIfInBounds i true) (a.put oi.dst v) w->wpAnyIn (FW rd) n P .any ops Q (fuel+1) listed a w:=by
 have hnot: ∀(listed:Array Bool) (j:Nat),(∀j∈D,listed.getD j true=false)->j∈Region.ready .any ops listed->j≠i->j∉D:=fun listed j hl hj hji hjD=>by
  have hw:=hD j hjD hji;unfold EH at hw;obtain⟨_,oj,hoj,hall⟩:=mem_ready.1 hj;rw[hoj]at hw;obtain⟨e,he,hb⟩:=Array.any_eq_true'.1 hw;simp only[af]at hb
  grind [Ld]
 intro fuel
 induction fuel with
 |zero=>
  intro listed a w hw hl _ hiD hr hy H;refine⟨fun h=>(by simp_all),fun j hj=> ?_⟩;by_cases hji:j=i
  ·subst hji;exact hy.wpOpIn hd hi hw H
  ·have:=ready_mono hj hji;rw[H.1]at this;cases this
 |succ fuel ih=>
  intro listed a w hw hl hfree hiD hr hy H;refine⟨fun h=>(by simp_all),fun j hj=> ?_⟩;by_cases hji:j=i
  ·subst hji;exact hy.wpOpIn hd hi hw H
  ·have h1:=H.2 j (ready_mono hj hji);have hjD:=hnot listed j hl hj hji;obtain⟨hjun,oj,hoj,hall⟩:=mem_ready.1 hj;obtain⟨hap,hkp⟩:=hfree j oj hoj hjD hjun;have h2:=ac2 hd ⟨i,hi⟩ hoj hap hkp hQ hw hy h1;have hl': ∀k∈D,(listed.setIfInBounds j true).getD k true=false:=fun k hk=>by
    rw[getD_set_ne true (fun e=>hjD (by rw[e];exact hk))];exact hl k hk
   have hfree': ∀k ok,ops[k]? =some ok->k∉D->(listed.setIfInBounds j true).getD k true=false->oi.apart ops ok=true/\VU P C ok:=fun k ok hk hkD hun=>by
    refine hfree k ok hk hkD ?_;by_cases hjk:j=k
    all_goals simp_all
   refine wpOpIn_mono (fun a' w' h3=>ih (listed.setIfInBounds j true) a' w' h3.1 hl' hfree' hiD (ready_mono hr (Ne.symm hji)) h3.2.1 ?_) h2;simp_all [Array.setIfInBounds_comm]
theorem Ja {cl:Bool} {call:fV R} {K:St->Option R} (o:Oper) (l:List Oper) (st:St):gZ T cl call ops K (o::l) st=gZ T cl call ops (gZ T cl call ops K l) [o] st:=by
 simp only[gZ]
theorem ab3 {cl:Bool} {call:fV R} {K:St->Option R} {o:Oper} (h:gZ T cl call ops K [o] st=some r) (hr:iO W0 b0 rd c st a ats):
  (Region.wanted o (yielded ops a.tmps)=true/\ ∃st1,iO W0 b0 rd c st1 a ats/\dW T cl call o st1 (fun v st=>K (st.put o.dst v))=some r)\/
  (Region.wanted o (yielded ops a.tmps)=false/\ ∃st1,iO W0 b0 rd c st1 (a.put o.dst undef) ats/\K st1=some r):=by
 simp only[gZ]at h;have skip: ∀(st:St),iO W0 b0 rd c st a ats->iO W0 b0 rd c (st.put o.dst (.tup [])) (a.put o.dst undef) ats:=fun st hr=>hr.put (by simp only[bJ];exact⟨#[],rfl,by simp[bF]⟩);cases hg:o.guard with
 |none=>
  grind [Region.wanted]
 |some jw=>
  obtain⟨j,want⟩:=jw;rw[hg]at h;simp only at h;split at h
  ·cases h
  ·rename_i d hd
   have hy:=IC ops j d hd a.tmps;have hsl:=hr.fr.getD d;have hsz:=bF.length _ _ hr.fr;rw[Array.length_toList]at hsz;split at h
   ·rename_i b hb
    rw[hb]at hsl;simp only[bJ]at hsl;have hv:=hsl.bool_inv;have hdl:d<a.tmps.size:=by
     grind
    have hv2:a.tmps[d]? =some (.bool b):=by
     simp_all
    rw[hv2]at hy;simp only at hy;have hself:a.put (some d) (.bool b)=a:=by
     simp only[Act.put];obtain⟨hh1,hh2⟩:=Array.getElem?_eq_some_iff.1 hv2;have:a.tmps.setIfInBounds d (.bool b)=a.tmps:=by
      grind
     rw[this]
    have hr2:iO W0 b0 rd c (st.put (some d) (.val .bool b)) a ats:=by
     have:=hr.put (dst:=some d) (z:=.val .bool b) (v:=.bool b) (by simp_all [bJ]);rwa [hself]at this
    cases b<;>cases want<;>(try simp only[cond_true,cond_false]at h)
    ·grind [Region.wanted]
    ·grind [Region.wanted]
    ·grind [Region.wanted]
    grind [Region.wanted]
   ·rename_i hb
    rw[hb]at hsl;simp only[bJ]at hsl;obtain⟨vs,hv,_⟩:=hsl;have hy2:yielded ops a.tmps j=none:=by
     rw[hy];cases he:a.tmps[d]? with
     |none=>rfl
     |some x=>
      simp_all
    grind [Region.wanted]
   ·cases h
theorem acW {listed:Array Bool} {i:Nat} {pure:Bool} {oi:Oper} (hi:ops[i]? =some oi) (h:SB ops listed i pure=true): ∃D:List Nat,i∈D/\(∀j∈D,listed.getD j true=false)/\(∀j∈D,j≠i->EH ops j D=true)/\
  ∀j oj,ops[j]? =some oj->j∉D->listed.getD j true=false->oi.apart ops oj=true/\(pure=true\/Oj oj.op=true):=by
 unfold SB at h;rw[hi]at h;simp only[af]at h;obtain⟨h1,h2,h3⟩:=h;refine⟨_,Ld.1 h1,fun j hj=> ?_,fun j hj hne=> ?_,fun j oj hoj hjD hl=> ?_⟩
 ·simp_all
 ·have:=List.all_eq_true.1 h2 j hj;simp_all
 ·have:=List.all_eq_true.1 h3 j (List.mem_range.2 (Array.getElem?_eq_some_iff.1 hoj).1);simp_all [Ld]
theorem Vb {f:Op->Bool} {i:Nat} (h:aeJ ops f i=true): ∃o,ops[i]? =some o/\f o.op=true:=by
 grind [aeJ]
theorem afe {op:Op} (h:Ij op=true):iq op=true:=by
 cases op<;>simp_all [Ij,iq,jE]
theorem Em (hT:TOk P T) {cl:Bool} {call:fV R} (hcall:lW P W0 n call) (hd:mi ops=true) {K:St->Option R} {Q:Act->World->Prop}:
  ∀(fuel:Nat) (listed:Array Bool) (l:List Nat) (c:Cx) (st:St) (a:Act),tZ ops fuel listed=some l->gZ T cl call ops K (l.filterMap fun i=>ops[i]?) st=some r->iO W0 b0 rd c st a ats->
   (∀c' st' a',K st'=some r->iO W0 b0 rd c' st' a' ats->c.Mono c'->Q a' c'.w)->wpAnyIn (FW rd) n P .any ops (fun e a w=>e=.normal/\Q a w) fuel listed a c.w
 |0,listed,l,c,st,a,hp,h,hr,hQ=>by
  simp only[tZ]at hp;rw[cond_eq_ite]at hp;split at hp
  ·rename_i he
   cases hp;simp only[List.filterMap_nil,gZ]at h;exact⟨by simpa using he,rfl,hQ c st a h hr (Cx.Mono.refl c)⟩
  ·cases hp
 |fuel+1,listed,l,c,st,a,hp,h,hr,hQ=>by
  have hQ0: ∀c (a:Act) (w:World),¬(Exit.panic c=.normal/\Q a w):=fun c a w h=>by cases h.1
  have take: ∀(i:Nat) (pr:Bool) (l':List Nat),i∈Region.ready .any ops listed->(if pr then aeJ ops Ij i=true else aeJ ops iq i=true)->SB ops listed i pr=true->tZ ops fuel (listed.setIfInBounds i true)=some l'->
    gZ T cl call ops K ((i::l').filterMap fun i=>ops[i]?) st=some r->wpAnyIn (FW rd) n P .any ops (fun e a w=>e=.normal/\Q a w) (fuel+1) listed a c.w:=fun i pr l' hir hop htk hpl h=>by
   obtain⟨oi,hoi,hq,hpure⟩: ∃oi,ops[i]? =some oi/\iq oi.op=true/\(pr=true->Ij oi.op=true):=by
    grind [Vb,afe]
   obtain⟨D,d1,d2,d3,d4⟩:=acW hoi htk;simp only[List.filterMap_cons,hoi]at h;rw[Ja]at h;have hfree: ∀j oj,ops[j]? =some oj->j∉D->listed.getD j true=false->oi.apart ops oj=true/\VU P (fun w=>pr=true\/FZ c w) oj:=fun j oj hoj hjD hl=>by
    obtain⟨e1,e2⟩:=d4 j oj hoj hjD hl;refine⟨e1, ?_⟩;rcases e2 with e2|e2
    ·exact .inl fun w=>.inl e2
    ·refine .inr fun ρ w v w' hw hx=> ?_;obtain⟨hu,hb⟩:=aeh e2 ρ P w v w' hx;exact⟨hu,hw.imp (fun h=>h) fun hw=>hw.trans (hb.mono hw.size)⟩
   have hcw:pr=true\/FZ c c.w:=.inr (Below.refl _ _);rcases ab3 h hr with ⟨hwt,st1,hr1,h1⟩|⟨hwt,st1,hr1,h1⟩
   ·have hy: ∃z u,gZ T cl call ops K (l'.filterMap fun i=>ops[i]?) (st1.put oi.dst z)=some r/\bJ c z u/\o8 P ops (fun w=>pr=true\/FZ c w) oi u a:=by
     cases pr with
     |true=>
      obtain⟨z,u,k1,k2,k3⟩:=ave hT hr1.ok (hpure rfl) hr1.hp hr1.fr h1;exact⟨z,u,k1,k2,.inl ⟨hwt,fun w _=>k3 w⟩⟩
     |false=>
      obtain⟨z,u,k1,k2,k3⟩:=zY hT hr1.ok hq hr1.hp hr1.fr h1;exact⟨z,u,k1,k2,.inl ⟨hwt,fun w hw=>k3 w (hw.resolve_left (by simp))⟩⟩
    obtain⟨z,u,k1,k2,k3⟩:=hy;exact EI hd hoi hQ0 D d3 fuel listed a c.w hcw d2 hfree d1 hir k3 (Em hT hcall hd fuel _ l' c (st1.put oi.dst z) (a.put oi.dst u) hpl k1 (hr1.put k2) hQ)
   ·exact EI hd hoi hQ0 D d3 fuel listed a c.w hcw d2 hfree d1 hir (.inr ⟨hwt,rfl⟩) (Em hT hcall hd fuel _ l' c st1 (a.put oi.dst undef) hpl h1 hr1 hQ)
  simp only[tZ]at hp;split at hp
  ·rename_i hrd
   cases hp;simp only[List.filterMap_nil,gZ]at h;exact⟨fun _=>⟨rfl,hQ c st a h hr (Cx.Mono.refl c)⟩,by rw[hrd];simp⟩
  ·rename_i k rs hrd
   split at hp
   ·grind
   ·split at hp
    ·grind
    ·split at hp
     ·split at hp
      ·rename_i l' hpl
       cases hp;obtain⟨_,ok,hok,_⟩:=mem_ready.1 (show k∈Region.ready .any ops listed by rw[hrd];simp);simp only[List.filterMap_cons,hok]at h;rw[Ja]at h;refine wpAnyIn_all hrd (by simp) fun j hj=> ?_;obtain rfl:j=k:=by simpa using hj
       unfold wpOpIn;simp only[hok];rcases ab3 h hr with ⟨hwt,st1,hr1,h1⟩|⟨hwt,st1,hr1,h1⟩
       ·rw[if_pos hwt];exact QZ hT hcall h1 hr1 fun c' z u st' k1 k2 k3 k4=>Em hT hcall hd fuel _ l' c' (st'.put ok.dst z) (a.put ok.dst u) hpl k1 (k2.put k3) fun c'' st'' a'' q1 q2 q3=>hQ c'' st'' a'' q1 q2 (k4.trans q3)
       ·rw[if_neg (by rw[hwt];simp)];exact⟨qj ok c.w _,Em hT hcall hd fuel _ l' c st1 (a.put ok.dst undef) hpl h1 hr1 hQ⟩
      ·cases hp
     ·cases hp
theorem TR (hT:TOk P T) (hm:P.follows .mixedOrders=true) {cl:Bool} {call:fV R} (hcall:lW P W0 n call) {id:Nat} {l:List Oper} (hp:afc ops=some l) {K:St->Option R} {Q:Exit->Act->World->Prop}
  (h:gZ T cl call ops K l st=some r) (hr:iO W0 b0 rd c st a ats) (hQ: ∀c' st' a',K st'=some r->iO W0 b0 rd c' st' a' ats->c.Mono c'->Q .normal a' c'.w):
  (Code.region id ops true).wpIn (FW rd) n P Q a c.w:=by
 unfold afc at hp;rw[cond_eq_ite]at hp;split at hp
 ·rename_i hd
  split at hp
  ·rename_i l' hpl
   cases hp;have hext:FZ c {c.w with drawn:=c.w.drawn+1}:=⟨rfl,rfl,rfl,ae _,fun _ _=>rfl⟩;have h2:=Em (Q:=fun a w=>Q .normal a w) hT hcall hd ops.size _ l' (c.at_ {c.w with drawn:=c.w.drawn+1}) st a hpl h (hr.ext hext) fun c' st' a' k1 k2 k3=>hQ c' st' a' k1 k2 ((Cx.Le.ext hext).mono.trans k3);exact Code.wpIn_mono (fun e a w he=>by simp_all) (wpIn_region_any hm h2)
  ·cases hp
 ·cases hp
end
end
section
open List renaming mem_cons_of_mem → aj
open Nat renaming lt_of_lt_of_le → aZ
open Go.RowKit
def uD {R:Type} (P:Program) (W0:World) (ex:mP R):Prop:=
 ∀(f:FuncId) (args:List bG) (st:St) (K:bG->St->Option R) (r:R),ex (.call f args) st K=some r->
  ∀(b0:Nat) (rd:Option Nat) (c:Cx) (a:Act) (ats:List (Array Value)) (args':Array Value),iO W0 b0 rd c st a ats->bF c args args'.toList->
   ∀Rr:Ending->World->Prop,(∀c' z u st',K z st'=some r->iO W0 b0 rd c' st' a ats->bJ c' z u->c.Mono c'->Rr (.returned u) c'.w)->
    (callFunc f args').run P c.w=.ok (.enter f args') c.w/\Calls P f args' c.w Rr
section
variable {P:Program} {T:TT} {W0:World} {b0 n:Nat} {rd:Option Nat} {c:Cx} {R:Type} {r:R} {st:St} {a:Act} {ats:List (Array Value)}
def Ex.xt:Ex->Exit
 |.normal=>.normal
 |.exit i=>.exit i
 |.goto l=>.goto l
 |.ret=>.ret
section
variable {F:Fence} {b:Frame} {k:List Item} {cs:List Frame} {w:World} {Q:Exit->Act->World->Prop}
theorem qc {x:Code}:step P (lone (b.atR a (.code (.scope x)::k)) cs w)=.next (lone (b.atR a (.code x:: .inScope x::k)) cs w):=
 step_lone_go (by rfl)
theorem TZ {x:Code}:step P (lone (b.atR a (.inScope x::k)) cs w)=.next (lone (b.atR a k) cs w):=
 step_lone_go (by rfl)
theorem afC {x:Code} (h:x.wpIn F n P (fun e a w=>(∀l,e≠ .goto l)/\Q e a w) a w):(Code.scope x).wpIn F n P Q a w:=by
 intro b k cs hro hb hr;have h0:(lone (b.atR a (.code (.scope x)::k)) cs w).fenced P F:=fenced_calm hb hr rfl;obtain⟨e,a₁,w₁,⟨hng,hq⟩,harr⟩:=h b (.inScope x::k) cs hro hb hr;cases e with
 |normal=>exact⟨.normal,a₁,w₁,hq,.head h0 qc (StepsIn.trans harr (.one (fenced_calm hb hr rfl) TZ))⟩
 |exit id'=>
  have hx:exitTo id' (.inScope x::k)=exitTo id' k:=by simp[exitTo]
  exact⟨.exit id',a₁,w₁,hq,fun k' hk=>.head h0 qc (harr.1 k' (by rw[hx];exact hk)),
   fun hr' hk=>let⟨k₁,h1,h2⟩:=harr.2 hr' (by rw[hx];exact hk);⟨k₁,h1,.head h0 qc h2⟩⟩
 |goto l=>simp_all
 |ret=>exact⟨_,a₁,w₁,hq,.of_steps (.one h0 qc) harr⟩
 |panic ch=>exact⟨_,a₁,w₁,hq,.of_steps (.one h0 qc) harr⟩
 |outgrown=>exact⟨_,a₁,w₁,hq,.of_steps (.one h0 qc) harr⟩
end
theorem apw (hok:c.Ok W0):c.Le {c with w:=c.w.alloc (.deferred (some [])),mks:=c.w.heap.size::c.mks}/\({c with w:=c.w.alloc (.deferred (some [])),mks:=c.w.heap.size::c.mks}:Cx).Ok W0:=by
 have hb:=ny c.w (.deferred (some []));have hle:c.Le {c with w:=c.w.alloc (.deferred (some [])),mks:=c.w.heap.size::c.mks}:=
  ⟨fun b hf=>⟨⟨aZ hf.1 hb.size,hf.2.1,by
    intro hm;rcases List.mem_cons.1 hm with e|e
    ·have:=hf.1;omega
    ·exact hf.2.2 e⟩,hb.block b hf.1⟩,fun _ h=>h,fun id o _ ho=>⟨o,ho,o.like_refl _⟩,fun r hr=>aj _ hr,fun b L hL=>⟨L,(hb.block b (Array.getElem?_eq_some_iff.1 hL).1).trans hL⟩,hb.size,rfl⟩
 refine⟨hle,⟨hok.bel.trans (hb.mono hok.size),fun id o ho=>(hok.obj id o ho).le hle rfl fun b hb'=>hb.block b ((hok.obj id o ho).lt hb').2,hok.inj,fun r hr=> ?_,fun b hb=>(hle.out b (hok.bar b hb)).1,hok.phi⟩⟩;rcases List.mem_cons.1 hr with e|e
 ·subst e;exact⟨hok.size,World.alloc_heap_new _ _⟩
 ·exact⟨(hok.mks r e).1,(hb.block r (hok.mark_lt e)).trans (hok.mks r e).2⟩
theorem azU (hok:c.Ok W0) {st:St} (h1:c.hp=st.hp) (h2:c.nxt=st.nxt) {id n':Nat} (h3:dH st.hp id=none) (h4:st.nxt<=id) (h5:st.nxt<=n') {f:FuncId} {fr:List bG} {L:Loop} (hv:bF c fr L.tmps.toList) (hs:L.state=.ready) (hp:L.pending=none) {ky:Option Nat} (hky: ∀k,ky=some k->qJ f k=some (L.assign,L.body)):
  ∃c',CJ W0 c st c' {st with hp:=(id,.lp f fr L.params.toList L.assign L.body ky 0 none)::st.hp,nxt:=n'}/\c'.w=c.w.alloc (.loop L)/\bJ c' (.yld id) (.func (.yield c.w.heap.size) #[] #[])/\c'.mks=c.mks:=by
 have hk:=zW h1 h2 h3 h4;have hb:=ny c.w (.loop L);have hl: ∀b,dD.blk (.lp f fr L.params.toList L.assign L.body ky 0 none) ⟨c.w.heap.size,undef⟩=some b->c.w.heap.size<=b:=fun b hb=>by
  simp_all [dD.blk]
 have hle:=Cx.Le.push (o:=.lp f fr L.params.toList L.assign L.body ky 0 none) (l:=⟨c.w.heap.size,undef⟩) (nxt:=n') (w:=c.w.alloc (.loop L)) hk (by omega) hb.size hb.block hl;have ho:(c.push id (.lp f fr L.params.toList L.assign L.body ky 0 none) ⟨c.w.heap.size,undef⟩ n' (c.w.alloc (.loop L))).ORel W0.heap.size id (.lp f fr L.params.toList L.assign L.body ky 0 none):=by
  refine⟨hky,by simp[Cx.push,upd_same];exact hok.size,L, ?_,bF.le hle _ _ hv,rfl,rfl,rfl,hs,hp⟩;simp only[Cx.push,upd_same];exact World.alloc_heap_new c.w _
 refine⟨_,⟨?_,rfl,rfl,rfl,hok.push hk (by omega) hb hl ho,hle⟩,rfl, ?_,rfl⟩
 ·simp[Cx.push,h1]
 ·simp only[bJ];refine⟨rfl,.inl ⟨_,by simp[Cx.push,dV];rfl⟩,fun _ _ _ _ _ _ _ _ _=>by simp[Cx.push,upd_same]⟩
theorem Iq (hok:c.Ok W0) {id:Nat} {f:FuncId} {fr:List bG} {ps:List Nat} {iY bd:Code} {ky:Option Nat} {k:Nat} {p:Option Ex} (hg:dH c.hp id=some (.lp f fr ps iY bd ky k p)) {L:Loop} (hL:c.w.heap[(c.mu id).blk]? =some (.loop L)) (L':Loop)
  {o':dD} (ho':o'=.dead\/(∃k' p',o'=.lp f fr ps iY bd ky k' p'/\alV k' p' L'/\L'.tmps=L.tmps/\L'.params=L.params/\L'.assign=L.assign/\L'.body=L.body)):
  ∃c',c'.hp=iV c.hp id o'/\c'.nxt=c.nxt/\c.Le c'/\c'.Ok W0/\c'.w=c.w.putObj (c.mu id).blk (.loop L')/\c'.mks=c.mks:=by
 have hlt:(c.mu id).blk<c.w.heap.size:=(Array.getElem?_eq_some_iff.1 hL).1;obtain⟨hky,hB,L0,hL0,hv,e1,e2,e3,e4⟩:=hok.obj id _ hg;rw[hL]at hL0;have eL:L0=L:=by cases hL0;rfl
 subst eL;have hk:(dD.lp f fr ps iY bd ky k p).like (c.mu id) o' (c.mu id):=by
  rcases ho' with rfl|⟨k',p',rfl,_⟩<;>simp[dD.like]
 have hs:c.w.heap.size<=(c.w.putObj (c.mu id).blk (.loop L')).heap.size:=by simp
 have hb: ∀b,b<c.w.heap.size->(dD.lp f fr ps iY bd ky k p).blk (c.mu id)≠some b->(c.w.putObj (c.mu id).blk (.loop L')).heap[b]? =c.w.heap[b]? :=fun b _ hne=>
  World.putObj_heap_other fun e=>hne (by rw[e];rfl)
 have hl: ∀b,o'.blk (c.mu id)=some b->(dD.lp f fr ps iY bd ky k p).blk (c.mu id)=some b\/c.w.heap.size<=b:=fun b hb=>by
  rcases ho' with rfl|⟨k',p',rfl,_⟩
  ·cases hb
  ·exact .inl hb
 have hlp: ∀(b:Nat) (L1:Loop),(dD.lp f fr ps iY bd ky k p).blk (c.mu id)=some b->c.w.heap[b]? =some (Obj.loop L1)-> ∃L2:Loop,(c.w.putObj (c.mu id).blk (.loop L')).heap[b]? =some (Obj.loop L2):=fun b L1 hb _=>by
  grind [dD.blk,World.putObj_heap_same]
 have hw:Below W0.heap.size W0 (c.w.putObj (c.mu id).blk (.loop L')):=
  ⟨hok.bel.os,hok.bel.tape,hok.bel.output,by omega,fun j hj=>(World.putObj_heap_other (by omega)).trans (hok.bel.block j hj)⟩
 have hle:=Cx.Le.put hok hg hk hs hb hl hlp;refine⟨c.put id o' (c.mu id) (c.w.putObj (c.mu id).blk (.loop L')),rfl,rfl,hle,Cx.Ok.put hok hg hk hw hs hb hl hlp ?_,rfl,rfl⟩;rcases ho' with rfl|⟨k',p',rfl,h1,h2,h3,h4,h5⟩
 ·trivial
 ·refine⟨hky,by simp only[Cx.put,upd_same];exact hB,L', ?_,bF.le hle _ _ (by rw[h2];exact hv),by rw[h3];exact e1,by rw[h4];exact e2,by rw[h5];exact e3,h1⟩;simp only[Cx.put,upd_same];exact World.putObj_heap_same hlt
end
end
section
open Go.RowKit
section
variable {T:TT} {cl:Bool} {R:Type} {r:R} {sg:FuncId->Option Sum}
theorem zI {dst:Option Nat} {o:dD} {st:St} {K:Nat->St->Option R} (h:alloc cl dst o st K=some r): ∃i st',K i st'=some r:=by
 unfold alloc at h
 grind
theorem ayD {op:BinOp} {t:TypeId} {x y:bG} {K:bG->Option R} (h:aah T op t x y K=some r): ∃z,K z=some r:=by
 unfold aah at h;simp only[mg,cond_eq_ite]at h
 grind
theorem asO {hp:gz} {op:BinOp} {t:TypeId} {x y:bG} {K:bG->Option R} (h:PX T hp op t x y K=some r): ∃z,K z=some r:=by
 unfold PX at h;simp only[cond_eq_ite]at h
 grind [ayD]
theorem aBO {op:UnOp} {x:bG} {K:bG->Option R} (h:anS op x K=some r): ∃z,K z=some r:=by
 unfold anS at h
 grind
theorem asP {hp:gz} {t:TypeId} {a:bG} {K:bG->Option R} (h:KI T hp t a K=some r): ∃z,K z=some r:=by
 unfold KI at h
 grind
theorem ayE {old:gz} {st:St} {a v:bG} {K:St->Option R} (h:aai old st a v K=some r): ∃z,K z=some r:=by
 unfold aai at h;simp only[cond_eq_ite]at h
 repeat' split at h
 all_goals first|cases h;done|exact⟨_,h⟩
theorem anV {st:St} {t:TypeId} {a v:bG} {K:St->Option R} (h:I9 T st t a v K=some r): ∃z,K z=some r:=by
 unfold I9 at h;simp only[cond_eq_ite]at h
 repeat' split at h
 all_goals first|cases h;done|exact⟨_,h⟩
theorem adM {s d:TypeId} {x:bG} {hp:gz} {K:bG->Option R} (h:zH T s d x hp K=some r): ∃z,K z=some r:=by
 unfold zH at h;simp only[mg,cond_eq_ite]at h
 grind
theorem anU {hp:gz} {t:TypeId} {x:bG} {lo hi mx:Option bG} {K:bG->Option R} (h:I8 T hp t x lo hi mx K=some r): ∃z,K z=some r:=by
 unfold I8 at h;simp only[mg,cond_eq_ite]at h
 grind
theorem WC {hp:gz} {t:TypeId} {x:bG} {f:Nat} {K:bG->Option R} (h:tu T hp t x f K=some r): ∃z,K z=some r:=by
 unfold tu at h;simp only[cond_eq_ite]at h
 repeat' split at h
 all_goals first|cases h;done|exact⟨_,h⟩
theorem anT {t:TypeId} {x:bG} {f:Nat} {K:bG->Option R} (h:I5 T t x f K=some r): ∃z,K z=some r:=by
 unfold I5 at h
 repeat' split at h
 all_goals first|cases h;done|exact⟨_,h⟩
theorem WE {hp:gz} {t:TypeId} {x i:bG} {K:bG->Option R} (h:tC T hp t x i K=some r): ∃z,K z=some r:=by
 unfold tC at h;simp only[mg,cond_eq_ite]at h
 repeat' split at h
 all_goals first|cases h;done|exact⟨_,h⟩
theorem ayF {hp:gz} {t:TypeId} {x:bG} {K:bG->Option R} (h:aaj T hp t x K=some r): ∃z,K z=some r:=by
 unfold aaj at h;simp only[mg,cond_eq_ite]at h
 grind
theorem aj8 {dst:Option Nat} {t:TypeId} {s x:bG} {st:St} {K:bG->St->Option R} (h:IZ T cl dst t s x st K=some r): ∃z st',K z st'=some r:=by
 unfold IZ at h;simp only[mg,cond_eq_ite]at h
 repeat' split at h
 all_goals first|cases h;done|exact⟨_,_,h⟩|grind [zI]
theorem adK {dst:Option Nat} {t t':TypeId} {s x:bG} {st:St} {K:bG->St->Option R} (h:zG T cl dst t t' s x st K=some r): ∃z st',K z st'=some r:=by
 unfold zG at h;simp only[mg,cond_eq_ite]at h
 repeat' split at h
 all_goals first|cases h;done|exact⟨_,_,h⟩|grind [zI]
theorem adL {o:Oper} {b:Builtin} {ts:List TypeId} {args:List bG} {st:St} {K:bG->St->Option R} (h:jV T cl o b ts args st K=some r): ∃z st',K z st'=some r:=by
 unfold jV at h;simp only[mg,cond_eq_ite]at h
 grind [ayF,aj8,adK]
def xm (sg:FuncId->Option Sum) (call:fV R):Prop:= ∀g s args dst st (K:bG->St->Option R) r,sg g=some s->call (.fn g []) args dst st K=some r-> ∃z st',K z st'=some r
theorem anW {s:Sum} {args:List bG} {dst:Option Nat} {st:St} {K:bG->St->Option R} (h:s.call cl args dst st K=some r): ∃z st',K z st'=some r:=by
 unfold Sum.call at h;simp only[cond_eq_ite]at h;split at h
 ·split at h
  ·rename_i x hx
   cases hf:s.f x with
   |none=>simp_all [bz]
   |some y=>
    grind [bz,zI]
  ·cases h
 ·cases h
theorem afS {call:fV R} (hx:xm sg call) {o:Oper} {st:St} {K:bG->St->Option R} (hp:ve sg o.op=true) (h:dW T cl call o st K=some r): ∃z st',K z st'=some r:=by
 obtain⟨dst,op,ty,pos,after,guard⟩:=o;cases op with
 |call c=>
  simp only[dW]at h;simp only[ve]at hp;split at h
  ·exact adL h
  ·rename_i f hf
   rw[hf]at hp;cases f with
   |func g=>
    simp only at hp;cases hs:sg g with
    |none=>simp_all
    |some s=>exact hx g s _ _ _ _ _ hs h
   |_=>simp at hp
  ·cases h
 |store t x y=>
  grind [dW,anV,ayE]
 |_=>
  simp only[dW,mg,cond_eq_ite]at h
  repeat' split at h
  all_goals first
   |cases h;done
   |exact⟨_,_,h⟩
   |(obtain⟨_,_,h⟩:=zI h;exact⟨_,_,h⟩)
   |(obtain⟨_,_,h⟩:=zI h;obtain⟨_,_,h⟩:=zI h;exact⟨_,_,h⟩)
   |(obtain⟨_,h⟩:=asP h;exact⟨_,_,h⟩)
   |(obtain⟨_,h⟩:=asO h;exact⟨_,_,h⟩)
   |(obtain⟨_,h⟩:=aBO h;exact⟨_,_,h⟩)
   |(obtain⟨_,h⟩:=adM h;exact⟨_,_,h⟩)
   |(obtain⟨_,h⟩:=anU h;exact⟨_,_,h⟩)
   |(obtain⟨_,h⟩:=WC h;exact⟨_,_,h⟩)
   |(obtain⟨_,h⟩:=anT h;exact⟨_,_,h⟩)
   |grind [WE]
theorem Wj {E:Env} {ex:mP R}:xm E.sg (wu E ex):=fun g s args dst st K r hs h=>by
 grind [wu,anW]
theorem aAI:xm (R:=R) sg (Gh sg cl):=fun g s args dst st K r hs h=>by
 simp only[Gh,hs]at h;exact anW (di h).2
theorem akT {o:Op} (h:iq o=true):ve sg o=true:=by
 cases o with
 |call c=>
  grind [iq,ve]
 |_=>rfl
theorem Hf {call:fV R} (hx:xm sg call) {ops:Array Oper} {old:List bG}: ∀(l:List Nat) {st:St} {K:St->Option R},xY T cl call ops old l st K=some r-> ∃st',K st'=some r
 |[],st,K,h=>⟨st,h⟩
 |i::l,st,K,h=>by
  simp only[xY]at h;split at h
  ·rw[cond_eq_ite]at h;split at h
   ·rename_i hq
    obtain⟨_,_,h⟩:=afS hx (akT hq) h;exact Hf hx l (di h).2
   ·exact Hf hx l (di h).2
  ·cases h
theorem WF {call:fV R} (hx:xm sg call) {ops:Array Oper} (hp: ∀o∈ops.toList,ve sg o.op=true) {j:Nat} {log:List Nat} {st:St} {K:St->Option R} (h:tJ T cl call ops j log st K=some r): ∃st',K st'=some r:=by
 unfold tJ at h;split at h
 ·rename_i oj hoj
  obtain⟨_,_,h⟩:=afS hx (hp oj (by grind)) (di h).2
  grind [Hf]
 ·cases h
theorem TE {α β:Type} {o:Option α} {k:α->Option β} {y:β} (h:bz o k=some y): ∃x,o=some x/\k x=some y:=by
 cases o with
 |none=>simp[bz]at h
 |some x=>exact⟨x,rfl,h⟩
theorem yx {k:Option R} {r:R}: ∀(l:List (Option Unit)),O3 l k=some r->k=some r/\ ∀x∈l,x=some ()
 |[],h=>⟨h,fun _ hx=>by cases hx⟩
 |o::l,h=>by
  simp only[O3]at h;obtain⟨⟨⟩,h1,h2⟩:=TE h;obtain⟨h3,h4⟩:=yx l h2
  grind
theorem PY {ops:Array Oper} (hp: ∀o∈ops.toList,ve sg o.op=true) {callS:fV St} {callU:fV Unit} (hxS:xm sg callS) (hxU:xm sg callU): ∀(n:Nat) {R:Type} {r:R} {call:fV R},xm sg call-> ∀(listed:Array Bool) (log:List Nat) (st:St) (K:St->Option R),
  lY T cl sg callS callU ops n call listed log st K=some r-> ∃st',K st'=some r
 |0,R,r,call,hx,listed,log,st,K,h=>by simp[lY]at h
 |n+1,R,r,call,hx,listed,log,st,K,h=>by
  have hpi: ∀{i:Nat} {oi:Oper},ops[i]? =some oi->ve sg oi.op=true:=fun {i oi} hoi=>hp oi (by grind);simp only[lY]at h;split at h
  ·exact⟨st,h⟩
  ·split at h
   ·split at h
    ·rename_i hoi
     obtain⟨_,_,h⟩:=afS hx (hpi hoi) (di h).2;exact PY hp hxS hxU n hx _ _ _ _ h
    ·cases h
   ·split at h
    ·split at h
     ·rename_i hoi
      obtain⟨_,_,h⟩:=afS (aAI (sg:=sg)) (hpi hoi) (di h).2;exact PY hp hxS hxU n hx _ _ _ _ h
     ·cases h
    ·split at h
     ·obtain⟨_,h⟩:=WF hx hp h;exact PY hp hxS hxU n hx _ _ _ _ h
     ·rw[cond_eq_ite]at h;split at h
      ·grind
      ·obtain⟨_,h⟩:=WF hx hp h;obtain⟨_,h⟩:=PY hp hxS hxU n hx _ _ _ _ h;replace h:=(di h).2
       grind [yx]
end
end
section
open Bool renaming and_eq_true → af, false_eq_true → ah, and_true → az, not_false → aA, true_and → aI, not_eq_true' → aW
open List renaming mem_cons_of_mem → aj, map_cons → ax, mem_cons_self → aG, length_map → aK
open Nat renaming le_refl → ae, eq_of_beq_eq_true → ak
open Go.RowKit
section
variable {P:Program} {T:TT} {W0:World} {b0 n:Nat} {rd:Option Nat} {c:Cx} {st:St} {a:Act} {sg:FuncId->Option Sum} {cl:Bool} {ats:List (Array Value)} {ops:Array Oper}
def qR:(t:Ty)->t.den->List Value
 |.unit,_=>[]
 |.bool,x=>[.bool x]
 |.int k,x=>[.int k x]
 |.str,x=>[.string ⟨x.toArray⟩]
 |.list _,_=>[]
 |.pair a b,x=>qR a x.1++qR b x.2
theorem ug {w:World} {fr:Nat->Prop}: ∀(t:Ty) (x:t.den),t.rigid=true-> ∀cs,eY w fr t x cs↔cs=qR t x
 |.unit,x,_,cs=>by rfl
 |.bool,x,_,cs=>by rfl
 |.int k,x,_,cs=>by rfl
 |.str,x,_,cs=>by rfl
 |.list t,x,h,cs=>by simp[Ty.rigid]at h
 |.pair a b,x,h,cs=>by
  simp only[Ty.rigid,af]at h;simp only[eY,qR,ug a x.1 h.1,ug b x.2 h.2];simp
def IV (t:Ty) (x:t.den):Value:=if t.isAgg then .agg (qR t x).toArray else(qR t x).headD undef
theorem VD.rigid {t:Ty} {x:t.den} (h:t.rigid=true) (v:Value):VD c t x v↔v=IV t x:=by
 cases ha:t.isAgg with
 |true=>
  rw[VD.agg ha];simp only[IV,ha,if_true,ug t x h];constructor
  ·rintro ⟨cs,rfl,h2⟩;rw[<-h2]
  simp_all
 |false=>
  rw[VD.leaf ha,ug t x h];have: ∃u,qR t x=[u]:=by cases t<;>first|exact⟨_,rfl⟩|(simp[Ty.rigid]at h;done)|grind [Ty.isAgg]
  grind [IV]
def rv1:bG->Value
 |.val t x=>IV t x
 |_=>undef
def rv:bG->Value
 |.tup l=>.tuple (l.map rv1).toArray
 |v=>rv1 v
theorem ahy {v:bG} (h:v.rigid=true) (u:Value):bJ c v u↔u=rv1 v:=by
 cases v<;>simp only[bG.rigid,ah]at h;simp_all [bJ,rv1,VD.rigid]
theorem ahz: ∀(l:List bG),l.all bG.rigid=true-> ∀us,bF c l us↔us=l.map rv1
 |[],_,[]=>by simp[bF]
 |[],_,u::us=>by simp[bF]
 |v::l,_,[]=>by simp[bF]
 |v::l,h,u::us=>by
  simp only[List.all_cons,af]at h;simp only[bF,ahy h.1,ahz l h.2,ax,List.cons.injEq]
theorem Ip {v:bG} (h:v.rigidR=true) (u:Value):bJ c v u↔u=rv v:=by
 cases v with
 |tup l=>
  simp only[bG.rigidR]at h;simp only[bJ,rv,ahz l h];constructor
  ·rintro ⟨vs,rfl,h2⟩;rw[<-h2]
  simp_all
 |val t x=>exact ahy (v:=.val t x) h u
 |_=>simp[bG.rigidR,bG.rigid]at h
theorem Iz (id:Nat): ∀(rs:List (Ty×Bool)) y,(rs.all fun r=> !r.2&&r.1.rigid)=true->(oI id rs y).all bG.rigid=true
 |[],_,_=>rfl
 |(t,true)::rs,y,h=>by simp at h
 |(t,false)::rs,y,h=>by
  simp only[List.all_cons,aA,aI,af]at h;simp only[oI,List.all_cons,bG.rigid,h.1,aI];exact Iz id rs y.2 h.2
theorem Rj: ∀(l:List bG),l.all bG.rigid=true->(LQ l).rigidR=true
 |[],_=>rfl
 |[v],h=>by
  simp only[List.all_cons,List.all_nil,az]at h;cases v<;>simp only[bG.rigid,ah]at h;exact h
 |v::v2::l,h=>h
theorem bF.mk {c:Cx}: ∀(l:List bG) (xs:List Value),l.length=xs.length->(∀(i:Nat) (h:i<l.length) (h':i<xs.length),bJ c l[i] xs[i])->bF c l xs
 |[],[],_,_=>by simp[bF]
 |[],_::_,h,_=>by simp at h
 |_::_,[],h,_=>by simp at h
 |v::l,x::xs,h,hh=>by
  simp only[bF];exact⟨hh 0 (by simp) (by simp),bF.mk l xs (by simpa using h) fun i h1 h2=>by
   have:=hh (i+1) (by simp;omega) (by simp;omega);simpa using this⟩
def uy (ops:Array Oper) (k:Nat):Option Nat:=(ops[k]?).bind (·.dst)
def fP (ops:Array Oper) (a:Act):List (Nat×Value)->Act
 |[]=>a
 |(k,v)::l=>(fP ops a l).put (uy ops k) v
theorem yZ (a:Act): ∀(q l:List (Nat×Value)),fP ops a (q++l)=fP ops (fP ops a l) q
 |[],l=>rfl
 |(k,v)::q,l=>by simp only[List.cons_append,fP];rw[yZ a q l]
theorem zf (a:Act): ∀l,(fP ops a l).defers=a.defers
 |[]=>rfl
 |(k,v)::l=>by rw[fP,put_defers,zf a l]
theorem uf (a:Act): ∀l,(fP ops a l).tmps.size=a.tmps.size
 |[]=>rfl
 |(k,v)::l=>by
  rw[fP];cases uy ops k with
  |none=>exact uf a l
  |some d=>simp only[Act.put,Array.size_setIfInBounds];exact uf a l
def alU (ops:Array Oper) (x y:Oper):Prop:= ∀d,y.dst=some d->d∉x.looksAt ops/\x.dst≠some d
theorem KP {x y:Oper} (h:EW ops x y=true):alU ops x y:=fun d hd=>by
 simp_all [EW]
theorem wP (a:Act) {d:Option Nat} {v:Value}: ∀(l:List (Nat×Value)),(∀m∈l.map (·.1),∀e,uy ops m=some e->d≠some e)->fP ops (a.put d v) l=(fP ops a l).put d v
 |[],_=>rfl
 |(k,u)::l,h=>by
  rw[fP,fP,wP a l fun m hm=>h m (aj _ hm)];simp_all [Act.put_comm]
theorem Dk (a:Act) {o:Oper} (hs: ∀cs b,o.op≠ .select cs b): ∀(l:List (Nat×Value)),(∀m∈l.map (·.1),∀e,uy ops m=some e->e∉o.looksAt ops)->execOp (fP ops a l).eval o=execOp a.eval o
 |[],_=>rfl
 |(k,u)::l,h=>by
  rw[fP,execOp_put (ops:=ops) o hs _ _ _ (h k aG)];exact Dk a hs l fun m hm=>h m (aj _ hm)
def iE (ops:Array Oper) (lA:Array Bool) (log:List Nat):List Nat->Prop
 |[]=>True
 |k::l=>iE ops lA log l/\lA.getD k true=false/\k∈log/\k∉l/\ ∃ok,ops[k]? =some ok/\jE ok.op=true/\ok.guard=none/\(∀d,ok.dst=some d->d∉ok.looksAt ops)/\
   (∀e∈ok.after,Region.binds .any e=true->lA.getD e.on false=true\/e.on∈l)/\
   (∀m∈l,∃om,ops[m]? =some om/\alU ops om ok/\(sK ops k m=false->om.apart ops ok=true))
def GX (rd:Option Nat) (n:Nat) (P:Program) (c:Cx) (a:Act) (o:Oper) (v:Value):Prop:= ∀w',FZ c w'->o.quietAtIn (FW rd) n P a (FZ (c.at_ w')) w' v
theorem GX.congr {a a':Act} {o:Oper} {v:Value} (h:execOp a'.eval o=execOp a.eval o) (hq:GX rd n P c a o v):GX rd n P c a' o v:=fun w' hw=>by
 have:=hq w' hw;simp_all [Oper.quietAtIn]
theorem GX.of_run {a:Act} {o:Oper} {v:Value} (h: ∀w',FZ c w'->(execOp a.eval o).run P w'=.ok (.value v) w'):GX rd n P c a o v:=fun w' hw=>by
 unfold Oper.quietAtIn;rw[h w' hw];exact⟨rfl,rfl⟩
theorem GX.ext {a:Act} {o:Oper} {v:Value} {w:World} (hw:FZ c w) (h:GX rd n P c a o v):GX rd n P (c.at_ w) a o v:=fun w' hw'=>h w' (Below.trans hw (hw'.mono hw.size))
theorem GX.wpOp {a:Act} {i:Nat} {o:Oper} {v:Value} (hd:mi ops=true) (hi:ops[i]? =some o) (hg:o.guard=none) (h:GX rd n P c a o v) {Q:Exit->Act->World->Prop} {K:Act->World->Prop} (hK: ∀w',FZ c w'->K (a.put o.dst v) w'):wpOpIn (FW rd) n P ops Q i K a c.w:=by
 unfold Go.wpOpIn;simp only[hi];rw[if_pos (by simp[Region.wanted,hg])];refine⟨qj o c.w _, ?_⟩;rw[wS (nT hd i o hi).1];have h1:=h c.w (Below.refl _ _);unfold Oper.quietAtIn at h1;generalize (execOp a.eval o).run P c.w=x at h1 ⊢
 match x,h1 with
 |.ok (.value u) w',h1=>
  obtain⟨e1,e2⟩:=h1;subst e1 e2;exact hK _ (Below.refl _ _)
 |.ok .skip w',h1=>
  obtain⟨e1,e2⟩:=h1;subst e1 e2;exact hK _ (Below.refl _ _)
 |.ok (.enter f args) w',h1=>
  obtain⟨e1,e2,e3⟩:=h1;subst e1;refine⟨e2,CallsIn.mono e3 fun e w'' he=> ?_⟩;obtain⟨e4,e5⟩:=he;subst e4;exact hK _ e5
def kD (rd:Option Nat) (n:Nat) (P:Program) (ops:Array Oper) (c:Cx) (a:Act):List (Nat×Value)->Prop
 |[]=>True
 |(k,v)::l=>kD rd n P ops c a l/\ ∃ok,ops[k]? =some ok/\GX rd n P c (fP ops a l) ok v
theorem kD.ext {w:World} (hw:FZ c w) {a:Act}: ∀{l:List (Nat×Value)},kD rd n P ops c a l->kD rd n P ops (c.at_ w) a l
 |[],_=>trivial
 |(k,v)::l,h=>⟨kD.ext hw h.1,let⟨ok,h1,h2⟩:=h.2;⟨ok,h1,h2.ext hw⟩⟩
def sQ (sg:FuncId->Option Sum) (cl:Bool) (o:Oper) (fr:List bG) (z:bG):Prop:=
 jE o.op=true/\(∃cc fo,o.op=.call cc/\cc.callee=.value fo)/\z.rigidR=true/\(∀d,o.dst=some d->z=fr.getD d .undef)/\
  ∃fv args,jr o fr=fv::args/\ ∀(dst:Option Nat) (st':St) (K:bG->St->Option Unit),Gh sg cl fv args dst st' K=K z st'
theorem O5 (hT:TOk P T) (hq:mV (R:=Unit) P (Gh sg cl)) {o:Oper} {z:bG} {fr':List bG} (hfit:sQ sg cl o fr' z) (he:jr o fr'=jr o st.fr) {a:Act} (hr:iO W0 b0 rd c st a ats):bJ c z (rv z)/\GX rd n P c a o (rv z):=by
 obtain⟨h1,⟨cc,fo,h2,h3⟩,h4,_,fv,args,h5,h6⟩:=hfit;rw[he]at h5;refine⟨(Ip h4 _).2 rfl,fun w' hw=> ?_⟩
 classical
 have h:dW T cl (Gh sg cl) o st (fun z' _=>if z'=z then some ()else none)=some ():=by
  simp_all [jr,dW]
 obtain⟨z',v,g1,g2,g3⟩:=ab4 (n:=n) hT hq h1 h (hr.ext hw);have hz:z'=z:=by
  simp_all
 rw[hz]at g2;rw[<-(Ip h4 v).1 g2];exact g3 w' (Below.refl _ _)
def Ky (sg:FuncId->Option Sum) (cl:Bool) (ops:Array Oper) (fr:List bG) (l:List Nat):Prop:= ∀k∈l,∀ok,ops[k]? =some ok->iq ok.op=false-> ∃z,sQ sg cl ok fr z
theorem KR {l:Array Bool} {m:Nat} (h1:l.getD m false=true) (h2:l.getD m true=false):False:=by
 grind
theorem acZ {lA:Array Bool} {j m:Nat} (hj:j∈Region.ready .any ops lA) (hm:lA.getD m true=false):sK ops j m=false:=by
 obtain⟨_,oj,hoj,hall⟩:=mem_ready.1 hj;unfold sK;rw[hoj];cases hb:oj.after.any fun e=>Region.binds .any e&&Nat.beq e.on m with
 |false=>exact hb
 |true=>
  obtain⟨e,he,hb⟩:=Array.any_eq_true'.1 hb;simp only[af]at hb
  grind [ak]
theorem iE.un {lA:Array Bool} {log:List Nat}: ∀{l:List Nat},iE ops lA log l-> ∀k∈l,lA.getD k true=false
 |k::l,h,m,hm=>by
  rcases List.mem_cons.1 hm with e|hm
  ·rw[e];exact h.2.1
  ·exact iE.un h.1 m hm
theorem iE.log {lA:Array Bool} {log:List Nat}: ∀{l:List Nat},iE ops lA log l-> ∀k∈l,k∈log
 |k::l,h,m,hm=>by
  rcases List.mem_cons.1 hm with e|hm
  ·rw[e];exact h.2.2.1
  ·exact iE.log h.1 m hm
theorem iE.mono {lA:Array Bool} {log log':List Nat} (hl: ∀k∈log,k∈log'): ∀{l:List Nat},iE ops lA log l->iE ops lA log' l
 |[],_=>trivial
 |k::l,h=>⟨iE.mono hl h.1,h.2.1,hl _ h.2.2.1,h.2.2.2⟩
theorem iE.set {lA:Array Bool} {log:List Nat} {j:Nat}: ∀{l:List Nat},iE ops lA log l->j∉l->iE ops (lA.setIfInBounds j true) log l
 |[],_,_=>trivial
 |k::l,h,hj=>by
  obtain⟨h1,h2,h3,h4,ok,h5,h6,h7,h8,h9,h10⟩:=h;refine⟨iE.set h1 fun h=>hj (aj _ h), ?_,h3,h4,ok,h5,h6,h7,h8,fun e he hb=> ?_,h10⟩
  ·rw[getD_set_ne true (fun e=>hj (by rw[e];exact aG))];exact h2
  ·exact(h9 e he hb).imp getD_set_true fun h=>h
theorem wU {lA:Array Bool} {j:Nat} (hj:j<lA.size):(lA.setIfInBounds j true).getD j false=true:=by simp[hj]
theorem iE.take {lA:Array Bool} {log:List Nat} {k:Nat} (hk:k<lA.size): ∀{l:List Nat},iE ops lA log l->k∈l->iE ops (lA.setIfInBounds k true) log (l.erase k)
 |m::l,h,hm=>by
  obtain⟨h1,h2,h3,h4,ok,h5,h6,h7,h8,h9,h10⟩:=h;by_cases e:m=k
  ·simp_all [iE.set]
  ·rw[List.erase_cons_tail (by simpa using e)];have hkl:k∈l:=(List.mem_cons.1 hm).resolve_left fun h=>e h.symm;refine⟨iE.take hk h1 hkl, ?_,h3,fun h=>h4 (List.mem_of_mem_erase h),ok,h5,h6,h7,h8,fun e' he hb=> ?_,fun x hx=>h10 x (List.mem_of_mem_erase hx)⟩
   ·rw[getD_set_ne true (fun h=>e h.symm)];exact h2
   grind [getD_set_true,wU]
theorem tq {k:Nat} {o:Oper} (h:ops[k]? =some o):uy ops k=o.dst:=by simp[uy,h]
theorem kD.put {a:Act} {c:Cx} (hd:mi ops=true) {d:Option Nat} {v:Value}: ∀{l:List (Nat×Value)},kD rd n P ops c a l->
  (∀m∈l.map (·.1),∃om,ops[m]? =some om/\(∀e,om.dst=some e->d≠some e)/\(∀e,d=some e->e∉om.looksAt ops))->kD rd n P ops c (a.put d v) l
 |[],_,_=>trivial
 |(k,u)::l,h,hh=>by
  obtain⟨h1,ok,h2,h3⟩:=h;refine⟨kD.put hd h1 fun m hm=>hh m (aj _ hm),ok,h2,h3.congr ?_⟩;obtain⟨om,g1,g2,g3⟩:=hh k aG;rw[h2]at g1;cases g1;rw[wP a l fun m hm e he=> ?_,execOp_put (ops:=ops) ok (nT hd k ok h2).2 _ _ _ g3]
  grind [tq]
theorem Vk {a:Act} {c:Cx} (hd:mi ops=true) {lA:Array Bool} {log:List Nat} {k:Nat} {ok:Oper} (hok:ops[k]? =some ok) (hk:k∈Region.ready .any ops lA):
  ∀{l:List (Nat×Value)},iE ops lA log (l.map (·.1))->kD rd n P ops c a l->k∈l.map (·.1)->
   ∃v l',GX rd n P c a ok v/\l'.map (·.1)=(l.map (·.1)).erase k/\kD rd n P ops c (a.put ok.dst v) l'/\fP ops (a.put ok.dst v) l'=fP ops a l
 |(m,u)::l,hs,hr,hm=>by
  obtain⟨s1,s2,s3,s4,om,s5,s6,s7,s8,s9,s10⟩:=hs;obtain⟨r1,om',r2,r3⟩:=hr;rw[s5]at r2;cases r2;by_cases e:m=k
  ·subst e;rw[hok]at s5;cases s5;have hap: ∀x∈l.map (·.1),∃ox,ops[x]? =some ox/\ox.apart ops ok=true:=fun x hx=>by
    grind [acZ,iE.un]
   refine⟨u,l,r3.congr ?_,by simp,kD.put hd r1 fun x hx=> ?_, ?_⟩
   ·grind [Dk,nT,Oper.apart_spec,tq]
   ·grind [Oper.apart_spec]
   grind [fP,tq,wP,Oper.apart_spec]
  ·have hkl:k∈l.map (·.1):=(List.mem_cons.1 hm).resolve_left fun h=>e h.symm;obtain⟨v,l',h1,h2,h3,h4⟩:=Vk hd hok hk s1 r1 hkl;refine⟨v,(m,u)::l',h1, ?_,⟨h3,om,s5,by rw[h4];exact r3⟩,by rw[fP,fP,h4]⟩;simp_all
theorem zF {α:Type} {f:α->α->Bool} (hf: ∀x y,f x y=true->x=y): ∀(a b:List α),wB f a b=true->a=b
 |[],[],_=>rfl
 |[],_::_,h=>by simp[wB]at h
 |_::_,[],h=>by simp[wB]at h
 |x::l,y::m,h=>by
  simp only[wB,af]at h;rw[hf x y h.1,zF hf l m h.2]
theorem KH: ∀(t:Ty) (x y:t.den),WB t x y=true->x=y
 |.unit,(),(),_=>rfl
 |.bool,x,y,h=>by simpa [WB] using h
 |.int _,x,y,h=>by simpa [WB,bM] using h
 |.str,x,y,h=>by simpa [WB,gU] using h
 |.list t,x,y,h=>zF (KH t) x y h
 |.pair a b,x,y,h=>by
  simp only[WB,af]at h;exact Prod.ext (KH a _ _ h.1) (KH b _ _ h.2)
theorem anM {t u:Ty} {x:t.den} {y:u.den} (h:(match jX t y with|some y=>WB t x y|none=>false)=true): ∃e:u=t,x=cast (congrArg Ty.den e) y:=by
 grind [lT,KH]
theorem aj2 {a b:Option (Int×Int)} (h:adJ a b=true):a=b:=by
 cases a<;>cases b<;>simp_all [adJ,bM,Prod.ext_iff]
theorem kw {a b:Nat} (h:Nat.beq a b=true):a=b:=ak h
mutual
theorem anQ: ∀(a b:bG),Tc a b=true->a=b
 |.undef,b,h=>by grind [Tc]
 |.val t x,b,h=>by
  cases b<;>simp only[Tc,ah]at h;obtain⟨e,h⟩:=anM h;simp_all
 |.nils,b,h=>by grind [Tc]
 |.nilp,b,h=>by grind [Tc]
 |.nilfn,b,h=>by grind [Tc]
 |.emp,b,h=>by grind [Tc]
 |.tup l,b,h=>by
  cases b<;>simp only[Tc,ah]at h;rw[qo l _ h]
 |.agg l,b,h=>by
  cases b<;>simp only[Tc,ah]at h;rw[qo l _ h]
 |.cellp t x,b,h=>by
  cases b<;>simp only[Tc,ah]at h;obtain⟨e,h⟩:=anM h;simp_all
 |.lst t x n,b,h=>by
  cases b<;>simp only[Tc,ah,af]at h;obtain⟨h1,h2⟩:=h;split at h2
  ·rename_i z hz
   obtain⟨e,h3⟩:=lT hz;have h4:=KH (.list t) x z h2
   grind
  ·cases h2
 |.ptr i o,b,h=>by
  cases b<;>simp only[Tc,ah,af]at h;simp_all
 |.slc i v w,b,h=>by
  cases b<;>simp only[Tc,ah,af]at h
  grind [kw,aj2]
 |.ep i v m o,b,h=>by
  cases b<;>simp only[Tc,ah,af]at h;rw[kw h.1,kw h.2.1,kw h.2.2.1,kw h.2.2.2]
 |.fn f l,b,h=>by
  cases b<;>simp only[Tc,ah,af]at h;rw[kw h.1,qo l _ h.2]
 |.mfn f l,b,h=>by
  cases b<;>simp only[Tc,ah,af]at h;rw[kw h.1,qo l _ h.2]
 |.mpv i,b,h=>by
  cases b<;>simp only[Tc,ah]at h;rw[kw h]
 |.yld i,b,h=>by
  cases b<;>simp only[Tc,ah]at h;rw[kw h]
 |.slf i,b,h=>by
  cases b<;>simp only[Tc,ah]at h;rw[kw h]
 |.sd i v,b,h=>by
  cases b<;>simp only[Tc,ah,af]at h;simp_all
theorem qo: ∀(a b:List bG),He a b=true->a=b
 |[],[],_=>rfl
 |[],_::_,h=>by simp[He]at h
 |_::_,[],h=>by simp[He]at h
 |a::l,b::m,h=>by
  simp only[He,af]at h;rw[anQ a b h.1,qo l m h.2]
end
theorem oJ: ∀(B:List Nat) (fr:List bG),(oC ops B fr).length=fr.length
 |[],_=>rfl
 |i::B,fr=>by
  simp only[oC];split
  ·rw[List.length_set];exact oJ B fr
  ·exact oJ B fr
theorem ZK {k d:Nat} {B:List Nat} {fr:List bG} (h:uy ops k=some d):oC ops (k::B) fr=(oC ops B fr).set d .undef:=by
 have h':(ops[k]?).bind (·.dst)=some d:=h;simp only[oC,h']
theorem ZJ {k:Nat} {B:List Nat} {fr:List bG} (h:uy ops k=none):oC ops (k::B) fr=oC ops B fr:=by
 have h':(ops[k]?).bind (·.dst)=none:=h;simp only[oC,h']
theorem Uj: ∀(B:List Nat) (fr:List bG) (i:Nat) (h:i<fr.length) (h':i<(oC ops B fr).length),(oC ops B fr)[i]=.undef\/((oC ops B fr)[i]=fr[i]/\ ∀k∈B,uy ops k≠some i)
 |[],fr,i,h,h'=>.inr ⟨rfl,fun k hk=>by cases hk⟩
 |k::B,fr,i,h,h'=>by
  have hl:=oJ (ops:=ops) B fr;have ih:=Uj B fr i h (by rw[hl];exact h);cases hd:uy ops k with
  |some d=>
   simp only[ZK hd]
   grind
  |none=>
   simp_all [ZJ]
theorem aAt (X:Act) (d:Option Nat) (v:Value) (i:Nat) (hne:d≠some i) (h:i<(X.put d v).tmps.size) (h':i<X.tmps.size):(X.put d v).tmps[i]=X.tmps[i]:=by
 cases d with
 |none=>rfl
 |some d=>
  simp_all [Act.put]
theorem Vm (a:Act) (i:Nat): ∀(l:List (Nat×Value)),(∀k∈l.map (·.1),uy ops k≠some i)-> ∀(h:i<(fP ops a l).tmps.size) (h':i<a.tmps.size),(fP ops a l).tmps[i]=a.tmps[i]
 |[],_,h,h'=>rfl
 |(k,v)::l,hk,h,h'=>by
  have h2:i<(fP ops a l).tmps.size:=by rw[uf];exact h'
  rw[<-Vm a i l (fun m hm=>hk m (aj _ hm)) h2 h'];exact aAt _ _ _ _ (hk k aG) h h2
theorem aiy {c:Cx} {fr:List bG} {l:List (Nat×Value)} {B:List Nat} (h:bF c fr (fP ops a l).tmps.toList) (hB: ∀k∈l.map (·.1),k∈B):bF c (oC ops B fr) a.tmps.toList:=by
 have hlen:=bF.length _ _ h;rw[Array.length_toList (xs:=(fP ops a l).tmps),uf]at hlen;refine bF.mk _ _ (by simp_all [oJ]) fun i h1 h2=> ?_;rw[oJ]at h1;have h2:i<a.tmps.size:=by simpa using h2
 rcases Uj (ops:=ops) B fr i h1 (by assumption)with e|⟨e,hk⟩
 ·rw[e];simp[bJ]
 ·rw[e];have:=bF.get _ _ h i h1 (by simp_all [uf])
  grind [Vm]
theorem NE {o:Oper} (h:jE o.op=true): ∀cs b,o.op≠ .select cs b:=fun cs b e=>by simp_all [jE]
theorem akU {op:Op} (h:iq op=true):jE op=true:=by
 cases op<;>first|exact h|skip
 rename_i cc
 obtain⟨callee,args,ts⟩:=cc;cases callee with
 |builtin b=>cases b<;>first|exact h|(simp[iq]at h)
 |value v=>rfl
 |invoke x m=>simp[iq]at h
def alT (T:TT) (cl:Bool) {R:Type} (call:fV R) (ops:Array Oper) (old:List bG) (st:St) (k:Nat):Prop:=
 ∃ok,ops[k]? =some ok/\((iq ok.op=true/\ ∃(r:R) (K:St->Option R),(dW T cl call ok st fun z s=>bif sameAt ok.dst z st then K s else none)=some r)\/
  (iq ok.op=false/\jr ok old=jr ok st.fr/\zk ok.dst old=zk ok.dst st.fr))
theorem BG {R:Type} {r:R} (hT:TOk P T) {call:fV R} {old:List bG} {K:St->Option R} (hr:iO W0 b0 rd c st a ats): ∀(B:List Nat),
  xY T cl call ops old B st K=some r->K st=some r/\ ∀k∈B,alT T cl call ops old st k
 |[],h=>⟨h,fun k hk=>by cases hk⟩
 |k::B,h=>by
  simp only[xY]at h;split at h
  ·rename_i ok h1
   cases hq:iq ok.op with
   |true=>
    rw[hq]at h;simp only[cond_true]at h;have h0:=h;obtain⟨z,u,g1,g2,g3⟩:=zY hT hr.ok hq hr.hp hr.fr h;replace g1:=di g1;obtain⟨g4,g5⟩:=BG hT hr B g1.2;refine⟨g4,fun m hm=> ?_⟩;rcases List.mem_cons.1 hm with e|hm
    ·exact⟨ok,by rw[e];exact h1,.inl ⟨hq,r,fun _=>xY T cl call ops old B st K,h0⟩⟩
    ·exact g5 m hm
   |false=>
    rw[hq]at h;simp only[cond_false]at h;replace h:=di h;obtain⟨h2,h⟩:=h;simp only[af]at h2;obtain⟨g4,g5⟩:=BG hT hr B h;refine⟨g4,fun m hm=> ?_⟩;rcases List.mem_cons.1 hm with e|hm
    ·exact⟨ok,by rw[e];exact h1,.inr ⟨hq,qo _ _ h2.1,qo _ _ h2.2⟩⟩
    ·exact g5 m hm
  ·cases h
theorem sQ.same {o:Oper} {fr fr':List bG} {z:bG} (h:sQ sg cl o fr z) (h1:jr o fr=jr o fr') (h2:zk o.dst fr=zk o.dst fr'):sQ sg cl o fr' z:=by
 obtain⟨a1,a2,a3,a4,fv,args,a5,a6⟩:=h;refine⟨a1,a2,a3,fun d hd=> ?_,fv,args,by simp_all,a6⟩;simp_all [zk]
theorem aci {d:Nat} {z:bG} (h:z=st.fr.getD d .undef):st.put (some d) z=st:=by
 obtain⟨fr,stk,hp,nxt⟩:=st;simp only[St.put];have:fr.set d z=fr:=by
  subst h;apply List.ext_getElem
  all_goals grind
 rw[this]
theorem avf (X:Act) (d:Option Nat) (v u:Value):(X.put d v).put d u=X.put d u:=by
 cases d with
 |none=>rfl
 |some d=>simp[Act.put]
theorem Uf (hT:TOk P T) (hd:mi ops=true) (hsq:mV (R:=Unit) P (Gh sg cl)) {R:Type} {call:fV R} {old:List bG} {lA:Array Bool} {log:List Nat}: ∀(l q:List (Nat×Value)),iE ops lA log (l.map (·.1))->iO W0 b0 rd c st (fP ops (fP ops a l) q) ats->
  (∀k∈l.map (·.1),alT T cl call ops old st k)->Ky sg cl ops st.fr (l.map (·.1))->(∀m∈q.map (·.1),∃om,ops[m]? =some om/\ ∀k∈l.map (·.1),∃ok,ops[k]? =some ok/\alU ops ok om)->
  ∃l',l'.map (·.1)=l.map (·.1)/\iO W0 b0 rd c st (fP ops (fP ops a l') q) ats/\kD rd n P ops c a l'
 |[],q,_,hr,_,_,_=>⟨[],rfl,hr,trivial⟩
 |(k,v)::l,q,hs,hr,hA,hF,hq=>by
  obtain⟨s1,s2,s3,s4,ok,s5,s6,s7,s8,s9,s10⟩:=hs;have hq2: ∀m∈(q++[(k,v)]).map (·.1),∃om,ops[m]? =some om/\ ∀x∈l.map (·.1),∃ox,ops[x]? =some ox/\alU ops ox om:=fun m hm=>by
   grind
  obtain⟨l',e1,hr2,hrun⟩:=Uf hT hd hsq l (q++[(k,v)]) s1 (by rw[yZ];exact hr) (fun m hm=>hA m (aj _ hm)) (fun m hm=>hF m (aj _ hm)) hq2;rw[yZ]at hr2;have hX:fP ops (fP ops a l') [(k,v)]=(fP ops a l').put (uy ops k) v:=rfl;rw[hX]at hr2;have hdk:=tq s5;have hsee:execOp (fP ops ((fP ops a l').put (uy ops k) v) q).eval ok=execOp (fP ops a l').eval ok:=by
   rw[Dk _ (NE s6) q fun m hm e he=> ?_,execOp_put (ops:=ops) ok (NE s6) _ _ _ (by rw[hdk];exact s8)];obtain⟨om,h1,h2⟩:=hq m hm;obtain⟨ok',h3,h4⟩:=h2 k aG;rw[s5]at h3;cases h3;exact(h4 e (by grind [tq])).1
  have hcomm: ∀u,fP ops ((fP ops a l').put (uy ops k) u) q=(fP ops (fP ops a l') q).put (uy ops k) u:=fun u=>wP _ q fun m hm e he h=>by
   obtain⟨om,h1,h2⟩:=hq m hm;obtain⟨ok',h3,h4⟩:=h2 k aG;rw[s5]at h3;cases h3;exact(h4 e (by grind [tq])).2 (by simp_all)
  have fin: ∀(z:bG) (u:Value),bJ c z u->st.put ok.dst z=st->GX rd n P c (fP ops ((fP ops a l').put (uy ops k) v) q) ok u->
    ∃l2,l2.map (·.1)=((k,v)::l).map (·.1)/\iO W0 b0 rd c st (fP ops (fP ops a l2) q) ats/\kD rd n P ops c a l2:=fun z u g2 hself g3=>by
   refine⟨(k,u)::l',by simp[e1], ?_,hrun,ok,s5,g3.congr hsee.symm⟩;have:=hr2.put (dst:=ok.dst) g2;rw[hself,hcomm v,hdk,avf,<-hdk,<-hcomm u]at this;exact this
  obtain⟨ok',a1,a2⟩:=hA k aG;rw[s5]at a1;cases a1;rcases a2 with ⟨b1,r,K,a3⟩|⟨b1,_,_⟩
  ·obtain⟨z,u,g1,g2,g3⟩:=zY hT hr2.ok b1 hr2.hp hr2.fr a3;rw[cond_eq_ite]at g1;split at g1
   ·rename_i hz
    refine fin z u g2 ?_ (.of_run g3);cases hdst:ok.dst with
    |none=>rfl
    |some d=>
     rw[hdst]at hz;exact aci (anQ _ _ hz)
   ·cases g1
  ·obtain⟨z,hz⟩:=hF k aG ok s5 b1;obtain⟨g2,g3⟩:=O5 (n:=n) hT hsq hz rfl hr2;refine fin z _ g2 ?_ g3;cases hdst:ok.dst with
   |none=>rfl
   |some d=>exact aci (hz.2.2.2.1 d hdst)
theorem E5 (hT:TOk P T) (hd:mi ops=true) (hsq:mV (R:=Unit) P (Gh sg cl)) {R:Type} {r:R} {call:fV R} (hcall:lW P W0 n call) {lA:Array Bool} {log:List Nat} {l:List (Nat×Value)} {j:Nat} {K:St->Option R}
  (hF:Ky sg cl ops st.fr (l.map (·.1))) (hj:j∈Region.ready .any ops lA) (hs:iE ops lA log (l.map (·.1))) (hjl:j∉l.map (·.1)) (hr:iO W0 b0 rd c st (fP ops a l) ats)
  (h:tJ T cl call ops j log st K=some r) {next:Act->World->Prop} {Q:Exit->Act->World->Prop}
  (hn: ∀c' st' a' l',K st'=some r->l'.map (·.1)=l.map (·.1)->iO W0 b0 rd c' st' (fP ops a' l') ats->kD rd n P ops c' a' l'->Ky sg cl ops st'.fr (l.map (·.1))->c.Mono c'->next a' c'.w):wpOpIn (FW rd) n P ops Q j next a c.w:=by
 unfold tJ at h;split at h
 ·rename_i oj hoj
  replace h:=di h;obtain⟨hg,h⟩:=h;simp only[af]at hg;have hguard:oj.guard=none:=by simpa using hg.1
  unfold wpOpIn;simp only[hoj];rw[if_pos (by simp[Region.wanted,hguard])];have hB: ∀k∈l.map (·.1),k∈log.filter fun i=> !sK ops j i:=fun k hk=>List.mem_filter.2 ⟨iE.log hs k hk,by grind [acZ,iE.un]⟩;have hap: ∀k∈l.map (·.1),∃ok,ops[k]? =some ok/\ok.apart ops oj=true:=fun k hk=>by
   have h2:=hg.2;unfold apD at h2
   grind
  have hrun:iO W0 b0 rd c {st with fr:=oC ops (log.filter fun i=> !sK ops j i) st.fr,stk:=st.fr::st.stk} a ((fP ops a l).tmps::ats):=
   ⟨hr.hp,hr.nxt,hr.ok,aiy hr.fr hB,⟨hr.fr,hr.stk⟩,by have:=hr.df;rwa [zf]at this,hr.rd⟩
  refine QZ hT hcall h hrun fun c' z u st1 k1 k2 k3 k4=> ?_;split at k1
  ·rename_i fr stk hst
   have hstk:=k2.stk;rw[hst]at hstk;simp only[Cc]at hstk;have hr1:iO W0 b0 rd c' {st1 with fr:=fr,stk:=stk} (fP ops a l) ats:=
    ⟨k2.hp,k2.nxt,k2.ok,hstk.1,hstk.2,by rw[zf];exact k2.df,k2.rd⟩
   have hr2:=hr1.put (dst:=oj.dst) k3;have hcm:(fP ops a l).put oj.dst u=fP ops (a.put oj.dst u) l:=(wP a l fun m hm e he hh=>by
    grind [Oper.apart_spec,tq]).symm
   rw[hcm]at hr2;obtain⟨g1,g2⟩:=BG hT hr2 _ k1;have hA: ∀k∈l.map (·.1),alT T cl call ops st.fr _ k:=fun k hk=>g2 k (List.mem_reverse.2 (hB k hk));have hF2:Ky sg cl ops _ (l.map (·.1)):=fun k hk ok hok hq=>by
    obtain⟨z,hz⟩:=hF k hk ok hok hq;obtain⟨ok',b1,b2⟩:=hA k hk;rw[hok]at b1;cases b1;rcases b2 with ⟨b3,_⟩|⟨_,b4,b5⟩
    ·rw[hq]at b3;cases b3
    ·exact⟨z,hz.same b4 b5⟩
   obtain⟨l',e1,e2,e3⟩:=Uf (n:=n) hT hd hsq l [] hs hr2 hA hF2 (fun m hm=>by cases hm);exact hn c' _ _ l' g1 e1 e2 e3 hF2 k4
  ·cases k1
 ·cases h
def WfH (h:gz):Prop:= ∀id f fr ps iY bd k n p,dH h id=some (.lp f fr ps iY bd (some k) n p)->qJ f k=some (iY,bd)
theorem iO.tidy {c:Cx} {st:St} {a:Act} (cl:Bool) (hr:iO W0 b0 rd c st a ats): ∃c',iO W0 b0 rd c' (tidy cl st) a ats/\c.Mono c'/\c'.w=c.w:=by
 cases cl with
 |true=>exact⟨c,hr,Cx.Mono.refl c,rfl⟩
 |false=>
  have hg: ∀i,dH (lC c.hp) i=dH c.hp i:=fun i=>wH i _;have hself: ∀(o:dD) (l:Loc),o.like l o l:=fun o l=>by
   cases o<;>simp[dD.like]
  have hle:c.Le {c with hp:=lC c.hp}:=by
   refine⟨fun b hb=>⟨⟨hb.1,fun⟨j,o,h1,h2⟩=>hb.2.1 ⟨j,o,by simp_all,h2⟩,hb.2.2⟩,rfl⟩,fun id hk=> ?_,fun id o' _ h=>⟨o',by rw[<-hg];exact h,hself _ _⟩,fun _ h=>h,fun b L h=>⟨L,h⟩,ae _,rfl⟩;rcases hk with ⟨o,h⟩|h
   ·exact .inl ⟨o,by simp_all⟩
   ·exact .inr h
  have hok:({c with hp:=lC c.hp}:Cx).Ok W0:=by
   refine⟨hr.ok.bel,fun id o h=> ?_,fun i j o p b h1 h2=>hr.ok.inj i j o p b (by simp_all) (by simp_all),hr.ok.mks,fun b hb=>(hle.out b (hr.ok.bar b hb)).1,hr.ok.phi⟩;exact(hr.ok.obj id o (by rw[<-hg];exact h)).le hle rfl fun b _=>rfl
  exact⟨{c with hp:=lC c.hp},⟨by show lC c.hp=lC st.hp;rw[hr.hp],hr.nxt,hok,bF.le hle _ _ hr.fr,Cc.le hle _ _ hr.stk,hr.df,hr.rd⟩,hle.mono,rfl⟩
theorem iO.wf {c:Cx} {st:St} {a:Act} (hr:iO W0 b0 rd c st a ats):WfH st.hp:=fun id f fr ps iY bd k n p h=>by
 rw[<-hr.hp]at h;exact(hr.ok.obj id _ h).1 k rfl
def WfO:dD->Prop
 |.lp f _ _ iY bd (some k) _ _=>qJ f k=some (iY,bd)
 |_=>True
theorem MJ: ∀(h:gz),rW h=true->WfH h-> ∀e∈h,WfO e.2
 |[],_,_,e,he=>by simp at he
 |(k,o)::h,hn,hw,e,he=>by
  simp only[rW,af,aW]at hn;rcases List.mem_cons.1 he with rfl|he
  ·cases o with
   |lp f fr ps iY bd ky n p=>
    cases ky with
    |none=>trivial
    |some q=>exact hw k f fr ps iY bd q n p (by simp[dV])
   |_=>trivial
  ·refine MJ h hn.2 (fun id f fr ps iY bd q n p hg=>hw id f fr ps iY bd q n p ?_) e he;rw[dV];by_cases hk:k=id
   ·subst hk;have:=wG _ _ _ hg;have hany:=hn.1;rw[List.any_eq_false]at hany;exact absurd (by simp:Nat.beq k k=true) (hany _ this)
   simp_all
theorem asL {a b:Ex} (h:ayA a b=true):a=b:=by
 cases a<;>cases b<;>simp only[ayA,ah]at h<;>first|rfl|rw[kw h]
theorem anO {a b:Option Ex} (h:anN a b=true):a=b:=by
 cases a<;>cases b<;>simp only[anN,ah]at h
 ·rfl
 ·rw[asL h]
theorem ar1 {old:gz} {i:Nat} {a b x:dD} (hw:WfH old) (hb:WfO b) (he:eqO a b=true) (h:SI old i a=some x):x=b:=by
 cases a with
 |box t l=>
  cases b<;>simp only[eqO,ah,af]at he;cases h;rw[kw he.1,qo _ _ he.2]
 |arr t v y=>
  cases b<;>simp only[eqO,ah,af]at he;cases h
  grind [lT,KH,kw]
 |dead=>
  cases b<;>simp only[eqO,ah]at he;cases h;rfl
 |mp k v l=>
  cases b<;>simp only[eqO,ah,af,decide_eq_true_eq]at he;obtain⟨rfl,rfl,rfl⟩:=he;cases h;rfl
 |lp f fr ps iY bd ky n p=>
  cases b<;>simp only[eqO,ah,af]at he
  rename_i g fs qs asg' bd' kz m q
  obtain⟨h1,h2,h3,h4,h5,h6⟩:=he;split at h4
  ·rename_i k k'
   have e1:=kw h1;have e4:=kw h4;subst e1 e4;simp only[SI]at h;split at h
   ·rename_i hg
    replace h:=di h;obtain⟨h7,h⟩:=h;simp only[af]at h7
    rename_i g2 _ _ asg2 bd2 k2 _ _
    have e5:=kw h7.1;have e6:=kw h7.2;subst e5 e6;have w1:=hw _ _ _ _ _ _ _ _ _ hg
    grind [WfO,qo,zF,kw,anO]
   ·cases h
  ·cases h4
theorem SG {old:gz} (hw:WfH old): ∀(a b x:gz),(∀e∈b,WfO e.2)->eqH a b=true->SE old a=some x->x=b
 |[],b,x,_,he,h=>by
  cases b with
  |nil=>cases h;rfl
  |cons _ _=>simp[eqH]at he
 |(i,o)::a,b,x,hb,he,h=>by
  cases b with
  |nil=>simp[eqH]at he
  |cons e b=>
   obtain⟨j,o'⟩:=e;simp only[eqH,af]at he;simp only[SE]at h;split at h
   ·rename_i y hy
    split at h
    ·rename_i z hz
     cases h;rw[ar1 hw (hb _ aG) he.2.1 hy,SG hw a b z (fun e he=>hb e (aj _ he)) he.2.2 hz,kw he.1]
    ·cases h
   ·cases h
theorem ak0 {old:gz} {a b m:St} (h:settle old a=some m) (hw:WfH old) (h2:anP a b=true) (hn:rW b.hp=true) (hb:WfH b.hp):m=b:=by
 unfold settle at h;split at h
 ·rename_i hp hh
  cases h;unfold anP at h2;simp only[af]at h2;obtain⟨e1,e2,e3,e4⟩:=h2;have e5:=SG hw _ _ _ (MJ _ hn hb) e3 hh;obtain⟨f1,s1,p1,n1⟩:=a;obtain⟨f2,s2,p2,n2⟩:=b
  grind [qo,zF,kw]
 ·cases h
theorem afz {old:gz} {i:Nat} {a x:dD} (hw:WfH old) (ha:WfO a) (h:SI old i a=some x):x=a:=by
 cases a with
 |lp f fr ps iY bd ky n p=>
  cases ky with
  |none=>simp[SI]at h
  |some k=>
   simp only[SI]at h;split at h
   ·rename_i hg
    replace h:=di h;obtain⟨h7,h⟩:=h;simp only[af]at h7;have e5:=kw h7.1;have e6:=kw h7.2;subst e5 e6;have w1:=hw _ _ _ _ _ _ _ _ _ hg;simp_all [WfO]
   ·cases h
 |_=>simp_all [SI]
theorem SH {old:gz} (hw:WfH old): ∀(a x:gz),(∀e∈a,WfO e.2)->SE old a=some x->x=a
 |[],x,_,h=>by cases h;rfl
 |(i,o)::a,x,ha,h=>by
  simp only[SE]at h;split at h
  ·rename_i y hy
   split at h
   ·rename_i z hz
    cases h;rw[afz hw (ha _ aG) hy,SH hw a z (fun e he=>ha e (aj _ he)) hz]
   ·cases h
  ·cases h
theorem acy {old:gz} {a m:St} (h:settle old a=some m) (hw:WfH old) (hn:rW a.hp=true) (ha:WfH a.hp):m=a:=by
 unfold settle at h;split at h
 ·rename_i hp hh
  cases h;rw[SH hw _ _ (MJ _ hn ha) hh]
 ·cases h
theorem abP {old:gz} {L:List (Option St)} {m:St} (h:QN old L=some m) (hw:WfH old): ∀x∈L,∃b,x=some b/\(WfH b.hp->m=b):=by
 unfold QN at h;split at h
 ·rename_i a l
  replace h:=di h;obtain⟨h1,h⟩:=h;split at h
  ·rename_i hp hh
   cases h;intro x hx;have h2:=List.all_eq_true.1 h1 x hx;cases x with
   |none=>simp at h2
   |some b=>
    simp only[af]at h2;refine⟨b,rfl,fun hb=> ?_⟩;obtain⟨h2,hn⟩:=h2;unfold anP at h2;simp only[af]at h2;obtain⟨e1,e2,e3,e4⟩:=h2;have e5:=SG hw _ _ _ (MJ _ hn hb) e3 hh;obtain⟨f1,s1,p1,n1⟩:=a;obtain⟨f2,s2,p2,n2⟩:=b
    grind [qo,zF,kw]
  ·cases h
 ·cases h
def ZW (ops:Array Oper) (lA:Array Bool):Nat:=((List.range ops.size).filter fun i=> !lA.getD i true).length
theorem filter_lt {α:Type} {p q:α->Bool}: ∀(l:List α),(∀x∈l,q x=true->p x=true)->(∃x∈l,p x=true/\q x=false)->(l.filter q).length<(l.filter p).length
 |[],_,h=>by simp_all
 |y::l,h,hx=>by
  have hle:(l.filter q).length<=(l.filter p).length:=by
   clear hx
   induction l with
   |nil=>simp
   |cons z l ih=>
    grind
  obtain⟨x,hx,h1,h2⟩:=hx;simp only[List.filter_cons];rcases List.mem_cons.1 hx with e|hx
  ·grind
  ·have ih:=filter_lt l (fun x hx=>h x (aj _ hx)) ⟨x,hx,h1,h2⟩
   grind
theorem IR {lA:Array Bool} {j:Nat} (hs:lA.size=ops.size) (hj:j∈Region.ready .any ops lA):ZW ops (lA.setIfInBounds j true)<ZW ops lA:=by
 obtain⟨h1,oj,h2,_⟩:=mem_ready.1 hj;have hlt:j<ops.size:=(Array.getElem?_eq_some_iff.1 h2).1;refine filter_lt _ (fun x hx h=> ?_) ⟨j,List.mem_range.2 hlt,by rw[h1];rfl, ?_⟩
 ·by_cases e:j=x
  all_goals simp_all
 simp
theorem aiB {lA:Array Bool} (h:ZW ops lA=0):Region.ready .any ops lA=[]:=by
 simp_all [ZW,Region.ready]
theorem iE.oldest {lA:Array Bool} {log:List Nat}: ∀{l:List Nat},iE ops lA log l->l≠[]-> ∃k∈l,k∈Region.ready .any ops lA
 |[],_,h=>absurd rfl h
 |[k],h,_=>by
  obtain⟨_,h2,_,_,ok,h5,_,_,_,h9,_⟩:=h;simp_all [mem_ready]
 |k::m::l,h,_=>by
  obtain⟨x,hx,hr⟩:=iE.oldest h.1 (by simp);exact⟨x,aj _ hx,hr⟩
structure Lag (n:Nat) (sg:FuncId->Option Sum) (cl:Bool) (P:Program) (W0:World) (b0:Nat) (rd:Option Nat) (ats:List (Array Value)) (ops:Array Oper) (c:Cx) (st:St) (lE:Array Bool) (log:List Nat) (a:Act) (lA:Array Bool) (l:List (Nat×Value)):Prop where
 rel:iO W0 b0 rd c st (fP ops a l) ats
 pst:iE ops lA log (l.map (·.1))
 run:kD rd n P ops c a l
 sA:lA.size=ops.size
 sE:lE.size=ops.size
 sub: ∀j,lA.getD j false=true->lE.getD j false=true
 cov: ∀j,lE.getD j false=true->lA.getD j false=true\/j∈l.map (·.1)
 hE: ∀k∈l.map (·.1),lE.getD k false=true
 fit:Ky sg cl ops st.fr (l.map (·.1))
theorem WU {l:Array Bool} {j:Nat} (h:j<l.size):l.getD j true=l.getD j false:=by simp[h]
theorem Lag.ready {lE:Array Bool} {log:List Nat} {lA:Array Bool} {l:List (Nat×Value)} (h:Lag n sg cl P W0 b0 rd ats ops c st lE log a lA l) {j:Nat} (hj:j∈Region.ready .any ops lA) (hjl:j∉l.map (·.1)):j∈Region.ready .any ops lE:=by
 obtain⟨h1,oj,h2,h3⟩:=mem_ready.1 hj;have hlt:j<ops.size:=(Array.getElem?_eq_some_iff.1 h2).1;refine mem_ready.2 ⟨?_,oj,h2,fun e he hb=>h.sub _ (h3 e he hb)⟩;cases hg:lE.getD j true with
 |false=>rfl
 |true=>
  rw[WU (by rw[h.sE];exact hlt)]at hg;rcases h.cov j hg with h4|h4
  all_goals grind
theorem Ol (hd:mi ops=true) {lE:Array Bool} {log:List Nat} {Q:Act->World->Prop}
  (hfin:Region.ready .any ops lE=[]-> ∀w,FZ c w-> ∀a,iO W0 b0 rd (c.at_ w) st a ats->Q a w)
  (hstep: ∀(w:World),FZ c w-> ∀(fA:Nat) (a:Act) (lA:Array Bool) (l:List (Nat×Value)) (j:Nat),Lag n sg cl P W0 b0 rd ats ops (c.at_ w) st lE log a lA l->ZW ops lA<=fA+1->j∈Region.ready .any ops lA->j∉l.map (·.1)->j∈Region.ready .any ops lE->
   wpOpIn (FW rd) n P ops (fun e a w=>e=.normal/\Q a w) j (wpAnyIn (FW rd) n P .any ops (fun e a w=>e=.normal/\Q a w) fA (lA.setIfInBounds j true)) a w):
  ∀(m fA:Nat) (w:World),FZ c w-> ∀(a:Act) (lA:Array Bool) (l:List (Nat×Value)),l.length=m->Lag n sg cl P W0 b0 rd ats ops (c.at_ w) st lE log a lA l->ZW ops lA<=fA->
   wpAnyIn (FW rd) n P .any ops (fun e a w=>e=.normal/\Q a w) fA lA a w:=by
 have done: ∀(w:World),FZ c w-> ∀(a:Act) (lA:Array Bool) (l:List (Nat×Value)),Lag n sg cl P W0 b0 rd ats ops (c.at_ w) st lE log a lA l->Region.ready .any ops lA=[]->Q a w:=fun w hw a lA l h hr=>by
  have hl:l=[]:=by
   cases l with
   |nil=>rfl
   |cons x l=>
    obtain⟨k,_,hk⟩:=iE.oldest h.pst (by simp);simp_all
  subst hl;refine hfin ?_ w hw a h.rel;cases hrE:Region.ready .any ops lE with
  |nil=>rfl
  |cons j rs=>
   obtain⟨h1,oj,h2,h3⟩:=mem_ready.1 (show j∈Region.ready .any ops lE by rw[hrE];simp);have hlt:j<ops.size:=(Array.getElem?_eq_some_iff.1 h2).1;have:j∈Region.ready .any ops lA:=mem_ready.2 ⟨by
    cases hg:lA.getD j true with
    |false=>rfl
    |true=>
     rw[WU (by rw[h.sA];exact hlt)]at hg;exact(KR (h.sub j hg) h1).elim,oj,h2,fun e he hb=>(h.cov _ (h3 e he hb)).resolve_right (by simp)⟩
   simp_all
 intro m
 induction m using Nat.strongRecOn with
 |ind m ih=>
  intro fA w hw a lA l hm h hc;cases fA with
  |zero=>
   have hr:=aiB (ops:=ops) (lA:=lA) (by omega);exact⟨hr,rfl,done w hw a lA l h hr⟩
  |succ fA=>
   refine⟨fun hr=>⟨rfl,done w hw a lA l h hr⟩,fun j hj=> ?_⟩;by_cases hjl:j∈l.map (·.1)
   ·obtain⟨hun,oj,hoj,hdeps⟩:=mem_ready.1 hj;obtain⟨v,l',g1,g2,g3,g4⟩:=Vk hd hoj hj h.pst h.run hjl;have hlt:j<ops.size:=(Array.getElem?_eq_some_iff.1 hoj).1;have hguard:oj.guard=none:=by
     have: ∀(l:List Nat),iE ops lA log l->j∈l->oj.guard=none:=fun l=>by
      induction l with
      |nil=>intro _ h;cases h
      |cons k l ih=>
       intro hp hm;rcases List.mem_cons.1 hm with e|hm
       ·subst e;obtain⟨_,_,_,_,ok,h5,_,h7,_⟩:=hp;simp_all
       ·exact ih hp.1 hm
     exact this _ h.pst hjl
    have hlen:l'.length<m:=by
     grind [aK]
    refine g1.wpOp (c:=c.at_ w) hd hoj hguard fun w' hw'=> ?_;have hw2:FZ c w':=Below.trans hw (hw'.mono hw.size);refine ih l'.length hlen fA w' hw2 _ _ l' rfl ⟨by rw[g4];exact h.rel.ext hw',by rw[g2];exact iE.take (by rw[h.sA];exact hlt) h.pst hjl,kD.ext hw' g3,by simpa using h.sA,h.sE,fun k hk=> ?_,fun k hk=> ?_,fun k hk=>h.hE k (by grind),fun k hk=>h.fit k (by grind)⟩ (by have:=IR h.sA hj;omega)
    ·by_cases e:j=k
     ·subst e;exact h.hE j hjl
     ·rw[getD_set_ne false e]at hk;exact h.sub k hk
    ·rcases h.cov k hk with h1|h1
     ·exact .inl (getD_set_true h1)
     grind [wU]
   ·exact hstep w hw fA a lA l j h hc hj hjl (h.ready hj hjl)
theorem aj6 {fr:List bG} {d:Nat} {z:bG} {x:Operand} (h:x≠ .tmp d):gK (fr.set d z) x=gK fr x:=by
 cases x with
 |tmp t=>
  grind [gK]
 |_=>rfl
theorem AC {o:Oper} {dst:Option Nat} {z:bG} (h: ∀d,dst=some d->d∉o.looksAt ops):jr o (st.put dst z).fr=jr o st.fr:=by
 cases dst with
 |none=>rfl
 |some d=>
  have hx: ∀x∈o.op.operands,x≠ .tmp d:=fun x hx e=>h d rfl (by
   subst e;exact List.mem_append_left _ (List.mem_filterMap.2 ⟨.tmp d,by simpa using hx,rfl⟩))
  grind [jr,St.put,aj6,Op.operands,Call.operands,List.map_congr_left]
theorem afk {o:Oper} {dst:Option Nat} {z:bG} (h: ∀d,dst=some d->o.dst≠some d):zk o.dst (st.put dst z).fr=zk o.dst st.fr:=by
 cases dst with
 |none=>rfl
 |some d=>
  cases ho:o.dst with
  |none=>rfl
  |some e=>
   have hne:d≠e:=fun x=>h d rfl (by rw[ho,x]);simp_all [zk,St.put]
theorem U9: ∀(rs:List (Ty×Bool)) y,(rs.all fun r=> !r.2&&r.1.rigid)=true->xR rs y=none/\news rs=0/\(rs.all fun r=>r.1.rigid||(r.2&&r.1.elem.rigid))=true
 |[],_,_=>⟨rfl,rfl,rfl⟩
 |(t,true)::rs,y,h=>by simp at h
 |(t,false)::rs,y,h=>by
  simp only[List.all_cons,aA,aI,af]at h;obtain⟨h1,h2,h3⟩:=U9 rs y.2 h.2;simp_all [xR,news]
theorem Ug {hp hp':gz}: ∀(ps:List Ty) (args:List bG),args.all bG.calm=true->zu hp ps args=zu hp' ps args
 |[],[],_=>rfl
 |[],_::_,_=>rfl
 |_::_,[],_=>rfl
 |t::ps,v::args,h=>by
  simp only[List.all_cons,af]at h;have e:v.as hp t=v.as hp' t:=by cases v<;>simp only[bG.calm,ah]at h<;>first|rfl|simp_all
  have ih:=Ug (hp:=hp) (hp':=hp') ps args h.2;simp only[zu,e,ih]
theorem afh {R:Type} {r:R} {i:Nat} {oi:Oper} {X:bG->St->Option R} (hi:WZ sg ops st.fr i=true) (hoi:ops[i]? =some oi) (hself: ∀d,oi.dst=some d->d∉oi.looksAt ops)
  (h:dW T cl (Gh sg cl) oi st X=some r): ∃z,X z st=some r/\jE oi.op=true/\sQ sg cl oi (st.put oi.dst z).fr z:=by
 unfold WZ at hi;rw[hoi]at hi;simp only at hi;split at hi
 ·rename_i g args hca
  split at hi
  ·rename_i s hs
   simp only[af]at hi;obtain⟨⟨h1,h2⟩,h3⟩:=hi;obtain⟨odst,op,ty,pos,after,guard⟩:=oi;cases op with
   |call c=>
    obtain⟨callee,as',ts⟩:=c;cases callee with
    |value v=>
     have hca0:=hca;simp only[jr,List.cons.injEq]at hca;simp only[dW]at h;rw[hca.1,hca.2]at h;have key: ∀{R:Type} (dst:Option Nat) (st':St) (K:bG->St->Option R),Gh sg cl (.fn g []) args dst st' K=match zu [] s.ps args with
       |some x=>bz (s.f x) fun y=>K (LQ (oI 0 s.rs y)) st'
       |none=>none:=fun {R} dst st' K=>by
      simp only[Gh,hs,h1,h2,Bool.and_self,cond_true,Sum.call];have hall:=h1;unfold JW at hall;rw[Ug (hp:=st'.hp) (hp':=[]) _ _ h2];cases zu [] s.ps args with
      |none=>simp
      |some x=>
       simp only;cases hf:s.f x with
       |none=>simp[bz]
       |some y=>
        obtain⟨n1,n2,n3⟩:=U9 s.rs y hall;simp[bz,n1,n2,n3]
     rw[key]at h;split at h
     ·rename_i x hx
      cases hf:s.f x with
      |none=>rw[hf]at h;cases h
      |some y=>
       rw[hf]at h;refine⟨_,h,rfl,rfl,⟨_,v,rfl,rfl⟩,Rj _ (Iz 0 s.rs y h1),fun d hd=> ?_,.fn g [],args, ?_,fun dst st' K=> ?_⟩
       ·simp_all [NZ,St.put]
       ·rw[AC (ops:=ops) hself];exact hca0
       simp_all [bz]
     ·cases h
    |_=>simp[jr]at hca
   |_=>simp[jr]at hca
  ·cases hi
 ·cases hi
theorem vK (hT:TOk P T) (hd:mi ops=true) (hsq: ∀R:Type,mV (R:=R) P (Gh sg cl)) {callS:fV St} (hS:lW P W0 n callS) {callU:fV Unit} (hU:lW P W0 n callU) (hxS:xm sg callS) (hxU:xm sg callU): ∀(nE:Nat) {R:Type} {r:R} {call:fV R} (hcall:lW P W0 n call) (hx:xm sg call) {K:St->Option R} {Q:Act->World->Prop}
  (lE:Array Bool) (log:List Nat) (c:Cx) (st:St),lY T cl sg callS callU ops nE call lE log st K=some r->
  (∀c' st' a',K st'=some r->iO W0 b0 rd c' st' a' ats->c.Mono c'->Q a' c'.w)-> ∀(fA:Nat) (a:Act) (lA:Array Bool) (l:List (Nat×Value)),Lag n sg cl P W0 b0 rd ats ops c st lE log a lA l->ZW ops lA<=fA->
   wpAnyIn (FW rd) n P .any ops (fun e a w=>e=.normal/\Q a w) fA lA a c.w
 |0,R,r,call,hcall,hx,K,Q,lE,log,c,st,h,hQ,fA,a,lA,l,hl,hc=>by simp[lY]at h
 |nE+1,R,r,call,hcall,hx,K,Q,lE,log,c,st,h,hQ,fA,a,lA,l,hl,hc=>by
  have after: ∀(w:World) (a':Act) (lA:Array Bool) (l l':List (Nat×Value)) (j:Nat) (c':Cx) (st':St) (a:Act),Lag n sg cl P W0 b0 rd ats ops (c.at_ w) st lE log a lA l->j∈Region.ready .any ops lA->j∉l.map (·.1)->l'.map (·.1)=l.map (·.1)->
    iO W0 b0 rd c' st' (fP ops a' l') ats->kD rd n P ops c' a' l'->Ky sg cl ops st'.fr (l.map (·.1))->Lag n sg cl P W0 b0 rd ats ops c' st' (lE.setIfInBounds j true) log a' (lA.setIfInBounds j true) l':=fun w a' lA l l' j c' st' a hl hj hjl e1 e2 e3 e4=>by
   obtain⟨_,oj,hoj,_⟩:=mem_ready.1 hj;have hlt:j<ops.size:=(Array.getElem?_eq_some_iff.1 hoj).1;refine⟨e2,by rw[e1];exact iE.set hl.pst hjl,e3,by simpa using hl.sA,by simpa using hl.sE,fun k hk=> ?_,fun k hk=> ?_,fun k hk=>getD_set_true (hl.hE k (by simp_all)),by rw[e1];exact e4⟩
   ·by_cases e:j=k
    ·subst e;exact wU (by rw[hl.sE];exact hlt)
    ·rw[getD_set_ne false e]at hk ⊢;exact hl.sub k hk
   ·by_cases e:j=k
    ·grind [wU]
    ·rw[getD_set_ne false e]at hk ⊢;rw[e1];exact hl.cov k hk
  have adv: ∀(i:Nat) (oi:Oper) (z:bG) (u:Value),i∈Region.ready .any ops lE->ops[i]? =some oi->jE oi.op=true->oi.guard=none->Ls ops log i=true->
    lY T cl sg callS callU ops nE call (lE.setIfInBounds i true) (i::log) (st.put oi.dst z) K=some r->bJ c z u->GX rd n P c (fP ops a l) oi u->
    (iq oi.op=false-> ∃z,sQ sg cl oi (st.put oi.dst z).fr z/\True)->(iq oi.op=false->sQ sg cl oi (st.put oi.dst z).fr z)->
    wpAnyIn (FW rd) n P .any ops (fun e a w=>e=.normal/\Q a w) fA lA a c.w:=fun i oi z u hi2 hoi hq hguard hlate g1 g2 g3 _ g4=>by
   obtain⟨hun,oi',hoi',hdeps⟩:=mem_ready.1 hi2;rw[hoi]at hoi';cases hoi';have hlt:i<ops.size:=(Array.getElem?_eq_some_iff.1 hoi).1;have hil:i∉l.map (·.1):=fun hm=>KR (hl.hE i hm) hun;have hunA:lA.getD i true=false:=by
    cases hga:lA.getD i true with
    |false=>rfl
    |true=>
     rw[WU (by rw[hl.sA];exact hlt)]at hga;exact(KR (hl.sub i hga) hun).elim
   have hpair:=hlate;unfold Ls at hpair;rw[hoi]at hpair;simp only[af]at hpair;obtain⟨hself,hpair⟩:=hpair;have hpr: ∀m∈l.map (·.1),∃om,ops[m]? =some om/\alU ops om oi/\(sK ops i m=false->om.apart ops oi=true):=fun m hm=>by
    have h3:=List.all_eq_true.1 hpair m (iE.log hl.pst m hm);split at h3
    ·rename_i om hom
     simp only[af,Bool.or_eq_true]at h3
     grind [KP]
    ·cases h3
   refine vK hT hd hsq hS hU hxS hxU nE hcall hx (Q:=Q) (lE.setIfInBounds i true) (i::log) c (st.put oi.dst z) g1 hQ fA a lA ((i,u)::l) ⟨?_, ?_,⟨hl.run,oi,hoi,g3⟩,hl.sA,by simpa using hl.sE,fun k hk=> ?_,fun k hk=> ?_,fun k hk=> ?_,fun k hk ok hok hnq=> ?_⟩ hc
   ·have:=hl.rel.put (dst:=oi.dst) g2;simp_all [fP,tq]
   ·exact⟨iE.mono (fun k hk=>aj _ hk) hl.pst,hunA,aG,hil,oi,hoi,hq,hguard,fun d hd'=>(KP hself d hd').1,fun e he hb=>hl.cov _ (hdeps e he hb),hpr⟩
   ·by_cases e:i=k
    ·grind
    ·rw[getD_set_ne false e];exact hl.sub k hk
   ·by_cases e:i=k
    ·simp_all
    ·rw[getD_set_ne false e]at hk;exact(hl.cov k hk).imp (fun h=>h) fun h=>aj _ h
   ·rcases List.mem_cons.1 hk with e|hk
    ·grind [wU]
    ·exact getD_set_true (hl.hE k hk)
   ·rcases List.mem_cons.1 hk with e|hk
    ·grind
    ·obtain⟨z',hz'⟩:=hl.fit k hk ok hok hnq;obtain⟨om,h1,h2,_⟩:=hpr k hk;rw[hok]at h1;cases h1;exact⟨z',hz'.same (AC (ops:=ops) fun d hd'=>(h2 d hd').1).symm (afk fun d hd'=>(h2 d hd').2).symm⟩
  simp only[lY]at h;split at h
  ·rename_i hrd
   exact Ol (n:=n) (sg:=sg) (cl:=cl) hd (fun _ w hw a hr=>hQ (c.at_ w) st a h hr (Cx.Le.ext hw).mono) (fun w hw fA a lA l j _ _ _ _ hj=>by simp_all) _ fA c.w (Below.refl _ _) a lA l rfl hl hc
  ·rename_i k rs hrd
   split at h
   ·rename_i i hf
    have hi1:=List.find?_some hf;simp only[af]at hi1;replace hi1:=hi1.1;have hi2:=List.mem_of_find?_eq_some hf;rw[<-hrd]at hi2;split at h
    ·rename_i oi hoi
     replace h:=di h;obtain⟨hg,h⟩:=h;simp only[af]at hg;obtain⟨hg,hlate⟩:=hg;have hq:iq oi.op=true:=by
      grind [Vb]
     obtain⟨z,u,g1,g2,g3⟩:=zY hT hl.rel.ok hq hl.rel.hp hl.rel.fr h;exact adv i oi z u hi2 hoi (akU hq) (by simpa using hg) hlate g1 g2 (.of_run g3) (fun h0=>by simp_all) (fun h0=>by simp_all)
    ·cases h
   ·split at h
    ·rename_i i hf
     have hi1:=List.find?_some hf;have hi2:=List.mem_of_find?_eq_some hf;rw[<-hrd]at hi2;split at h
     ·rename_i oi hoi
      replace h:=di h;obtain⟨hg,h⟩:=h;simp only[af]at hg;obtain⟨hg,hlate⟩:=hg;have hself: ∀d,oi.dst=some d->d∉oi.looksAt ops:=by
       have hpair:=hlate;unfold Ls at hpair;rw[hoi]at hpair;simp only[af]at hpair;exact fun d hd'=>(KP hpair.1 d hd').1
      obtain⟨z,g1,g2,g3⟩:=afh hi1 hoi hself h;obtain⟨g4,g5⟩:=O5 (n:=n) hT (hsq Unit) g3 (AC (ops:=ops) hself) hl.rel;exact adv i oi z _ hi2 hoi g2 (by simpa using hg) hlate g1 g4 g5 (fun _=>⟨z,g3,trivial⟩) (fun _=>g3)
     ·cases h
    ·split at h
     ·refine Ol (n:=n) (sg:=sg) (cl:=cl) hd (fun hr=>by simp_all) (fun w hw fA a lA l j hl hc hj hjl hjE=> ?_) _ fA c.w (Below.refl _ _) a lA l rfl hl hc;rw[hrd]at hjE;obtain rfl:j=k:=by simpa using hjE
      refine E5 (c:=c.at_ w) hT hd (hsq Unit) hcall hl.fit hj hl.pst hjl hl.rel h fun c' st' a' l' k1 e1 k2 k3 k5 k4=> ?_;exact vK hT hd hsq hS hU hxS hxU nE hcall hx (Q:=Q) _ log c' st' k1 (fun c'' st'' a'' q1 q2 q3=>hQ c'' st'' a'' q1 q2 ((Cx.Le.ext hw).mono.trans (k4.trans q3))) fA a' _ l' (after w a' lA l l' j c' st' a hl hj hjl e1 k2 k3 k5) (by have:=IR hl.sA hj;omega)
     ·rw[cond_eq_ite]at h;split at h
      rotate_left
      ·rename_i hcp
       simp only[Bool.or_eq_true,aW,not_or,Bool.not_eq_true,Bool.not_eq_false]at hcp;have hp: ∀o∈ops.toList,ve sg o.op=true:=fun o ho=>List.all_eq_true.1 hcp.2 o ho;refine Ol (n:=n) (sg:=sg) (cl:=cl) hd (fun hr=>by simp_all) (fun w hw fA a lA l j hl hc hj hjl hjE=> ?_) _ fA c.w (Below.refl _ _) a lA l rfl hl hc;rw[hrd]at hjE;rcases List.mem_cons.1 hjE with rfl|hjR
       ·refine E5 (c:=c.at_ w) hT hd (hsq Unit) hcall hl.fit hj hl.pst hjl hl.rel h fun c' st' a' l' k1 e1 k2 k3 k5 k4=> ?_;exact vK hT hd hsq hS hU hxS hxU nE hcall hx (Q:=Q) _ log c' st' k1 (fun c'' st'' a'' q1 q2 q3=>by
         replace q1:=di q1;obtain⟨q0,q1⟩:=q1;obtain⟨c3,r3,m3,w3⟩:=q2.tidy cl;split at q1
         ·rename_i m hm
          replace q1:=(yx _ q1).1;have:=acy hm hl.rel.wf q0 r3.wf;subst this;rw[<-w3];exact hQ c3 _ a'' q1 r3 ((Cx.Le.ext hw).mono.trans (k4.trans (q3.trans m3)))
         ·cases q1) fA a' _ l' (after w a' lA l l' j c' st' a hl hj hjl e1 k2 k3 k5) (by have:=IR hl.sA hj;omega)
       ·obtain⟨_,h1⟩:=WF hx hp h;obtain⟨st1,h1⟩:=PY hp hxS hxU nE hx _ _ _ _ h1;replace h1:=(di h1).2;split at h1
        ·rename_i m hm
         obtain⟨hK,hua⟩:=yx _ h1;have hju:=hua _ (List.mem_map.2 ⟨j,hjR,rfl⟩);refine E5 (c:=c.at_ w) hT hd (hsq Unit) hU hl.fit hj hl.pst hjl hl.rel hju fun c' st' a' l' k1 e1 k2 k3 k5 k4=> ?_;exact vK hT hd hsq hS hU hxS hxU nE hU hxU (Q:=Q) _ log c' st' k1 (fun c'' st'' a'' q1 q2 q3=>by
          replace q1:=(di q1).1;simp only[af]at q1;obtain⟨c3,r3,m3,w3⟩:=q2.tidy cl;have:=ak0 hm hl.rel.wf q1.1 q1.2 r3.wf;subst this;rw[<-w3];exact hQ c3 _ a'' hK r3 ((Cx.Le.ext hw).mono.trans (k4.trans (q3.trans m3)))) fA a' _ l' (after w a' lA l l' j c' st' a hl hj hjl e1 k2 k3 k5) (by have:=IR hl.sA hj;omega)
        ·cases h1
      split at h
      ·rename_i stm hmg
       refine Ol (n:=n) (sg:=sg) (cl:=cl) hd (fun hr=>by simp_all) (fun w hw fA a lA l j hl hc hj hjl hjE=> ?_) _ fA c.w (Below.refl _ _) a lA l rfl hl hc;rw[hrd]at hjE;obtain⟨b,hb1,hb2⟩:=abP hmg hl.rel.wf _ (List.mem_map.2 ⟨j,hjE,rfl⟩);refine E5 (c:=c.at_ w) hT hd (hsq Unit) hS hl.fit hj hl.pst hjl hl.rel hb1 fun c' st' a' l' k1 e1 k2 k3 k5 k4=> ?_;exact vK hT hd hsq hS hU hxS hxU nE hS hxS (Q:=Q) _ log c' st' k1 (fun c'' st'' a'' q1 q2 q3=>by
        cases q1;obtain⟨c3,r3,m3,w3⟩:=q2.tidy cl;have:=hb2 r3.wf;subst this;rw[<-w3];exact hQ c3 _ a'' h r3 ((Cx.Le.ext hw).mono.trans (k4.trans (q3.trans m3)))) fA a' _ l' (after w a' lA l l' j c' st' a hl hj hjl e1 k2 k3 k5) (by have:=IR hl.sA hj;omega)
      ·cases h
theorem aei (hT:TOk P T) (hm:P.follows .mixedOrders=true) (hd:mi ops=true) (hsq: ∀R:Type,mV (R:=R) P (Gh sg cl)) {callS:fV St} (hS:lW P W0 n callS) {callU:fV Unit} (hU:lW P W0 n callU) (hxS:xm sg callS) (hxU:xm sg callU) {R:Type} {r:R} {call:fV R} (hcall:lW P W0 n call) (hx:xm sg call) {id nE:Nat} {K:St->Option R} {Q:Exit->Act->World->Prop}
  (h:lY T cl sg callS callU ops nE call (Array.replicate ops.size false) [] st K=some r) (hr:iO W0 b0 rd c st a ats) (hQ: ∀c' st' a',K st'=some r->iO W0 b0 rd c' st' a' ats->c.Mono c'->Q .normal a' c'.w):
  (Code.region id ops true).wpIn (FW rd) n P Q a c.w:=by
 have hext:FZ c {c.w with drawn:=c.w.drawn+1}:=⟨rfl,rfl,rfl,ae _,fun _ _=>rfl⟩;have hr2:=hr.ext hext;have h2:=vK (Q:=fun a w=>Q .normal a w) hT hd hsq hS hU hxS hxU nE hcall hx _ [] (c.at_ {c.w with drawn:=c.w.drawn+1}) st h (fun c' st' a' k1 k2 k3=>hQ c' st' a' k1 k2 ((Cx.Le.ext hext).mono.trans k3)) ops.size a
  (Array.replicate ops.size false) [] ⟨hr2,trivial,trivial,by simp,by simp,fun j hj=>hj,fun j hj=>.inl hj,(fun k hk=>by cases hk),(fun k hk=>by cases hk)⟩ (by
   grind [ZW])
 exact Code.wpIn_mono (fun e a w he=>by simp_all) (wpIn_region_any hm h2)
end
end
section
open Bool renaming and_eq_true → af
open Nat renaming le_trans → aO
open Go.RowKit
section
variable {P:Program} {T:TT} {W0:World} {b0:Nat} {rd:Option Nat} {R:Type} {r:R} {ats:List (Array Value)}
theorem alS {F:Fence} {n:Nat} {Q:Exit->Act->World->Prop} {a:Act} {w:World} {e:Ex} {cd:Code} (he:e.code=some cd) (h:Q e.xt a w):cd.wpIn F n P Q a w:=by
 cases e<;>simp only[Ex.code,Option.some.injEq,reduceCtorEq]at he<;>subst he
 ·exact wpIn_exit h
 ·exact wpIn_goto h
 ·exact wpIn_ret h
theorem Qo {n:Nat} {F:St->(Ex->St->Option R)->Option R} {K:Ex->St->Option R} {Q:Exit->Act->World->Prop} {code:Code} {kp:Option dM}
  (hF: ∀(K':Ex->St->Option R) (Q':Exit->Act->World->Prop) (c:Cx) (st:St) (a:Act),F st K'=some r->iO W0 b0 rd c st a ats->b0<=c.w.heap.size->(∀e c' st' a',K' e st'=some r->iO W0 b0 rd c' st' a' ats->c.Mono c'->Q' e.xt a' c'.w)->code.wpIn (FW rd) n P Q' a c.w)
  {c:Cx} {st:St} {a:Act} (m:Nat) (h:iter kp F m st K=some r) (hr:iO W0 b0 rd c st a ats) (hb:b0<=c.w.heap.size) (hQ: ∀e c' st' a',K e st'=some r->iO W0 b0 rd c' st' a' ats->c.Mono c'->Q e.xt a' c'.w):
  (Code.loop code).wpIn (FW rd) n P Q a c.w:=by
 refine wpIn_loop_ghost (fun m a w=> ∃c' st',iter kp F m st' K=some r/\iO W0 b0 rd c' st' a ats/\c.Mono c'/\c'.w=w) m ⟨c,st,h,hr,Cx.Mono.refl c,rfl⟩ ?_;rintro m a w ⟨c1,st1,h1,hr1,hm1,rfl⟩;cases m with
 |zero=>simp[iter]at h1
 |succ m=>
  simp only[iter]at h1;refine hF _ _ c1 st1 a h1 hr1 (aO hb hm1.size) fun e c2 st2 a2 h2 hr2 hm2=> ?_;cases e with
  |normal=>
   simp only at h2;simp only[Ex.xt,Exit.then];cases kp with
   |none=>exact⟨m,Nat.lt_succ_self m,c2,st2,h2,hr2,hm1.trans hm2,rfl⟩
   |some k=>
    simp only at h2;split at h2
    ·rename_i st3 h3
     obtain⟨c3,hr3,hm3,hw3⟩:=oZ hr2 h3;exact⟨m,Nat.lt_succ_self m,c3,st3,h2,hr3,(hm1.trans hm2).trans hm3,hw3⟩
    ·cases h2
  |ret=>
   simp only at h2;simp only[Ex.xt,Exit.then];cases kp with
   |none=>exact hQ .ret c2 st2 a2 h2 hr2 (hm1.trans hm2)
   |some k=>
    simp only at h2;split at h2
    ·rename_i st3 h3
     obtain⟨c3,hr3,hm3,hw3⟩:=VQ hr2 h3;rw[<-hw3];exact hQ .ret c3 st3 a2 h2 hr3 ((hm1.trans hm2).trans hm3)
    ·cases h2
  |exit id=>
   simp only at h2;simp only[Ex.xt,Exit.then];cases kp with
   |none=>exact hQ (.exit id) c2 st2 a2 h2 hr2 (hm1.trans hm2)
   |some k=>
    simp only at h2;split at h2
    ·rename_i st3 h3
     obtain⟨c3,hr3,hm3,hw3⟩:=oZ hr2 h3;rw[<-hw3];exact hQ (.exit id) c3 st3 a2 h2 hr3 ((hm1.trans hm2).trans hm3)
    ·cases h2
  |goto l=>
   simp only at h2;simp only[Ex.xt,Exit.then];cases kp with
   |none=>exact hQ (.goto l) c2 st2 a2 h2 hr2 (hm1.trans hm2)
   |some k=>
    simp only at h2;split at h2
    ·rename_i st3 h3
     obtain⟨c3,hr3,hm3,hw3⟩:=oZ hr2 h3;rw[<-hw3];exact hQ (.goto l) c3 st3 a2 h2 hr3 ((hm1.trans hm2).trans hm3)
    ·cases h2
theorem Uy {n:Nat} {F:St->(Ex->St->Option R)->Option R} {K:Ex->St->Option R} {Q:Exit->Act->World->Prop} {code:Code} {kp:Option dM}
  (hF: ∀(K':Ex->St->Option R) (Q':Exit->Act->World->Prop) (c:Cx) (st:St) (a:Act),F st K'=some r->iO W0 b0 rd c st a ats->b0<=c.w.heap.size->(∀e c' st' a',K' e st'=some r->iO W0 b0 rd c' st' a' ats->c.Mono c'->Q' e.xt a' c'.w)->code.wpIn (FW rd) n P Q' a c.w)
  {c:Cx} {st:St} {a:Act} (m:Nat) (h:iter kp (yD F) m st (uq 999999 K)=some r) (hr:iO W0 b0 rd c st a ats) (hb:b0<=c.w.heap.size) (hQ: ∀e c' st' a',K e st'=some r->iO W0 b0 rd c' st' a' ats->c.Mono c'->Q e.xt a' c'.w):
  code.wpIn (FW rd) n P Q a c.w:=by
 cases m with
 |zero=>simp[iter]at h
 |succ m=>
  simp only[iter,yD]at h;refine hF _ _ c st a h hr hb fun e c2 st2 a2 h2 hr2 hm2=> ?_;cases e with
  |normal=>
   simp only at h2;cases kp with
   |none=>
    simp only[uq,beq_self_eq_true,cond_true]at h2
    grind
   |some k=>
    simp only at h2;split at h2
    ·rename_i st3 h3
     obtain⟨c3,hr3,hm3,hw3⟩:=oZ hr2 h3;simp only[uq,beq_self_eq_true,cond_true]at h2;rw[<-hw3];exact hQ .normal c3 st3 a2 h2 hr3 (hm2.trans hm3)
    ·cases h2
  |ret=>
   simp only at h2;cases kp with
   |none=>exact hQ .ret c2 st2 a2 h2 hr2 hm2
   |some k=>
    simp only at h2;split at h2
    ·rename_i st3 h3
     obtain⟨c3,hr3,hm3,hw3⟩:=VQ hr2 h3;rw[<-hw3];exact hQ .ret c3 st3 a2 h2 hr3 (hm2.trans hm3)
    ·cases h2
  |exit id=>
   simp only at h2;rw[cond_eq_ite]at h2;split at h2
   ·cases h2
   ·rename_i hid
    have hne:(id==999999)=false:=by
     simp_all
    cases kp with
    |none=>
     simp only[uq,hne,cond_false]at h2
     grind
    |some k=>
     simp only at h2;split at h2
     ·rename_i st3 h3
      obtain⟨c3,hr3,hm3,hw3⟩:=oZ hr2 h3;simp only[uq,hne,cond_false]at h2;rw[<-hw3];exact hQ (.exit id) c3 st3 a2 h2 hr3 (hm2.trans hm3)
     ·cases h2
  |goto l=>
   simp only at h2;cases kp with
   |none=>exact hQ (.goto l) c2 st2 a2 h2 hr2 hm2
   |some k=>
    simp only at h2;split at h2
    ·rename_i st3 h3
     obtain⟨c3,hr3,hm3,hw3⟩:=oZ hr2 h3;rw[<-hw3];exact hQ (.goto l) c3 st3 a2 h2 hr3 (hm2.trans hm3)
    ·cases h2
theorem zB {n:Nat} {f:FuncId} {args:Array Value} {w:World} {Rr:Ending->World->Prop} (h:Calls P f args w Rr):CallsIn (FW rd) n P f args w Rr:=(callsIn_wide (n:=n)).2 h
theorem acj {n:Nat} {f:FuncId} {cl:Bool} {ex:mP R} (hex:uD P W0 ex) {fv:Operand} {ps:Array Tmp} {iY bd:Code} {K:Ex->St->Option R} {Q:Exit->Act->World->Prop} {c:Cx} {st:St} {a:Act} {g:FuncId} {caps:List bG}
  (hgv:bJ c (.fn g caps) (a.eval fv))
  {ky:Option Nat} (hky: ∀k,ky=some k->qJ f k=some (iY,bd))
  (h:alloc cl (some (700000+ps.toList.headD 0)) (.lp f st.fr ps.toList iY bd ky 0 none) st (fun id st=>
    ex (.call g (.yld id::caps)) {st with stk:=[.yld id]::st.stk} fun _ st=>match st.stk with
     |[.yld id]::stk=>match dH st.hp id with
      |some (.lp _ _ _ _ _ _ 0 none)=>K .normal {st with stk:=stk,hp:=iV st.hp id .dead}
      |some (.lp _ _ _ _ _ _ 1 (some e))=>K e {st with stk:=stk,hp:=iV st.hp id .dead}
      |_=>none
     |_=>none)=some r)
  (hr:iO W0 b0 rd c st a ats) (hb:b0<=c.w.heap.size) (hQ: ∀e c' st' a',K e st'=some r->iO W0 b0 rd c' st' a' ats->c.Mono c'->Q e.xt a' c'.w):
  (Code.rangeFunc fv ps iY bd).wpIn (FW rd) n P Q a c.w:=by
 obtain⟨id,n',h3,h4,h5,h⟩:=iW h;simp only[bJ]at hgv;obtain⟨vs,hgv,hcaps⟩:=hgv;refine wpIn_rangeFunc fun fn _=> ?_;obtain⟨mark,c1,hc1,hr1,hm1,hle01,hen⟩: ∃(mark:List Deferred) (c1:Cx),c1.hp=c.hp/\iO W0 b0 rd c1 st {a with defers:=mark++a.defers} ats/\c.Mono c1/\c.Le0 c1/\
   ∃L:Loop,L.tmps=a.tmps/\L.params=ps/\L.assign=iY/\L.body=bd/\L.state=.ready/\L.pending=none/\(Instr.enterLoop fn a.tmps ps iY bd rd).run P c.w=.ok (c1.w.heap.size,mark) (c1.w.alloc (.loop L)):=by
  cases rd with
  |none=>
   obtain⟨hle,hok⟩:=apw hr.ok;refine⟨[mkD c.w.heap.size],{c with w:=c.w.alloc (.deferred (some [])),mks:=c.w.heap.size::c.mks},rfl,⟨hr.hp,hr.nxt,hok,bF.le hle _ _ hr.fr,Cc.le hle _ _ hr.stk, ?_,fun l hl=>by cases hl⟩,hle.mono,hle.le0,{state:=.ready,pending:=none,fn,tmps:=a.tmps,params:=ps,assign:=iY,body:=bd,defers:=c.w.heap.size},rfl,rfl,rfl,rfl,rfl,rfl, ?_⟩
   ·obtain⟨ds,e1,e2,e3⟩:=hr.df;refine⟨c.w.heap.size::ds,by simp[e1],List.nodup_cons.2 ⟨fun hm=> ?_,e2⟩,fun x hx=> ?_⟩
    ·have:=hr.ok.mark_lt (e3 _ hm).1;omega
    grind
   rfl
  |some l0=>
   obtain⟨L0,hL0⟩:=hr.rd l0 rfl;exact⟨[],c,rfl,hr,Cx.Mono.refl c,(Cx.Le.refl c).le0,{state:=.ready,pending:=none,fn,tmps:=a.tmps,params:=ps,assign:=iY,body:=bd,defers:=L0.defers},rfl,rfl,rfl,rfl,rfl,rfl,run_enterLoop_inner hL0 fn a.tmps ps iY bd⟩
 obtain⟨L,q1,q2,q3,q4,q5,q6,q7⟩:=hen;subst q2 q3 q4;obtain⟨c2,hd,hw2,hy,_⟩:=azU hr1.ok (st:=st) hr1.hp hr1.nxt h3 h4 h5 (f:=f) (fr:=st.fr) (L:=L) (by rw[q1];exact hr1.fr) q5 q6 hky;have hr2:=hr1.did hd;have hm2:c.Mono c2:=hm1.trans hd.le.mono;have hr2':iO W0 b0 rd c2 {st with stk:=[.yld id]::st.stk,hp:=(id,.lp f st.fr L.params.toList L.assign L.body ky 0 none)::st.hp,nxt:=n'} {a with defers:=mark++a.defers} (#[.func (.yield c1.w.heap.size) #[] #[]]::ats):=
  ⟨hr2.hp,hr2.nxt,hr2.ok,hr2.fr,⟨by simpa [bF] using hy,hr2.stk⟩,hr2.df,hr2.rd⟩
 have hcaps2:bF c2 caps vs.toList:=bF.le hd.le _ _ (bF.le0 hle01 _ _ hcaps);have hcall:=hex g (.yld id::caps) _ _ r h b0 rd c2 {a with defers:=mark++a.defers} (#[.func (.yield c1.w.heap.size) #[] #[]]::ats) (#[.func (.yield c1.w.heap.size) #[] #[]]++vs) hr2' (by simp_all [bF])
  (rangePost (FW rd) n P c1.w.heap.size Q {a with defers:=mark++a.defers}) (by
   intro c3 z u st3 hK hr3 _ hm3;have hstk:=hr3.stk;split at hK
   ·rename_i id3 stk3 hs3
    rw[hs3]at hstk;obtain⟨hy3,hstk⟩:=hstk;simp only[bF,and_true]at hy3;have hget3: ∀{o},dH st3.hp id3=some o->dH c3.hp id3=some o:=fun {o} ho=>by rw[hr3.hp];exact ho
    simp only[bJ]at hy3;split at hK
    ·rename_i f3 fr3 ps3 asg3 bd3 ky3 hg3
     obtain⟨_,hB,L3,hL3,hv3,e1,e2,e3,e4,e5⟩:=hr3.ok.obj id3 _ (hget3 hg3);have hblk:=hy3.2.2 _ _ _ _ _ _ _ _ (hget3 hg3);have hblk:c1.w.heap.size=(c3.mu id3).blk:=by simpa using hblk
     obtain⟨c4,p1,p2,p3,p4,p5,p6⟩:=Iq hr3.ok (hget3 hg3) hL3 {L3 with state:=.exhausted,pending:=none} (o':=.dead) (.inl rfl);refine⟨_,_,(by rw[hblk];exact run_endLoop hL3 (by rw[e4];decide)), ?_⟩;rw[e5];simp only;rw[<-p5];refine hQ .normal c4 _ _ hK ⟨by rw[p1,hr3.hp],by rw[p2,hr3.nxt],p4,bF.le p3 _ _ hr3.fr,Cc.le p3 _ _ hstk, ?_, ?_⟩ ((hm2.trans hm3).trans p3.mono)
     ·obtain⟨ds,w1,w2,w3⟩:=hr3.df
      grind
     ·intro l hl;obtain⟨Ll,hLl⟩:=hr3.rd l hl;exact p3.lp l Ll hLl
    ·rename_i f3 fr3 ps3 asg3 bd3 ky3 e0 hg3
     obtain⟨_,hB,L3,hL3,hv3,e1,e2,e3,e4,e5,e6⟩:=hr3.ok.obj id3 _ (hget3 hg3);have hblk:=hy3.2.2 _ _ _ _ _ _ _ _ (hget3 hg3);have hblk:c1.w.heap.size=(c3.mu id3).blk:=by simpa using hblk
     refine⟨_,_,(by rw[hblk];exact run_endLoop hL3 (by rw[e4];decide)), ?_⟩;rw[e5];cases he0:e0.code with
     |none=>exact absurd he0 e6
     |some cd=>
      obtain⟨c4,p1,p2,p3,p4,p5,p6⟩:=Iq hr3.ok (hget3 hg3) hL3 {L3 with state:=.exhausted,pending:=some cd} (o':=.dead) (.inl rfl);simp only;refine alS he0 ?_;rw[<-p5];refine hQ e0 c4 _ _ hK ⟨by rw[p1,hr3.hp],by rw[p2,hr3.nxt],p4,bF.le p3 _ _ hr3.fr,Cc.le p3 _ _ hstk, ?_, ?_⟩ ((hm2.trans hm3).trans p3.mono)
      ·obtain⟨ds,w1,w2,w3⟩:=hr3.df
       grind
      ·intro l hl;obtain⟨Ll,hLl⟩:=hr3.rd l hl;exact p3.lp l Ll hLl
    ·cases hK
   ·cases hK)
 refine⟨c1.w.heap.size,mark,c1.w.alloc (.loop L),{target:=.fn (.func g) vs,args:= #[.func (.yield c1.w.heap.size) #[] #[]]},c1.w.alloc (.loop L),g,#[.func (.yield c1.w.heap.size) #[] #[]]++vs,c1.w.alloc (.loop L),q7, ?_,fun _ _=>trivial, ?_,sO rd, ?_⟩
 ·have hev:a.eval (.const (.func (.yield c1.w.heap.size) #[] #[]))=.func (.yield c1.w.heap.size) #[] #[]:=rfl;simp only[resolve,hgv];simp[go_sem,hev]
 ·simp_all [invoke]
 simp_all [zB]
def VV {R:Type} (E:Env) (ex:mP R) (exd:VW) (f:FuncId) (c:Code) (L:dC):Prop:=
 ∀(r:R) (st:St) (v:L.V) (K:Ex->St->Option R),(∀slots owns st1,Ku slots owns st=some st1->WfH st1.hp)->L.get st=some v->
  (bz (L.spec v) fun o=>dL o (fun a=>K (L.exA v) (L.stA st v a)) fun b=>K (L.exB v) (L.stB st v b))=some r->
  ∃m st1,(match E.kp f (cZ c)with|none=>st1=st|some k=>Ku k.slots k.owns st=some st1)/\iter (E.kp f (cZ c)) (run E ex exd f c) m st1 K=some r
def ac4 {R:Type} (E:Env) (ex:mP R) (exd:VW) (f:FuncId) (c:Code) (L:dC):Prop:=
 ∀(r:R) (st:St) (v:L.V) (K:Ex->St->Option R),(∀slots owns st1,Ku slots owns st=some st1->WfH st1.hp)->L.get st=some v->
  (bz (L.spec v) fun o=>dL o (fun a=>K (L.exA v) (L.stA st v a)) fun b=>K (L.exB v) (L.stB st v b))=some r->
  ∃m st1,(match E.kp f (800000+cZ c)with|none=>st1=st|some k=>Ku k.slots k.owns st=some st1)/\iter (E.kp f (800000+cZ c)) (yD (run E ex exd f c)) m st1 K=some r
def jh {R:Type} (E:Env) (ex:mP R) (exd:VW) (f:FuncId):Code->Prop
 |.seq a b=>(jh E ex exd f a/\ ∀L,E.lp f (800000+cZ b)=some L->L.dep.ble E.dp=true->ac4 E ex exd f b L)/\jh E ex exd f b
 |.cond _ a b=>jh E ex exd f a/\jh E ex exd f b
 |.block _ c=>jh E ex exd f c
 |.scope c=>jh E ex exd f c
 |.loop c=>jh E ex exd f c/\ ∀L,E.lp f (cZ c)=some L->L.dep.ble E.dp=true->VV E ex exd f c L
 |.rangeFunc _ _ iY bd=>jh E ex exd f iY/\jh E ex exd f bd/\(E.rf f (cZ bd)=true->qJ f (cZ bd)=some (iY,bd))
 |_=>True
theorem iH {E:Env} {ex:mP R} {exd:VW} {f:FuncId} (h: ∀id,E.lp f id=none) (h2: ∀id,E.rf f id=false): ∀c:Code,jh E ex exd f c
 |.seq a b=>⟨⟨iH h h2 a,fun L hL=>by simp_all⟩,iH h h2 b⟩
 |.cond _ a b=>⟨iH h h2 a,iH h h2 b⟩
 |.block _ c=>iH (E:=E) h h2 c
 |.scope c=>iH (E:=E) h h2 c
 |.loop c=>⟨iH h h2 c,fun L hL=>by simp_all⟩
 |.rangeFunc _ _ a b=>⟨iH h h2 a,iH h h2 b,fun h3=>by simp_all⟩
 |.skip|.label _|.region _ _ _|.exit _|.goto _|.ret|.refuse _=>trivial
def UD (E:Env) (n:Nat):VW:=⟨fun j st=>lF E n (R:=bG) j st fun v _=>some v,lF E n,lF E n⟩
def eQ (E:Env) (f:FuncId) (c:Code) (L:dC):Prop:=
 ∀(R:Type) (m:Nat),VV (R:=R) (E.at (m+L.dep)) (lF E (m+L.dep)) (UD E (m+L.dep)) f c L
def qO (E:Env) (f:FuncId) (c:Code) (L:dC):Prop:=
 ∀(R:Type) (m:Nat),ac4 (R:=R) (E.at (m+L.dep)) (lF E (m+L.dep)) (UD E (m+L.dep)) f c L
def dO (E:Env) (f:FuncId) (c:Code):Prop:= ∀(R:Type) (m:Nat),jh (R:=R) (E.at m) (lF E m) (UD E m) f c
theorem ja {E:Env} {f:FuncId} (h: ∀id,E.lp f id=none) (h2: ∀id,E.rf f id=false) (c:Code):dO E f c:=fun R m=>iH (E:=E.at m) h h2 c
theorem LX (hT:TOk P T) (hm:P.follows .mixedOrders=true) {n:Nat} {E:Env} (hET:E.T=T) {f:FuncId} {ex:mP R} {exd:VW} (hcall:lW P W0 n (wu E ex)) (hq:mV (R:=R) P (PH E exd.q)) (hex:uD P W0 ex) (hS:lW P W0 n (wu E exd.s)) (hU:lW P W0 n (wu E exd.u)) (hsq: ∀R:Type,mV (R:=R) P (Gh E.sg E.cl)):
  ∀(code:Code),jh E ex exd f code-> ∀(K:Ex->St->Option R) (Q:Exit->Act->World->Prop) (c:Cx) (st:St) (a:Act),run E ex exd f code st K=some r->iO W0 b0 rd c st a ats->b0<=c.w.heap.size->
   (∀e c' st' a',K e st'=some r->iO W0 b0 rd c' st' a' ats->c.Mono c'->Q e.xt a' c'.w)->code.wpIn (FW rd) n P Q a c.w:=by
 subst hET;intro code
 induction code with
 |skip=>intro _ K Q c st a h hr hb hQ;exact wpIn_skip (hQ .normal c st a h hr (Cx.Mono.refl c))
 |label l=>intro _ K Q c st a h hr hb hQ;exact wpIn_label (hQ .normal c st a h hr (Cx.Mono.refl c))
 |region id ops draw=>
  intro _ K Q c st a h hr hb hQ;simp only[run]at h;have htrim: ∃fr',FH (E.kp f (600000+id)) st={st with fr:=fr'}/\bF c fr' a.tmps.toList:=by
   cases E.kp f (600000+id)with
   |none=>exact⟨st.fr,rfl,hr.fr⟩
   |some k=>exact⟨_,rfl,zS _ _ _ hr.fr⟩
  obtain⟨fr',e1,e2⟩:=htrim;rw[e1]at h;replace hr:iO W0 b0 rd c {st with fr:=fr'} a ats:=⟨hr.hp,hr.nxt,hr.ok,e2,hr.stk,hr.df,hr.rd⟩;generalize ({st with fr:=fr'}:St)=st at h hr;cases draw with
  |true=>
   simp only[cond_true]at h;rw[cond_eq_ite]at h;split at h
   ·rename_i hok
    simp only[af]at hok;exact MQ hT hm hq hok.1 h hr fun c' st' a' h'=>hQ .normal c' st' a' h'
   ·split at h
    ·rename_i l hpl
     exact TR hT hm hcall hpl h hr fun c' st' a' h'=>hQ .normal c' st' a' h'
    ·rw[cond_eq_ite]at h;split at h
     ·rename_i hok
      simp only[af]at hok;exact MQ hT hm hq hok.1 h hr fun c' st' a' h'=>hQ .normal c' st' a' h'
     replace h:=di h;exact aei hT hm h.1 hsq hS hU Wj Wj hcall Wj h.2 hr fun c' st' a' h'=>hQ .normal c' st' a' h'
  |false=>
   simp only[cond_false]at h;exact wpIn_region_list (Lu hT hcall ops ops.toList c st a h hr fun c' st' a' h'=>hQ .normal c' st' a' h')
 |seq x y ihx ihy=>
  intro hl K Q c st a h hr hb hQ;replace ihx:=ihx hl.1.1;replace ihy:=ihy hl.2;simp only[run]at h;refine wpIn_seq (ihx _ _ c st a h hr hb fun e c' st' a' h' hr' hm'=> ?_);cases e with
  |normal=>
   have hb':=aO hb hm'.size;have hQ': ∀e c'' st'' a'',K e st''=some r->iO W0 b0 rd c'' st'' a'' ats->c'.Mono c''->Q e.xt a'' c''.w:=fun e c'' st'' a'' h'' hr'' hm''=>hQ e c'' st'' a'' h'' hr'' (hm'.trans hm'');have fin: ∀(kp:Option dM) (m:Nat) (st1:St),(match kp with|none=>st1=st'|some k=>Ku k.slots k.owns st'=some st1)->iter kp (yD (run E ex exd f y)) m st1 (uq 999999 K)=some r->y.wpIn (FW rd) n P Q a' c'.w:=by
    intro kp m st1 h1 h2;cases kp with
    |none=>grind [Uy]
    |some k=>
     obtain⟨c1,hr1,hm1,hw1⟩:=oZ hr' h1;rw[<-hw1];exact Uy ihy m h2 hr1 (aO hb' hm1.size) fun e c'' st'' a'' h'' hr'' hm''=>hQ' e c'' st'' a'' h'' hr'' (hm1.trans hm'')
   simp only[aCm,cutAt]at h';split at h'
   ·rename_i L hL
    replace h':=di h';obtain⟨hdp,h'⟩:=h';split at h'
    ·rename_i v hv
     obtain⟨m,st1,h1,h2⟩:=hl.1.2 L hL hdp r st' v (uq 999999 K) (fun slots owns st1 ht=>let⟨c1,hr1,_,_⟩:=oZ hr' ht;hr1.wf) hv h';exact fin _ m st1 h1 h2
    ·cases h'
   ·split at h'
    ·exact ihy _ _ c' st' a' h' hr' hb' hQ'
    ·rename_i k hk
     split at h'
     ·rename_i st1 h1
      exact fin (some k) bP st1 h1 h'
     ·cases h'
  |exit id=>exact hQ (.exit id) c' st' a' h' hr' hm'
  |goto l=>exact hQ (.goto l) c' st' a' h' hr' hm'
  |ret=>exact hQ .ret c' st' a' h' hr' hm'
 |cond cnd x y ihx ihy=>
  intro hl K Q c st a h hr hb hQ;replace ihx:=ihx hl.1;replace ihy:=ihy hl.2;simp only[run]at h;have hv:=dG hr.fr cnd;split at h
  ·rename_i b hb'
   rw[hb']at hv;simp only[bJ]at hv;have hv:=hv.bool_inv
   grind [wpIn_cond_true,wpIn_cond_false]
  ·cases h
 |block id x ih=>
  intro hl K Q c st a h hr hb hQ;replace ih:=ih hl;simp only[run]at h;refine wpIn_block (ih _ _ c st a h hr hb fun e c' st' a' h' hr' hm'=> ?_);cases e with
  |normal=>exact hQ .normal c' st' a' h' hr' hm'
  |exit i=>
   simp only[uq]at h';simp only[Ex.xt,Exit.inBlock];rw[cond_eq_ite]at h';split at h'
   ·rename_i hi
    have hi:i=id:=by simpa using hi
    rw[if_pos hi];exact hQ .normal c' st' a' h' hr' hm'
   ·rename_i hi
    have hi:i≠id:=by simpa using hi
    rw[if_neg hi];exact hQ (.exit i) c' st' a' h' hr' hm'
  |goto l=>exact hQ (.goto l) c' st' a' h' hr' hm'
  |ret=>exact hQ .ret c' st' a' h' hr' hm'
 |loop x ih=>
  intro hl K Q c st a h hr hb hQ;replace ih:=ih hl.1;have fin: ∀(kp:Option dM) (m:Nat) (st1:St),(match kp with|none=>st1=st|some k=>Ku k.slots k.owns st=some st1)->iter kp (run E ex exd f x) m st1 K=some r->(Code.loop x).wpIn (FW rd) n P Q a c.w:=by
   intro kp m st1 h1 h2;cases kp with
   |none=>grind [Qo]
   |some k=>
    obtain⟨c1,hr1,hm1,hw1⟩:=oZ hr h1;rw[<-hw1];exact Qo ih m h2 hr1 (aO hb hm1.size) fun e c' st' a' h' hr' hm'=>hQ e c' st' a' h' hr' (hm1.trans hm')
  simp only[run]at h;split at h
  ·rename_i L hL
   replace h:=di h;obtain⟨hdp,h⟩:=h;split at h
   ·rename_i v hv
    obtain⟨m,st1,h1,h2⟩:=hl.2 L hL hdp r st v K (fun slots owns st1 ht=>let⟨c1,hr1,_,_⟩:=oZ hr ht;hr1.wf) hv h
    grind
   ·cases h
  grind
 |exit id=>intro _ K Q c st a h hr hb hQ;exact wpIn_exit (hQ (.exit id) c st a h hr (Cx.Mono.refl c))
 |goto l=>intro _ K Q c st a h hr hb hQ;exact wpIn_goto (hQ (.goto l) c st a h hr (Cx.Mono.refl c))
 |ret=>intro _ K Q c st a h hr hb hQ;exact wpIn_ret (hQ .ret c st a h hr (Cx.Mono.refl c))
 |scope x ih=>
  intro hl K Q c st a h hr hb hQ;replace ih:=ih hl;simp only[run]at h;refine afC (ih _ _ c st a h hr hb fun e c' st' a' h' hr' hm'=> ?_);cases e with
  |normal=>exact⟨(fun l e=>by cases e),hQ .normal c' st' a' h' hr' hm'⟩
  |exit i=>exact⟨(fun l e=>by cases e),hQ (.exit i) c' st' a' h' hr' hm'⟩
  |goto l=>simp[ao1]at h'
  |ret=>exact⟨(fun l e=>by cases e),hQ .ret c' st' a' h' hr' hm'⟩
 |rangeFunc fv ps iY bd _ _=>
  intro hl K Q c st a h hr hb hQ;simp only[run]at h;split at h
  ·rename_i g caps hfv
   have hky: ∀k,(bif E.rf f (cZ bd)then some (cZ bd)else none)=some k->qJ f k=some (iY,bd):=fun k hk=>by
    cases hrf:E.rf f (cZ bd)with
    |false=>simp_all
    |true=>rw[hrf]at hk;cases hk;exact hl.2.2 hrf
   have htrim: ∃fr',FH (E.kp f (500000+cZ bd)) st={st with fr:=fr'}/\bF c fr' a.tmps.toList:=by
    cases E.kp f (500000+cZ bd)with
    |none=>exact⟨st.fr,rfl,hr.fr⟩
    |some k=>exact⟨_,rfl,zS _ _ _ hr.fr⟩
   obtain⟨fr',e1,e2⟩:=htrim;rw[e1]at h;have hgv:=dG hr.fr fv;rw[hfv]at hgv;exact acj (st:={st with fr:=fr'}) hex hgv hky h ⟨hr.hp,hr.nxt,hr.ok,e2,hr.stk,hr.df,hr.rd⟩ hb hQ
  ·cases h
 |refuse s=>simp_all [run]
end
end
section
open Nat renaming le_refl → ae
open Go.RowKit
section
variable {P:Program} {T:TT} {W0:World} {b0:Nat} {rd:Option Nat} {R:Type} {r:R} {c:Cx} {ats:List (Array Value)}
theorem YZ (hok:c.Ok W0) {x:bG} {e:Ty} {ys:List e.den} {u:Value} (h:x.as c.hp (.list e)=some ys) (hx:bJ c x u) {a:Option Addr} {m cp:Nat} (hu:u=.slice a m cp):m<=cp:=by
 subst hu;cases x with
 |val t' z=>
  simp only[bG.as]at h;have e:=iF h;subst e
  grind [bJ,qw]
 |nils=>
  simp_all [bJ]
 |lst t' z b=>
  grind [bJ,qw]
 |emp=>
  simp_all [bJ]
 |slc id ver vw=>
  simp only[bG.as,AP]at h;split at h
  ·rename_i t' v xs harr
   replace h:=di h;obtain⟨hv,h⟩:=h;have hv:v=ver:=by simpa using hv
   subst hv;simp only[bJ]at hx;have hx1:=(hx.2.2 _ _ _ harr).2 rfl;obtain⟨_,e',zs,hown,hL,hty⟩:=hok.obj id _ harr;obtain⟨a0,cp0,hv,hn,hcell⟩:=qK hown;cases vw with
   |none=>
    simp_all [iT]
   |some p=>
    grind [iT]
  ·cases h
 |agg l=>simp[bG.as,Ty.isAgg]at h
 |_=>simp[bG.as]at h
def alY (c cb:Cx):Prop:= ∀b,b<c.w.heap.size->cb.free b/\cb.w.heap[b]? =c.w.heap[b]?
theorem E8 (hok:c.Ok W0) {cb:Cx} (hs:alY c cb) {x:bG} {e:Ty} {ys:List e.den} {u:Value} (h:x.as c.hp (.list e)=some ys) (hx:bJ c x u):VD cb (.list e) ys u:=by
 obtain⟨a,cp,zs,h1,h2,h3⟩:=Y0 hok h hx;have h4:=YZ hok h hx h1;refine(VD.leaf rfl).2 ⟨a,cp,zs,by rw[h1],h4,fQ.mono (eY.mono (fun b hb=>hs b hb.1) e) _ _ h2,h3.imp id fun⟨b,off,q1,q2,q3⟩=>⟨b,off,q1,(hs b q2).1,q3.of_block (hs b q2).2⟩⟩
theorem ait (hok:c.Ok W0) {cb:Cx} (hs:alY c cb) {v v':bG} {u:Value} (h:Uh c.hp v=some v') (hv:bJ c v u):bJ cb v' u:=by
 cases v with
 |val t x=>
  simp only[Uh,Option.some.injEq]at h;subst h;simp only[bJ]at hv ⊢;exact⟨fun e=>let⟨cs,h1,h2⟩:=hv.1 e;⟨cs,h1,eY.mono (fun b hb=>hs b hb.1) t x _ h2⟩,fun e=>eY.mono (fun b hb=>hs b hb.1) t x _ (hv.2 e)⟩
 |nils=>
  grind [Uh,bJ]
 |slc id ver vw=>
  simp only[Uh]at h;split at h
  ·rename_i t w xs hg
   rw[cond_eq_ite]at h;split at h
   ·rename_i hver
    cases h;simp only[bJ];refine E8 hok hs (x:=.slc id ver vw) ?_ hv;simp_all [bG.as,AP,gp]
   ·cases h
  ·cases h
 |_=>simp[Uh]at h
theorem Pg (hok:c.Ok W0) {cb:Cx} (hs:alY c cb): ∀(l l':List bG) (us:List Value),O9 c.hp l=some l'->bF c l us->bF cb l' us
 |[],l',[],h,_=>by simp_all [O9,bF]
 |v::l,l',u::us,h,hv=>by
  simp only[O9]at h;split at h
  ·rename_i v1 h1
   split at h
   ·rename_i l1 h2
    cases h;simp only[bF]at hv ⊢;exact⟨ait hok hs h1 hv.1,Pg hok hs l l1 us h2 hv.2⟩
   ·cases h
  ·cases h
 |[],_,_::_,_,hv=>by simp[bF]at hv
 |_::_,_,[],_,hv=>by simp[bF]at hv
def Cx.base (c:Cx) (w:World) (bar:Nat->Prop):Cx:=⟨c.mu,[],c.nxt,w,[],bar⟩
theorem asv {w:World} {bar:Nat->Prop} (hphi:Phi w) (hb: ∀b,bar b->b<w.heap.size):(c.base w bar).Ok w:=
 ⟨Below.refl _ _,fun id o h=>by simp[Cx.base,dH]at h,fun i j o p b h=>by simp[Cx.base,dH]at h,fun r hr=>by simp[Cx.base]at hr,fun b h=>⟨hb b h,(by rintro ⟨i,o,h,_⟩;simp[Cx.base,dH]at h),by simp[Cx.base]⟩,hphi⟩
theorem aix {w:World} {bar:Nat->Prop} {b:Nat}:(c.base w bar).free b↔b<w.heap.size/\ ¬bar b:=by
 constructor
 ·intro h;exact⟨h.1,h.2.2.2⟩
 ·rintro ⟨h1,h2⟩;exact⟨h1,(by rintro ⟨i,o,h,_⟩;simp[Cx.base,dH]at h),by simp[Cx.base],h2⟩
theorem al2 {w:World} {bar:Nat->Prop} (hphi:Phi w) (hb: ∀b,bar b->b<w.heap.size) {nx:Nat} (hn:nx=c.nxt):iO w 0 none (c.base w bar) ⟨[],[],[],nx⟩ ⟨#[],[]⟩ []:=
 ⟨rfl,hn.symm,asv hphi hb,by simp[bF],trivial,⟨[],rfl,List.nodup_nil,fun r hr=>by simp at hr⟩,fun l hl=>by cases hl⟩
theorem ORel.le0 {B:Nat} {c c':Cx} {id:Nat} {o:dD} (h:c.ORel B id o) (hl:c.Le0 c') (hm:c'.mu id=c.mu id) (hb: ∀b,o.blk (c.mu id)=some b->c'.w.heap[b]? =c.w.heap[b]?):c'.ORel B id o:=by
 cases o with
 |box e cs=>
  obtain⟨h1,vs,h2,h3,h4⟩:=h;refine⟨by rw[hm];exact h1,vs,by rw[hm,hb _ rfl];exact h2,bF.le0 hl _ _ h3,h4⟩
 |arr t ver xs=>
  obtain⟨h0,e,zs,h1,h2,h3⟩:=h;refine⟨h0,e,zs, ?_,fQ.mono (eY.mono hl.free t) _ _ h2,h3⟩;rw[hm];exact zX h1 fun b hb'=>hb b hb'
 |lp f fr ps iY bd ky n p=>
  obtain⟨h0,h1,L,h2,h3,h4⟩:=h;exact⟨h0,by rw[hm];exact h1,L,by rw[hm,hb _ rfl];exact h2,bF.le0 hl _ _ h3,h4⟩
 |dead=>trivial
 |mp kk vk es=>
  obtain⟨h1,ms,cl,h2,h3⟩:=h;exact⟨by rw[hm];exact h1,ms,cl,by rw[hm,hb _ rfl];exact h2,h3⟩
theorem Cx.Le0.trans {a b c:Cx} (h:a.Le0 b) (k:b.Le0 c):a.Le0 c:=
 ⟨fun x hx=>⟨(k.out x (h.out x hx).1).1,(k.out x (h.out x hx).1).2.trans (h.out x hx).2⟩,fun i hi=>k.ref i (h.ref i hi),fun i o hi ho=>by
  obtain⟨o1,h1,h2⟩:=k.obj i o (h.ref i hi) ho;obtain⟨o2,h3,h4⟩:=h.obj i o1 hi h1
  grind [dD.like_trans],k.bar.trans h.bar⟩
theorem SC {n:Nat} {fn:Func} {tmps:Array Value} {Rr:Ending->World->Prop}: ∀(ds:List Nat) (c:Cx),c.Ok W0->ds.Nodup->(∀r∈ds,r∈c.mks)->
  ∃c',c'.hp=c.hp/\c'.nxt=c.nxt/\c.Le0 c'/\c'.Ok W0/\(∀r∈c.mks,r∉ds->r∈c'.mks)/\(∀(b:Nat) (L:Loop),c.w.heap[b]? =some (Obj.loop L)-> ∃L':Loop,c'.w.heap[b]? =some (Obj.loop L'))/\c.w.heap.size<=c'.w.heap.size/\c'.bar=c.bar/\
   (LeavesIn (FW none) n P fn tmps Rr [] .returning c'.w->LeavesInM (FW none) n P fn tmps Rr (ds.map mkD) .returning c.w)
 |[],c,hok,_,_=>⟨c,rfl,rfl,(Cx.Le.refl c).le0,hok,fun r hr _=>hr,fun b L hL=>⟨L,hL⟩,ae _,rfl,fun h=>h⟩
 |d::ds,c,hok,hnd,hmem=>by
  obtain⟨hnd1,hnd2⟩:=List.nodup_cons.1 hnd;have hd:=hmem d (by simp);have hdk:=hok.mks d hd;have hlt:=hok.mark_lt hd
  let c1:Cx:={c with w:=c.w.putObj d (.deferred none),mks:=c.mks.filter fun r=>r !=d}
  have hother: ∀b,b≠d->c1.w.heap[b]? =c.w.heap[b]? :=fun b hb=>World.putObj_heap_other hb;have hle:c.Le0 c1:=⟨fun b hb=>⟨⟨by simpa [c1] using hb.1,hb.2.1,(fun hm=>hb.2.2 (List.mem_filter.1 hm).1)⟩,hother b fun e=>hb.2.2 (e▸hd)⟩,fun _ h=>h,fun id o _ ho=>⟨o,ho,o.like_refl _⟩,rfl⟩;have hok1:c1.Ok W0:=by
   refine⟨⟨hok.bel.os,hok.bel.tape,hok.bel.output,by simpa [c1] using hok.bel.size,fun j hj=>(hother j (by have:=hdk.1;omega)).trans (hok.bel.block j hj)⟩,fun id o ho=>ORel.le0 (hok.obj id o ho) hle rfl fun b hb=>hother b fun e=> ?_,hok.inj,fun r hr=> ?_,fun b hb=>(hle.out b (hok.bar b hb)).1,hok.phi⟩
   ·subst e;exact(hok.obj id o ho).no_mark hb hdk.2
   ·obtain⟨hr1,hr2⟩:=List.mem_filter.1 hr;have hr2:r≠d:=by simpa using hr2
    exact⟨(hok.mks r hr1).1,(hother r hr2).trans (hok.mks r hr1).2⟩
  obtain⟨c2,e1,e2,e3,e4,e5,e6,e7,ebar,e8⟩:=SC (n:=n) (fn:=fn) (tmps:=tmps) (Rr:=Rr) ds c1 hok1 hnd2 fun r hr=>List.mem_filter.2 ⟨hmem r (by simp[hr]),by
   grind⟩
  refine⟨c2,e1,e2,hle.trans e3,e4,fun r hr hr2=> ?_,fun b L hL=> ?_, ?_,ebar,fun h=> ?_⟩
  ·grind
  ·grind
  ·have:c.w.heap.size=c1.w.heap.size:=by simp[c1]
   omega
  ·exact⟨by simp,.inl ⟨d,_,rfl,run_takeDeferred hdk.2,e8 h⟩⟩
theorem apa {t:TypeId} {v u:Value} {w w':World} (h:(Instr.loadAt t v).run P w=.ok u w'):(do loadVar t (<-asAddr v):Sem Value).run P w=.ok u w':=by
 unfold Instr.loadAt at h;cases v<;>try (simp[Instr.sureAddr,stuck,Sem.run_bind,Result.andThen]at h;done)
 rename_i p
 cases p<;>first|exact h|simp_all [Instr.sureAddr]
def LU (tmps:Array Value):ResultVar->Sem Value
 |.tmp t=>pure (tmps.getD t undef)
 |.cell a t=>do loadVar t (<-asAddr (tmps.getD a undef))
theorem zg (hT:TOk P T) (hok:c.Ok W0) {st:St} {tmps:Array Value} (hhp:c.hp=st.hp) (hfr:bF c st.fr tmps.toList): ∀(l:List ResultVar) (K:List bG->Option R),rD T st l K=some r->
  ∃vs us,K vs=some r/\bF c vs us/\(l.mapM (LU tmps)).run P c.w=.ok us c.w
 |[],K,h=>⟨[],[],h,by simp[bF],rfl⟩
 |.tmp t::l,K,h=>by
  simp only[rD]at h;obtain⟨vs,us,h1,h2,h3⟩:=zg hT hok hhp hfr l _ h;refine⟨_,tmps.getD t undef::us,h1,by simp only[bF];exact⟨hfr.getD t,h2⟩, ?_⟩;simp_all [LU]
 |.cell a t::l,K,h=>by
  simp only[rD]at h;rw[<-hhp]at h;obtain⟨z,u,h1,h2,h3⟩:=apY hT hok h (hfr.getD a);obtain⟨vs,us,h4,h5,h6⟩:=zg hT hok hhp hfr l _ h1;refine⟨_,u::us,h4,by simp_all [bF], ?_⟩;have h7:=apa (h3 c.w (Below.refl _ _))
  grind [Sem.run_bind,LU,Result.andThen_ok,Sem.run_pure]
def N8:List Value->Value
 |[v]=>v
 |vs=>.tuple vs.toArray
theorem Aa {vs:List bG} {us:List Value} (h:bF c vs us):bJ c (LQ vs) (N8 us):=by
 match vs,us,h with
 |[],[],h=>simp only[LQ,N8,bJ];simp_all
 |[v],[u],h=>simpa [LQ,N8,bF] using h
 |v::v2::vs,u::u2::us,h=>simp only[LQ,N8,bJ];simp_all
 |[],_::_,h=>simp[bF]at h
 |_::_,[],h=>simp[bF]at h
 |[_],_::_::_,h=>simp[bF]at h
 |_::_::_,[_],h=>simp[bF]at h
theorem acn {fn:Func} {tmps:Array Value} {us:List Value} {w:World} (h:(fn.results.toList.mapM (LU tmps)).run P w=.ok us w):(results fn tmps).run P w=.ok (N8 us) w:=by
 have e:results fn tmps=(do let vs<-fn.results.mapM (LU tmps);pure (if h:vs.size=1 then vs[0]else .tuple vs)):=rfl;have h2:(fn.results.mapM (LU tmps)).run P w=.ok us.toArray w:=by
  simp_all [Array.mapM_eq_mapM_toList]
 rw[e,Sem.run_bind,h2]
 match us with
 |[]=>rfl
 |[v]=>rfl
 |v::v2::vs=>rfl
end
end
section
open Bool renaming and_eq_true → af
open Nat renaming eq_of_beq_eq_true → ak, lt_of_lt_of_le → aZ
open Go.RowKit
def IK (P:Program):Prop:= ∀(f:FuncId) (fn:Func) (c:Code),P.funcs[f]? =some fn->fn.body=some c->(fn.name== "runtime.NumGoroutine")=false
def CW {R:Type} (P:Program) (W0:World) (ex:mP R):Prop:=
 ∀(id:Nat) (args:List bG) (st:St) (K:bG->St->Option R) (r:R),ex (.yield id args) st K=some r->
  ∀(b0:Nat) (rd:Option Nat) (c:Cx) (a:Act) (ats:List (Array Value)) (args':Array Value),iO W0 b0 rd c st a ats->bF c args args'.toList->
   (∃f fr ps iY bd ky k p,dH st.hp id=some (.lp f fr ps iY bd ky k p))/\
   ∀Rr:Ending->World->Prop,(∀c' z u st',K z st'=some r->iO W0 b0 rd c' st' a ats->bJ c' z u->c.Mono c'->Rr (.returned u) c'.w)->
    ∀n,∃g tmps iY bd,(Instr.yield (c.mu id).blk args').run P c.w=.ok (.round (c.mu id).blk g tmps iY bd) c.w/\RoundIn (FW rd) n P (c.mu id).blk g tmps iY bd c.w Rr
def EE {R:Type} (g:FuncId) (s:Sum) (cl:Bool):fV R:=fun fv args dst st K=>match fv with
 |.fn g' caps=>if g'=g then s.call cl (args++caps) dst st K else none
 |_=>none
def Au (P:Program) (g:FuncId):Prop:= ∀(w:World) (b:Nat),w.shape? b=some (Uk,2)->w.frozen? ⟨b,0,none⟩=false->
 (callFunc g #[.pointer (some ⟨b,0,none⟩)]).run P w=.ok (.enter g #[.pointer (some ⟨b,0,none⟩)]) w/\
 (w.cell? ⟨b,0,none⟩=some (.pointer (some ⟨b,0,none⟩))->Calls P g #[.pointer (some ⟨b,0,none⟩)] w fun e w'=>e=.returned (.tuple #[])/\w'=w)/\
 (w.cell? ⟨b,0,none⟩=some (.pointer none)->Calls P g #[.pointer (some ⟨b,0,none⟩)] w fun e w'=>e=.returned (.tuple #[])/\w'=w.setCell ⟨b,0,none⟩ (.pointer (some ⟨b,0,none⟩)))
def MH {R:Type} (g:FuncId) (s:gY) (cl:Bool):fV R:=fun fv args dst st K=>match fv with
 |.fn g' caps=>if g'=g then s.call cl (args++caps) st K else none
 |_=>none
structure vZ (P:Program) (E:Env):Prop where
 T:TOk P E.T
 x: ∀(R:Type) (W0:World) (n:Nat) (g:FuncId) (s:gY),E.sb g=some s->lW (R:=R) P W0 n (MH g s E.cl)
 b: ∀g,E.bf g=true->Au P g
 v: ∀(R:Type) (W0:World) (n:Nat) (g:FuncId) (s:Sum),E.sg g=some s->lW (R:=R) P W0 n (EE g s E.cl)
 q: ∀(R:Type) (g:FuncId) (s:Sum),E.sg g=some s->(s.rs.all fun r=> !r.2&&r.1.rigid)=true->mV (R:=R) P (EE g s E.cl)
section
variable {P:Program} {T:TT} {W0:World} {b0:Nat} {rd:Option Nat} {R:Type} {r:R} {c:Cx} {ats:List (Array Value)}
theorem AL (hng:IK P) {f:FuncId} {fn:Func} {cd:Code} (hf:P.funcs[f]? =some fn) (hb:fn.body=some cd) (args:Array Value) (w:World):(callFunc f args).run P w=.ok (.enter f args) w:=by
 have h1:=hng f fn cd hf hb;simp_all [callFunc]
theorem qW {g:FuncId} {vs args:Array Value} {w:World}:(do let d<-Deferred.ofValue (.func (.func g) #[] vs) args;invoke d.target d.args:Sem Next).run P w=(callFunc g (args++vs)).run P w:=by
 grind [Deferred.ofValue,invoke]
theorem Qn {g:FuncId} {vs args:Array Value} {w:World}:(do let d<-Deferred.ofValue (.func (.func g) vs #[]) args;invoke d.target d.args:Sem Next).run P w=(callFunc g (vs++args)).run P w:=by
 rfl
theorem WX {l:Nat} {args:Array Value} {w:World}:(do let d<-Deferred.ofValue (.func (.yield l) #[] #[]) args;invoke d.target d.args:Sem Next).run P w=(Instr.yield l args).run P w:=by
 grind [Deferred.ofValue,invoke]
theorem bF.append_arr {l m:List bG} {xs ys:Array Value} (h:bF c l xs.toList) (k:bF c m ys.toList):bF c (l++m) (xs++ys).toList:=by
 simp_all [bF.append]
theorem UR: ∀(h:gz) (i:Nat) (o:dD),dH h i=some o->iV h i o=h
 |[],_,_,_=>rfl
 |(k,p)::h,i,o,hg=>by
  rw[dV]at hg;simp only[iV];by_cases e:k=i
  ·simp_all
  ·rw[if_neg e]at hg;have e':(k==i)=false:=by simpa using e
   simp[e',UR h i o hg]
theorem ZR {g:FuncId} (hT:TOk P T) (hg:Au P g) {args:List bG} {st:St} {K:bG->St->Option R} (h:Pv T args st K=some r) {a:Act} (hr:iO W0 b0 rd c st a ats) {us:Array Value} (hv:bF c args us.toList)
  (Rr:Ending->World->Prop) (hR: ∀c' z u st',K z st'=some r->iO W0 b0 rd c' st' a ats->bJ c' z u->c.Mono c'->Rr (.returned u) c'.w):
  (callFunc g us).run P c.w=.ok (.enter g us) c.w/\Calls P g us c.w Rr:=by
 unfold Pv at h;split at h<;>try (cases h;done)
 rename_i id
 split at h<;>try (cases h;done)
 rename_i t i i1 v1 w1 hbx
 replace h:=di h;obtain⟨hc,h⟩:=h;simp only[af]at hc;obtain⟨hi,hk,hb⟩:=hc;have hi:i=id:=ak hi;subst hi;have ht:=hT.bldr hk hb;rw[<-hr.hp]at hbx;obtain⟨hB,vs,hw,hvs,hone⟩:=hr.ok.obj i _ hbx;obtain⟨us⟩:=us
 match us,hv with
 |[u],hv=>
  simp only[bF,bJ,and_true]at hv;have hu:=hv.2.2 _ _ hbx;subst hu;obtain⟨vs⟩:=vs
  match vs,hvs with
  |[p,q],hvs=>
   simp only[bF,and_true]at hvs;have hself:=hvs.1;simp only[bJ]at hself;have hself:=hself.2.2 _ _ hbx;rw[ht]at hw;have hw':c.w.heap[(c.mu i).blk]? =some (.cells #[p,q] Uk (0,0)):=hw;have hcell:c.w.cell? ⟨(c.mu i).blk,0,none⟩=some p:=by simp[World.cell?,hw']
   obtain⟨h1,h2,h3⟩:=hg c.w (c.mu i).blk (by simp[World.shape?,hw']) (by simp[World.frozen?,hw']);refine⟨h1, ?_⟩;have hunit: ∀c',bJ c' (.tup []) (.tuple #[]):=fun c'=>by simp only[bJ];exact⟨#[],rfl,by simp[bF]⟩
   rcases hself with e|e
   ·subst e;refine(h3 hcell).mono ?_;rintro e w' ⟨rfl,rfl⟩;have hlt:(c.mu i).blk<c.w.heap.size:=(Array.getElem?_eq_some_iff.1 hw').1;have hwn:(c.w.setCell ⟨(c.mu i).blk,0,none⟩ (.pointer (some ⟨(c.mu i).blk,0,none⟩))).heap[(c.mu i).blk]? =some (.cells #[.pointer (some ⟨(c.mu i).blk,0,none⟩),q] Uk (0,0)):=by
     grind [World.setCell]
    have hother: ∀b,(c.mu i).blk≠b->(c.w.setCell ⟨(c.mu i).blk,0,none⟩ (.pointer (some ⟨(c.mu i).blk,0,none⟩))).heap[b]? =c.w.heap[b]? :=fun b hb=>by
     grind [World.setCell]
    have hsz:(c.w.setCell ⟨(c.mu i).blk,0,none⟩ (.pointer (some ⟨(c.mu i).blk,0,none⟩))).heap.size=c.w.heap.size:=by simp[World.setCell]
    have hlp: ∀(b:Nat) (L:Loop),(dD.box t [.slf i,.slc i1 v1 w1]).blk (c.mu i)=some b->c.w.heap[b]? =some (Obj.loop L)-> ∃L':Loop,(c.w.setCell ⟨(c.mu i).blk,0,none⟩ (.pointer (some ⟨(c.mu i).blk,0,none⟩))).heap[b]? =some (Obj.loop L'):=fun b L hb hL=>absurd hL ((hr.ok.obj i _ hbx).no_loop (by simp) hb);have hbb: ∀b,b<c.w.heap.size->(dD.box t [.slf i,.slc i1 v1 w1]).blk (c.mu i)≠some b->(c.w.setCell ⟨(c.mu i).blk,0,none⟩ (.pointer (some ⟨(c.mu i).blk,0,none⟩))).heap[b]? =c.w.heap[b]? :=fun b _ hne=>hother b fun e=>hne (by simp[dD.blk,e]);have hll: ∀b,(dD.box t [.slf i,.slc i1 v1 w1]).blk (c.mu i)=some b->(dD.box t [.slf i,.slc i1 v1 w1]).blk (c.mu i)=some b\/c.w.heap.size<=b:=fun b hb=>.inl hb;have hBel:Below W0.heap.size W0 (c.w.setCell ⟨(c.mu i).blk,0,none⟩ (.pointer (some ⟨(c.mu i).blk,0,none⟩))):=
     ⟨hr.ok.bel.os,hr.ok.bel.tape,hr.ok.bel.output,by omega,fun b hb=>(hother b (by omega)).trans (hr.ok.bel.block b hb)⟩
    have hlike:=dD.like_refl (.box t [.slf i,.slc i1 v1 w1]) (c.mu i);have hle:=Cx.Le.put hr.ok hbx hlike (Nat.le_of_eq hsz.symm) hbb hll hlp;have hd:CJ W0 c st (c.put i (.box t [.slf i,.slc i1 v1 w1]) (c.mu i) (c.w.setCell ⟨(c.mu i).blk,0,none⟩ (.pointer (some ⟨(c.mu i).blk,0,none⟩)))) st:=by
     refine⟨by simp only[Cx.put];rw[UR _ _ _ hbx,hr.hp],hr.nxt,rfl,rfl,Cx.Ok.put hr.ok hbx hlike hBel (Nat.le_of_eq hsz.symm) hbb hll hlp ?_,hle⟩;refine⟨by simp only[Cx.put,upd_same];exact hB,#[.pointer (some ⟨(c.mu i).blk,0,none⟩),q], ?_, ?_, ?_⟩
     ·simp_all [Cx.put,upd_same]
     ·simp only[bF,and_true];refine⟨?_,bJ.le hle _ _ hvs.2⟩;simp only[bJ];exact⟨rfl,.inl ⟨_,Cx.put_get hbx⟩,fun _ _ _=>.inr (by simp[Cx.put,upd_same])⟩
     simp_all
    exact hR _ (.tup []) (.tuple #[]) st h (hr.did hd) (hunit _) hle.mono
   ·subst e;refine(h2 hcell).mono ?_;rintro e w' ⟨rfl,rfl⟩;exact hR c (.tup []) (.tuple #[]) st h hr (hunit _) (Cx.Mono.refl c)
theorem kK {E:Env} (hS:vZ P E) {ex:mP R} (hc:uD P W0 ex) (hy:CW P W0 ex) (n:Nat):lW P W0 n (wu E ex):=by
 intro b0 rd fv args dst st K r h c a ats fv' args' hr hfv hargs o next Q hn
 cases fv with
 |fn g caps=>
  simp only[wu]at h;split at h
  ·rename_i s hs
   exact hS.v R W0 n g s hs b0 rd (.fn g caps) args dst st K r (by simp_all [EE]) c a ats fv' args' hr hfv hargs o next Q hn
  split at h
  ·rename_i s hs
   exact hS.x R W0 n g s hs b0 rd (.fn g caps) args dst st K r (by simp_all [MH]) c a ats fv' args' hr hfv hargs o next Q hn
  ·rw[cond_eq_ite]at h;split at h
   ·rename_i hbf
    simp only[bJ]at hfv;obtain⟨vs,rfl,hcaps⟩:=hfv;obtain⟨h1,h2⟩:=ZR hS.T (hS.b g hbf) h hr (us:=args'++vs) (bF.append_arr hargs hcaps)
     (fun e w''=>match e with
      |.returned v=>next (a.put o.dst v) w''
      |.panicked chain=>Q (.panic chain) a w''
      |.outgrown=>LetsOut Q) (fun c' z u st' k1 k2 k3 k4=>hn c' z u st' k1 k2 k3 k4)
    rw[qW,h1];exact⟨sO rd,(zB h2).mono fun e w'' he=>by cases e<;>exact he⟩
   simp only[bJ]at hfv;obtain⟨vs,rfl,hcaps⟩:=hfv;obtain⟨h1,h2⟩:=hc g (args++caps) st K r h b0 rd c a ats (args'++vs) hr (bF.append_arr hargs hcaps)
    (fun e w''=>match e with
     |.returned v=>next (a.put o.dst v) w''
     |.panicked chain=>Q (.panic chain) a w''
     |.outgrown=>LetsOut Q) (fun c' z u st' k1 k2 k3 k4=>hn c' z u st' k1 k2 k3 k4)
   rw[qW,h1];exact⟨sO rd,(zB h2).mono fun e w'' he=>by cases e<;>exact he⟩
 |mfn g fst=>
  simp only[wu]at h;simp only[bJ]at hfv;obtain⟨vs,rfl,hfst⟩:=hfv;split at h
  ·rename_i s hs
   have h0:=hS.x R W0 n g s hs b0 rd (.fn g []) (fst++args) dst st K r (by simp_all [MH]) c a ats (.func (.func g) #[] #[]) (vs++args') hr (by simp only[bJ];exact⟨#[],rfl,by simp[bF]⟩) (bF.append_arr hfst hargs) o next Q hn
   grind [Qn]
  obtain⟨h1,h2⟩:=hc g (fst++args) st K r h b0 rd c a ats (vs++args') hr (bF.append_arr hfst hargs)
   (fun e w''=>match e with
    |.returned v=>next (a.put o.dst v) w''
    |.panicked chain=>Q (.panic chain) a w''
    |.outgrown=>LetsOut Q) (fun c' z u st' k1 k2 k3 k4=>hn c' z u st' k1 k2 k3 k4)
  rw[Qn,h1];exact⟨sO rd,(zB h2).mono fun e w'' he=>by cases e<;>exact he⟩
 |yld id=>
  simp only[wu]at h;obtain⟨⟨f,fr,ps,iY,bd,ky,k,p,hg⟩,h2⟩:=hy id args st K r h b0 rd c a ats args' hr hargs;simp only[bJ]at hfv;have:=hfv.2.2 f fr ps iY bd ky k p (by rw[hr.hp];exact hg);subst this;obtain⟨g,tmps,iY,bd,h3,h4⟩:=h2
    (fun e w''=>match e with
     |.returned v=>next (a.put o.dst v) w''
     |.panicked chain=>Q (.panic chain) a w''
     |.outgrown=>LetsOut Q) (fun c' z u st' k1 k2 k3 k4=>hn c' z u st' k1 k2 k3 k4) (n-1)
  rw[WX,h3];exact⟨sO rd,h4.mono fun e w'' he=>by cases e<;>exact he⟩
 |_=>simp[wu]at h
theorem C9 {E:Env} (hS:vZ P E) {exR:mP bG} (hc: ∀W0,uD P W0 exR):mV (R:=R) P (PH E fun j st=>exR j st fun v _=>some v):=by
 intro W0 b0 rd fv args dst st K r h c a ats fv' args' hr hfv hargs;cases fv with
 |fn g caps=>
  cases caps with
  |nil=>
   simp only[PH]at h;split at h
   ·rename_i s hs
    rw[cond_eq_ite]at h;split at h
    ·rename_i hall
     exact hS.q R g s hs hall W0 b0 rd (.fn g []) args dst st K r (by simp_all [EE]) c a ats fv' args' hr hfv hargs
    ·cases h
   ·split at h
    ·rename_i args2 ha2
     split at h
     ·rename_i v hv
      rw[cond_eq_ite]at h;split at h
      ·rename_i hrig
       simp only[bJ]at hfv;obtain⟨vs,rfl,hcaps⟩:=hfv;have hvs:vs= #[]:=by
        have:=bF.length _ _ hcaps
        grind
       subst hvs;refine⟨v,rv v,h,(Ip hrig _).2 rfl,fun w' hw'=>.inl ⟨g,args', ?_⟩⟩;have hbr:iO w' 0 none (c.base w' fun _=>False) ⟨[],[],[],st.nxt⟩ ⟨#[],[]⟩ []:=al2 (Phi.below hw' hr.ok.phiw) (fun b h=>h.elim) hr.nxt.symm;have hsees:alY c (c.base w' fun _=>False):=fun b hb=>⟨aix.2 ⟨aZ hb hw'.size,fun h=>h⟩,hw'.block b hb⟩;obtain⟨h1,h2⟩:=hc w' g args2 _ _ v hv 0 none _ _ [] args' hbr (Pg hr.ok hsees _ _ _ (by rw[hr.hp];exact ha2) hargs)
        (fun e w''=>e=.returned (rv v)/\FZ c w'') (fun c' z u st' k1 k2 k3 k4=>by
         simp only[Option.some.injEq]at k1;subst k1;refine⟨by rw[(Ip hrig u).1 k3], ?_⟩;exact hw'.trans (k2.ok.bel.mono hw'.size))
       refine⟨?_,h2⟩;rw[qW,Array.append_empty];exact h1
      ·cases h
     ·cases h
    ·cases h
  |cons _ _=>simp[PH]at h
 |_=>simp[PH]at h
theorem Gx: ∀k,bF c (List.replicate k (.tup [])) (List.replicate k undef)
 |0=>by simp[bF]
 |k+1=>by
  simp only[List.replicate_succ,bF,bJ];exact⟨⟨#[],rfl,by simp[bF]⟩,Gx k⟩
theorem YQ {l:Nat} {Rr:Ending->World->Prop} {e:Ex} {a:Act} {w:World} (h: ∃v w',(Instr.endRound l e.code).run P w=.ok v w'/\Rr (.returned v) w'):roundPost P l Rr e.xt a w:=by
 cases e<;>exact h
theorem GM: ∀(ps:List Nat) (fr args:List bG) (args':List Value) (tmps:Array Value),bF c fr tmps.toList->bF c args args'->bF c (vT fr ps args) ((ps.zip args').foldl (fun tmps (t,a)=>tmps.setIfInBounds t a) tmps).toList
 |[],fr,args,args',tmps,h,_=>by simp_all [vT]
 |p::ps,fr,[],[],tmps,h,_=>by assumption
 |p::ps,fr,v::args,u::args',tmps,h,hv=>by
  simp only[bF]at hv;simp only[vT,List.zip_cons_cons,List.foldl_cons];refine GM ps _ args args' _ ?_ hv.2;simp_all [bF.set]
 |p::ps,fr,[],_::_,tmps,h,hv=>by simp[bF]at hv
 |p::ps,fr,_::_,[],tmps,h,hv=>by simp[bF]at hv
end
end
section
open Bool renaming and_eq_true → af
open Nat renaming le_refl → ae, le_trans → aO
open Go.RowKit
section
variable {P:Program} {T:TT} {W0:World} {b0:Nat} {rd:Option Nat} {R:Type} {r:R} {c:Cx} {ats:List (Array Value)}
def rO (P:Program) (E:Env):Prop:= ∀(f:FuncId) (fn:Func) (c:Code),P.funcs[f]? =some fn->fn.body=some c->dO E f c
def ac9 (E:Env):Prop:= ∀f k iY bd,qJ f k=some (iY,bd)->dO E f iY/\dO E f bd
theorem qI {E:Env} {ex:mP R} {exd:VW} {f:FuncId} {k:Nat} {x y:Code}: ∀c:Code,jh E ex exd f c->Io c k=some (x,y)->jh E ex exd f x/\jh E ex exd f y
 |.rangeFunc _ _ iY bd,hl,h=>by
  simp only[Io]at h;split at h
  ·cases h;exact⟨hl.1,hl.2.1⟩
  ·split at h
   ·rename_i z hz;cases h;exact qI iY hl.1 hz
   ·exact qI bd hl.2.1 h
 |.seq a b,hl,h=>by
  simp only[Io]at h;split at h
  ·rename_i z hz;cases h;exact qI a hl.1.1 hz
  ·exact qI b hl.2 h
 |.cond _ a b,hl,h=>by
  simp only[Io]at h;split at h
  ·rename_i z hz;cases h;exact qI a hl.1 hz
  ·exact qI b hl.2 h
 |.block _ c,hl,h=>qI c hl h
 |.loop c,hl,h=>qI c hl.1 h
 |.scope c,hl,h=>qI c hl h
 |.skip,_,h|.label _,_,h|.region _ _ _,_,h|.exit _,_,h|.goto _,_,h|.ret,_,h|.refuse _,_,h=>by simp[Io]at h
theorem avh {P:Program} {E:Env} (h:rO P E): ∀f k iY bd,aAC P f k=some (iY,bd)->dO E f iY/\dO E f bd:=fun f k iY bd hr=>by
 unfold aAC at hr;split at hr
 ·rename_i fn hf
  split at hr
  ·rename_i c hb
   exact⟨fun R m=>(qI c (h f fn c hf hb R m) hr).1,fun R m=>(qI c (h f fn c hf hb R m) hr).2⟩
  ·cases hr
 ·cases hr
theorem Zl {P:Program} {E:Env} (h:vZ P E): ∀R:Type,mV (R:=R) P (Gh E.sg E.cl):=fun R W0 b0 rd fv args dst st K r hr c a ats fv' args' h1 h2 h3=>by
 unfold Gh at hr;split at hr
 ·rename_i g
  split at hr
  ·rename_i s hs
   replace hr:=di hr;obtain⟨h4,hr⟩:=hr;simp only[af]at h4;exact h.q R g s hs h4.1 W0 b0 rd (.fn g []) args dst st K r (by simp_all [EE]) c a ats fv' args' h1 h2 h3
  ·cases hr
 ·cases hr
theorem vZ.at {P:Program} {E:Env} (h:vZ P E) (n:Nat):vZ P (E.at n):=⟨h.T,h.x,h.b,h.v,h.q⟩
theorem apS {st:St} {K:St->Option R} (h:pop st K=some r): ∃fr stk,st.stk=fr::stk/\K {st with fr:=fr,stk:=stk}=some r:=by
 grind [pop]
theorem CZ {v:bG} {u:Value} {c0 c1:Cx} {st st1:St} {a:Act} {mark:Nat} (hr0:iO W0 b0 rd c0 st a ats) (hr1:c1.Ok W0) (hhp:c1.hp=st1.hp) (hnx:c1.nxt=st1.nxt) (hfr:st1.fr=[]) (hstk:Cc c1 st1.stk (a.tmps::ats))
  (hm:c0.Mono c1) (hv:bJ c1 v u) {K:bG->St->Option R} (h:(match gc mark v st1 with|some st2=>pop st2 (K v)|none=>none)=some r):
  ∃c' st',K v st'=some r/\iO W0 b0 rd c' st' a ats/\bJ c' v u/\c0.Mono c'/\c'.w=c1.w:=by
 have hr:iO W0 0 none c1 st1 ⟨#[],[]⟩ (a.tmps::ats):=⟨hhp,hnx,hr1,by rw[hfr];simp[bF],hstk,⟨[],rfl,List.nodup_nil,fun r hr=>by simp at hr⟩,fun l hl=>by cases hl⟩;split at h
 ·rename_i st2 h2
  obtain⟨c2,hr2,hv2,hm2,hw2,hs2,_⟩:=hr.gc hv h2;obtain⟨fr,stk,hs,h⟩:=apS h;have hstk2:=hr2.stk;rw[hs]at hstk2;refine⟨c2,_,h,⟨hr2.hp,hr2.nxt,hr2.ok,hstk2.1,hstk2.2, ?_,fun l hl=> ?_⟩,hv2,hm.trans hm2,hw2⟩
  ·obtain⟨ds,h1,h3,h4⟩:=hr0.df;exact⟨ds,h1,h3,fun x hx=>⟨hm2.mks x (hm.mks x (h4 x hx).1),(h4 x hx).2⟩⟩
  ·obtain⟨L,hL⟩:=hr0.rd l hl;obtain⟨L1,hL1⟩:=hm.lp l L hL;simp_all
 ·cases h
theorem aj9 (hT:TOk P T) (hm:P.follows .mixedOrders=true) (hng:IK P) {E:Env} (hEP:E.P=P) (hET:E.T=T) (hS:vZ P E) (hlo:rO P E) (hrf:ac9 E) {m:Nat} (ih: ∀(R:Type) (W0:World),uD P W0 (lF E m (R:=R))/\CW P W0 (lF E m (R:=R))):
  uD P W0 (lF E (m+1) (R:=R)):=by
 intro f args st K r h b0 rd c a ats args' hr hargs Rr hR;simp only[lF]at h;rw[hEP]at h;split at h
 ·cases h
 ·rename_i fn hf
  split at h
  ·cases h
  ·rename_i cd hb
   rw[cond_eq_ite]at h;split at h
   ·rename_i hle
    have hle:args.length<=fn.ntmps:=by simp_all
    have hlen:args.length=args'.size:=by simpa using bF.length _ _ hargs
    refine⟨AL hng hf hb args' c.w, ?_⟩;refine(callsIn_wide (n:=0)).1 (callsIn_of_wp_marks (F:=Fence.wide) (n:=0) hf hb trivial ?_);have hr1:iO W0 c.w.heap.size none c {fr:=args++List.replicate (fn.ntmps-args.length) (.tup []),stk:=st.fr::st.stk,hp:=st.hp,nxt:=st.nxt} {tmps:=args'++Array.replicate (fn.ntmps-args'.size) undef,defers:=[]} (a.tmps::ats):=by
     refine⟨hr.hp,hr.nxt,hr.ok, ?_,⟨hr.fr,hr.stk⟩,⟨[],rfl,List.nodup_nil,fun r hr=>by simp at hr⟩,fun l hl=>by cases hl⟩
     grind [bF.append_arr,Array.toList_replicate,Gx]
    refine LX (rd:=none) hT hm (n:=0) (E:=E.at m) hET (kK (E:=E.at m) (hS.at m) (ih R W0).1 (ih R W0).2 0) (C9 (E:=E.at m) (hS.at m) fun W=>(ih bG W).1) (ih R W0).1 (kK (E:=E.at m) (hS.at m) (ih St W0).1 (ih St W0).2 0) (kK (E:=E.at m) (hS.at m) (ih Unit W0).1 (ih Unit W0).2 0) (Zl (E:=E.at m) (hS.at m)) cd (hlo f fn cd hf hb R m) _ _ c _ _ h hr1 (ae _) fun e c1 st1 a1 h1 hr2 hm1=> ?_;have fin:(rD E.T st1 fn.results.toList fun vs=>
       let v:=match vs with
        |[v]=>v
        |vs=>.tup vs
       match gc (bif E.cl then st.nxt else 1000000*st1.stk.length) v {st1 with fr:=[]}with
       |some st2=>pop st2 (K v)
       |none=>none)=some r->LeavesInM Fence.wide 0 P fn a1.tmps Rr a1.defers .returning c1.w:=by
     intro h2;obtain⟨ds,d1,d2,d3⟩:=hr2.df;obtain⟨c2,e1,e2,e3,e4,e5,e6,e7,ebar,e8⟩:=SC (n:=0) (P:=P) (fn:=fn) (tmps:=a1.tmps) (Rr:=Rr) ds c1 hr2.ok d2 fun x hx=>(d3 x hx).1;rw[d1];refine e8 ?_;rw[hET]at h2;obtain⟨vs,us,h3,h4,h5⟩:=zg hT e4 (e1.trans hr2.hp) (bF.le0 e3 _ _ hr2.fr) _ _ h2;have hm2:c.Mono c2:=by
      refine⟨fun x hx=>e5 x (hm1.mks x hx) fun hd=> ?_,fun b L hL=> ?_,aO hm1.size e7,ebar.trans hm1.bar,fun b hb=>⟨(e3.out b (hm1.out b hb).1).1,(e3.out b (hm1.out b hb).1).2.trans (hm1.out b hb).2⟩⟩
      ·have h6:=(d3 x hd).2;have h7:=hr.ok.mark_lt hx;omega
      ·obtain⟨L1,hL1⟩:=hm1.lp b L hL;exact e6 b L1 hL1
     obtain⟨c3,st3,k1,k2,k3,k4,k5⟩:=CZ (v:=LQ vs) (u:=N8 us) hr e4 (st1:={st1 with fr:=[]}) (e1.trans hr2.hp) (e2.trans hr2.nxt) rfl (by
      have: ∀(fs:List (List bG)) (ts:List (Array Value)),Cc c1 fs ts->Cc c2 fs ts:=fun fs=>by
       induction fs with
       |nil=>intro ts h;cases ts with
        |nil=>trivial
        |cons _ _=>exact h.elim
       |cons f fs ihf=>intro ts h;cases ts with
        |nil=>exact h.elim
        |cons t ts=>exact⟨bF.le0 e3 _ _ h.1,ihf ts h.2⟩
      exact this _ _ hr2.stk) hm2 (Aa h4) (K:=K) h3
     refine⟨N8 us,acn h5, ?_⟩
     grind
    cases e with
    |normal=>exact fin h1
    |ret=>exact fin h1
    |exit i=>cases h1
    |goto l=>cases h1
   ·cases h
theorem adN (hT:TOk P T) (hm:P.follows .mixedOrders=true) (hng:IK P) {E:Env} (hEP:E.P=P) (hET:E.T=T) (hS:vZ P E) (hlo:rO P E) (hrf:ac9 E) {m:Nat} (ih: ∀(R:Type) (W0:World),uD P W0 (lF E m (R:=R))/\CW P W0 (lF E m (R:=R))):
  CW P W0 (lF E (m+1) (R:=R)):=by
 intro id args st K r h b0 rd c a ats args' hr hargs;simp only[lF]at h;split at h
 ·rename_i f fr0 ps iY bd ky hg
  refine⟨⟨f,fr0,ps,iY,bd,ky,0,none,hg⟩,fun Rr hR n=> ?_⟩;rw[cond_eq_ite]at h;split at h
  ·rename_i hlen
   have hlen:args.length=ps.length:=by simpa using hlen
   have hlen2:args.length=args'.size:=by simpa using bF.length _ _ hargs
   have hg':dH c.hp id=some (.lp f fr0 ps iY bd ky 0 none):=by rw[hr.hp];exact hg
   obtain⟨hky,hB,L,hL,hv,q1,q2,q3,q4,q5⟩:=hr.ok.obj id _ hg';have hSk:vZ P ((E.at m).keyed ky):=by
    cases ky with
    |none=>exact⟨hS.T,hS.x,hS.b,hS.v,hS.q⟩
    |some k=>exact hS.at m
   have hETk:((E.at m).keyed ky).T=T:=by cases ky<;>exact hET
   have⟨hloa,hlob⟩:jh ((E.at m).keyed ky) (lF E m (R:=R)) (UD E m) f iY/\jh ((E.at m).keyed ky) (lF E m (R:=R)) (UD E m) f bd:=by
    cases ky with
    |none=>exact⟨iH (fun _=>rfl) (fun _=>rfl) _,iH (fun _=>rfl) (fun _=>rfl) _⟩
    |some k=>exact⟨(hrf f k iY bd (hky k rfl)).1 R m,(hrf f k iY bd (hky k rfl)).2 R m⟩
   have hsz:args'.size=L.params.size:=by
    grind
   refine⟨_,_,_,_,run_yield hL hsz, ?_⟩;refine roundIn_of_wpIn trivial ?_;rw[q2,q3];have hyv:bJ c (.yld id) (.func (.yield (c.mu id).blk) #[] #[]):=by
    simp only[bJ];exact⟨rfl,.inl ⟨_,hg'⟩,fun _ _ _ _ _ _ _ _ _=>by simp⟩
   have hr1:iO W0 c.w.heap.size (some (c.mu id).blk) c {fr:=vT fr0 ps args,stk:=[.yld id]::st.fr::st.stk,hp:=st.hp,nxt:=st.nxt} {tmps:=(L.params.zip args').foldl (fun tmps (t,a)=>tmps.setIfInBounds t a) L.tmps,defers:=[]} (#[.func (.yield (c.mu id).blk) #[] #[]]::a.tmps::ats):=by
    refine⟨hr.hp,hr.nxt,hr.ok, ?_,⟨by simpa [bF] using hyv,hr.fr,hr.stk⟩,⟨[],rfl,List.nodup_nil,fun r hr=>by simp at hr⟩,fun l hl=>by simp_all⟩;have:=GM ps fr0 args args'.toList L.tmps hv hargs
    grind [Array.toList_zip]
   refine LX (rd:=some (c.mu id).blk) hT hm (E:=(E.at m).keyed ky) hETk (kK (E:=(E.at m).keyed ky) hSk (ih R W0).1 (ih R W0).2 n) (C9 (E:=(E.at m).keyed ky) hSk fun W=>(ih bG W).1) (ih R W0).1 (kK (E:=(E.at m).keyed ky) hSk (ih St W0).1 (ih St W0).2 n) (kK (E:=(E.at m).keyed ky) hSk (ih Unit W0).1 (ih Unit W0).2 n) (Zl hSk) iY hloa _ _ c _ _ h hr1 (ae _) fun e c1 st1 a1 h1 hr2 hm1=> ?_;cases e with
   |normal=>
    split at h1
    ·rename_i id1 stk1 _ hs1
     split at h1
     ·rename_i f1 fr1 ps1 asg1 bd1 ky1 hg1
      have hstk:=hr2.stk;rw[hs1]at hstk;obtain⟨hy1,_⟩:=hstk;simp only[bF,and_true]at hy1;have hg1':=hg1;rw[<-hr2.hp]at hg1';obtain⟨hky1,hB1,L1,hL1,hv1,p1,p2,p3,p4,p5⟩:=hr2.ok.obj id1 _ hg1';simp only[bJ]at hy1;have hblk:(c.mu id).blk=(c1.mu id1).blk:=by simp_all
      obtain⟨c2,e1,e2,e3,e4,e5,e6⟩:=Iq hr2.ok hg1' hL1 {L1 with state:=.busy} (o':=.lp f1 fr1 ps1 asg1 bd1 ky1 2 none) (.inr ⟨2,none,rfl,rfl,rfl,rfl,rfl,rfl⟩);simp only[Ex.xt,Exit.then];refine⟨c2.w, ?_, ?_⟩
      ·simp_all [run_beginRound]
      have hm2:c.Mono c2:=hm1.trans e3.mono;have hr3:iO W0 c.w.heap.size (some (c.mu id).blk) c2 {st1 with hp:=iV st1.hp id1 (.lp f1 fr1 ps1 asg1 bd1 ky1 2 none)} a1 (#[.func (.yield (c.mu id).blk) #[] #[]]::a.tmps::ats):=
       ⟨e1.trans (by rw[hr2.hp]),e2.trans hr2.nxt,e4,bF.le e3 _ _ hr2.fr,Cc.le e3 _ _ hr2.stk,let⟨ds,d1,d2,d3⟩:=hr2.df;⟨ds,d1,d2,fun x hx=>⟨e3.mks x (d3 x hx).1,(d3 x hx).2⟩⟩,fun l hl=>let⟨L,hL⟩:=hr2.rd l hl;e3.lp l L hL⟩
      refine LX (rd:=some (c.mu id).blk) hT hm (E:=(E.at m).keyed ky) hETk (kK (E:=(E.at m).keyed ky) hSk (ih R W0).1 (ih R W0).2 n) (C9 (E:=(E.at m).keyed ky) hSk fun W=>(ih bG W).1) (ih R W0).1 (kK (E:=(E.at m).keyed ky) hSk (ih St W0).1 (ih St W0).2 n) (kK (E:=(E.at m).keyed ky) hSk (ih Unit W0).1 (ih Unit W0).2 n) (Zl hSk) bd hlob _ _ c2 _ _ h1 hr3 hm2.size fun e c3 st3 a3 h3 hr4 hm3=> ?_;refine YQ ?_;split at h3
      ·rename_i id3 stk3 hs3
       split at h3
       ·rename_i f3 fr3 ps3 asg3 bd3 ky3 hg3
        have hstk:=hr4.stk;rw[hs3]at hstk;obtain⟨hy3,hstk⟩:=hstk;simp only[bF,and_true]at hy3;have hg3':=hg3;rw[<-hr4.hp]at hg3';obtain⟨hky3,hB3,L3,hL3,hv3,w1,w2,w3,w4⟩:=hr4.ok.obj id3 _ hg3';simp only[bJ]at hy3;have hblk3:(c.mu id).blk=(c3.mu id3).blk:=by simp_all
        have hend:=run_endRound (P:=P) (w:=c3.w) e.code hL3;rw[<-hblk3]at hend;refine⟨_,_,hend, ?_⟩;rw[hblk3];cases e with
        |normal=>
         obtain⟨c4,g1,g2,g3,g4,g5,g6⟩:=Iq hr4.ok hg3' hL3 {L3 with state:=.ready,pending:=none} (o':=.lp f3 fr3 ps3 asg3 bd3 ky3 0 none) (.inr ⟨0,none,rfl,⟨rfl,rfl⟩,rfl,rfl,rfl,rfl⟩);have hm4:c.Mono c4:=(hm2.trans hm3).trans g3.mono;obtain⟨c5,st5,k1,k2,k3,k4,k5⟩:=CZ (v:=.undef) (u:=undef) hr g4 (st1:={st3 with fr:=[],stk:=stk3,hp:=iV st3.hp id3 (.lp f3 fr3 ps3 asg3 bd3 ky3 0 none)}) (g1.trans (by rw[hr4.hp])) (g2.trans hr4.nxt) rfl (Cc.le g3 _ _ hstk) hm4 (by simp[bJ]) (K:=fun _=>K (.val .bool true)) h3;have:=hR c5 (.val .bool true) (.bool true) st5 k1 k2 (by simp only[bJ];exact VD.bool_mk) k4;rw[k5,g5]at this;exact this
        |exit i=>
         obtain⟨c4,g1,g2,g3,g4,g5,g6⟩:=Iq hr4.ok hg3' hL3 {L3 with state:=.done,pending:=some (.exit i)} (o':=.lp f3 fr3 ps3 asg3 bd3 ky3 1 (some (.exit i))) (.inr ⟨1,some (.exit i),rfl,⟨rfl,rfl,by simp[Ex.code]⟩,rfl,rfl,rfl,rfl⟩);have hm4:c.Mono c4:=(hm2.trans hm3).trans g3.mono;obtain⟨c5,st5,k1,k2,k3,k4,k5⟩:=CZ (v:=.undef) (u:=undef) hr g4 (st1:={st3 with fr:=[],stk:=stk3,hp:=iV st3.hp id3 (.lp f3 fr3 ps3 asg3 bd3 ky3 1 (some (.exit i)))}) (g1.trans (by rw[hr4.hp])) (g2.trans hr4.nxt) rfl (Cc.le g3 _ _ hstk) hm4 (by simp[bJ]) (K:=fun _=>K (.val .bool false)) h3;have:=hR c5 (.val .bool false) (.bool false) st5 k1 k2 (by simp only[bJ];exact VD.bool_mk) k4;rw[k5,g5]at this;exact this
        |goto l=>
         obtain⟨c4,g1,g2,g3,g4,g5,g6⟩:=Iq hr4.ok hg3' hL3 {L3 with state:=.done,pending:=some (.goto l)} (o':=.lp f3 fr3 ps3 asg3 bd3 ky3 1 (some (.goto l))) (.inr ⟨1,some (.goto l),rfl,⟨rfl,rfl,by simp[Ex.code]⟩,rfl,rfl,rfl,rfl⟩);have hm4:c.Mono c4:=(hm2.trans hm3).trans g3.mono;obtain⟨c5,st5,k1,k2,k3,k4,k5⟩:=CZ (v:=.undef) (u:=undef) hr g4 (st1:={st3 with fr:=[],stk:=stk3,hp:=iV st3.hp id3 (.lp f3 fr3 ps3 asg3 bd3 ky3 1 (some (.goto l)))}) (g1.trans (by rw[hr4.hp])) (g2.trans hr4.nxt) rfl (Cc.le g3 _ _ hstk) hm4 (by simp[bJ]) (K:=fun _=>K (.val .bool false)) h3;have:=hR c5 (.val .bool false) (.bool false) st5 k1 k2 (by simp only[bJ];exact VD.bool_mk) k4;rw[k5,g5]at this;exact this
        |ret=>
         obtain⟨c4,g1,g2,g3,g4,g5,g6⟩:=Iq hr4.ok hg3' hL3 {L3 with state:=.done,pending:=some (.ret)} (o':=.lp f3 fr3 ps3 asg3 bd3 ky3 1 (some .ret)) (.inr ⟨1,some .ret,rfl,⟨rfl,rfl,by simp[Ex.code]⟩,rfl,rfl,rfl,rfl⟩);have hm4:c.Mono c4:=(hm2.trans hm3).trans g3.mono;obtain⟨c5,st5,k1,k2,k3,k4,k5⟩:=CZ (v:=.undef) (u:=undef) hr g4 (st1:={st3 with fr:=[],stk:=stk3,hp:=iV st3.hp id3 (.lp f3 fr3 ps3 asg3 bd3 ky3 1 (some .ret))}) (g1.trans (by rw[hr4.hp])) (g2.trans hr4.nxt) rfl (Cc.le g3 _ _ hstk) hm4 (by simp[bJ]) (K:=fun _=>K (.val .bool false)) h3;have:=hR c5 (.val .bool false) (.bool false) st5 k1 k2 (by simp only[bJ];exact VD.bool_mk) k4;rw[k5,g5]at this;exact this
       ·cases h3
      ·cases h3
     ·cases h1
    ·cases h1
   |exit i=>simp at h1
   |goto l=>simp at h1
   |ret=>simp at h1
  ·cases h
 ·cases h
theorem Hg (hT:TOk P T) (hm:P.follows .mixedOrders=true) (hng:IK P) {E:Env} (hEP:E.P=P) (hET:E.T=T) (hS:vZ P E) (hlo:rO P E) (hrf:ac9 E): ∀(m:Nat) (R:Type) (W0:World),uD P W0 (lF E m (R:=R))/\CW P W0 (lF E m (R:=R))
 |0,R,W0=>⟨fun f args st K r h=>by simp[lF]at h,fun id args st K r h=>by simp[lF]at h⟩
 |m+1,R,W0=>⟨aj9 hT hm hng hEP hET hS hlo hrf (Hg hT hm hng hEP hET hS hlo hrf m),adN hT hm hng hEP hET hS hlo hrf (Hg hT hm hng hEP hET hS hlo hrf m)⟩
end
end
section
open Bool renaming and_eq_true → af
open List renaming mem_cons_of_mem → aj
open Nat renaming le_refl → ae
open Go.RowKit
def oh (c:Cx):(ps:List Ty)->(ps.foldr Ty.pair Ty.unit).den->List Value->Prop
 |[],_,us=>us=[]
 |t::ps,x,us=> ∃u us',us=u::us'/\VD c t x.1 u/\oh c ps x.2 us'
def kJ (w:World) (bar:Nat->Prop):Cx:=⟨fun _=>⟨0,undef⟩,[],0,w,[],bar⟩
def Fq (rs:List (Ty×Bool)) (y:((rs.map (·.1)).foldr Ty.pair Ty.unit).den):gz:=
 match xR rs y with
 |some ⟨e,xs⟩=>[(0,.arr e 0 xs)]
 |none=>[]
def Aw (w:World) (bar:Nat->Prop) (rs:List (Ty×Bool)) (y:((rs.map (·.1)).foldr Ty.pair Ty.unit).den):Ending->World->Prop:=fun e w'=>
 ∃(c':Cx) (us:List Value),e=.returned (N8 us)/\c'.w=w'/\c'.Ok w/\c'.bar=bar/\c'.mks=[]/\c'.hp=Fq rs y/\bF c' (oI 0 rs y) us
def dU (P:Program) (g:FuncId) (s:Sum):Prop:=
 ∀(w:World) (bar:Nat->Prop) (args':Array Value) x y,Phi w->(∀b,bar b->b<w.heap.size)->oh (kJ w bar) s.ps x args'.toList->s.f x=some y->
  ((callFunc g args').run P w=.ok (.enter g args') w/\Calls P g args' w (Aw w bar s.rs y))\/ ∃u,(callFunc g args').run P w=.ok (.value u) w/\Aw w bar s.rs y (.returned u) w
section
variable {P:Program} {T:TT} {W0:World} {b0:Nat} {rd:Option Nat} {R:Type} {r:R} {c:Cx} {ats:List (Array Value)}
theorem G6 {w:World} {bar:Nat->Prop} {b:Nat}:(kJ w bar).free b↔b<w.heap.size/\ ¬bar b:=by
 constructor
 ·intro h;exact⟨h.1,h.2.2.2⟩
 ·rintro ⟨h1,h2⟩;exact⟨h1,(by rintro ⟨i,o,h,_⟩;simp[kJ,dH]at h),by simp[kJ],h2⟩
theorem afF (hok:c.Ok W0) {cb:Cx} (hs:alY c cb) {t:Ty} {v:bG} {x:t.den} {u:Value} (h:v.as c.hp t=some x) (hv:bJ c v u):VD cb t x u:=by
 have hmono: ∀{t:Ty} {x:t.den} {u:Value},VD c t x u->VD cb t x u:=fun {t x u} hv=>
  ⟨fun e=>let⟨cs,h1,h2⟩:=hv.1 e;⟨cs,h1,eY.mono (fun b hb=>hs b hb.1) t x _ h2⟩,fun e=>eY.mono (fun b hb=>hs b hb.1) t x _ (hv.2 e)⟩
 cases v with
 |val t' z=>
  grind [bG.as,iF,gp,bJ]
 |nils=>
  cases t with
  |list e=>grind [E8]
  |_=>simp[bG.as]at h
 |lst t' z b=>
  simp only[bG.as]at h;have e:=iF h;subst e;simp_all [gp,bJ]
 |emp=>
  cases t with
  |list e=>grind [E8]
  |_=>simp[bG.as]at h
 |slc id ver vw=>
  cases t with
  |list e=>grind [E8]
  |_=>simp[bG.as]at h
 |agg l=>
  simp only[bG.as]at h;rw[cond_eq_ite]at h;split at h
  ·rename_i ha
   simp only[bJ]at hv;obtain⟨vs,rfl,h1,h2⟩:=hv;exact hmono ((VD.agg ha).2 ⟨vs,rfl,nS h h1⟩)
  ·cases h
 |_=>simp[bG.as]at h
theorem IL {cb:Cx} (hs: ∀b,c.free b->cb.free b/\cb.w.heap[b]? =c.w.heap[b]?) {t:Ty} {v:bG} {x:t.den} {u:Value} (hno:mr v=false) {hp:gz} (h:v.as hp t=some x) (hv:bJ c v u):VD cb t x u:=by
 cases v with
 |val t' z=>
  simp only[bG.as]at h;have e:=iF h;subst e;rw[gp]at h;cases h;simp only[bJ]at hv;exact⟨fun e=>let⟨cs,h1,h2⟩:=hv.1 e;⟨cs,h1,eY.mono hs t' _ _ h2⟩,fun e=>eY.mono hs t' _ _ (hv.2 e)⟩
 |nils=>
  cases t with
  |list e=>
   simp only[bG.as,Option.some.injEq]at h;subst h;simp only[bJ]at hv;subst hv;exact(VD.leaf rfl).2 ⟨none,0,[],rfl,ae _,rfl,.inl rfl⟩
  |_=>simp[bG.as]at h
 |lst t' z b=>
  simp only[bG.as]at h;have e:=iF h;subst e;rw[gp]at h;cases h;simp only[bJ]at hv;exact⟨fun e=>let⟨cs,h1,h2⟩:=hv.1.1 e;⟨cs,h1,eY.mono hs _ _ _ h2⟩,fun e=>eY.mono hs _ _ _ (hv.1.2 e)⟩
 |emp=>
  cases t with
  |list e=>
   simp only[bG.as,Option.some.injEq]at h;subst h;simp only[bJ]at hv;obtain⟨a,rfl⟩:=hv;exact(VD.leaf rfl).2 ⟨a,0,[],rfl,ae _,rfl,.inl rfl⟩
  |_=>simp[bG.as]at h
 |slc id ver vw=>simp[mr]at hno
 |agg l=>simp[mr]at hno
 |_=>simp[bG.as]at h
theorem zx {cb:Cx} {hp:gz}: ∀(ps:List Ty) (args:List bG) x (us:List Value),zu hp ps args=some x->bF c args us->
  (∀(t:Ty) (v:bG) (x:t.den) (u:Value),v∈args->v.as hp t=some x->bJ c v u->VD cb t x u)->oh cb ps x us
 |[],[],x,[],h,_,_=>rfl
 |t::ps,v::args,x,u::us,h,hv,ha=>by
  simp only[zu]at h;split at h
  ·rename_i x1 h1
   split at h
   ·rename_i y1 h2
    cases h;simp only[bF]at hv;exact⟨u,us,rfl,ha t v x1 u (by simp) h1 hv.1,zx ps args y1 us h2 hv.2 fun t v x u hm=>ha t v x u (aj _ hm)⟩
   ·cases h
  ·cases h
 |[],[],_,_::_,_,hv,_=>by simp[bF]at hv
 |[],_::_,_,_,h,_,_=>by simp[zu]at h
 |_::_,[],_,_,h,_,_=>by simp[zu]at h
 |_::_,_::_,_,[],_,hv,_=>by simp[bF]at hv
theorem VD.move {c' c2:Cx} (hw:c2.w=c'.w) {t:Ty} {x:t.den} {u:Value} (h:(∀b,c'.free b->c2.free b)\/t.rigid=true) (hv:VD c' t x u):VD c2 t x u:=by
 rcases h with h|h
 ·exact⟨fun e=>let⟨cs,h1,h2⟩:=hv.1 e;⟨cs,h1,eY.mono (fun b hb=>⟨h b hb,by rw[hw]⟩) t x _ h2⟩,fun e=>eY.mono (fun b hb=>⟨h b hb,by rw[hw]⟩) t x _ (hv.2 e)⟩
 simp_all [VD.rigid]
theorem fQ.move {c' c2:Cx} (hw:c2.w=c'.w) {e:Ty} {xs:List e.den} {zs:List Value} (h:(∀b,c'.free b->c2.free b)\/e.rigid=true) (hv:fQ (eY c'.w c'.free e) e.size xs zs):fQ (eY c2.w c2.free e) e.size xs zs:=by
 grind [fQ.mono,eY.mono,ug]
theorem FY {c' c2:Cx} (hw:c2.w=c'.w) (id:Nat): ∀(rs:List (Ty×Bool)) y (us:List Value),(∀t∈rs,(∀b,c'.free b->c2.free b)\/t.1.rigid=true\/t.2=true)->
  (news rs=0\/ ∀u,bJ c' (.slc 0 0 none) u->bJ c2 (.slc id 0 none) u)->bF c' (oI 0 rs y) us->bF c2 (oI id rs y) us
 |[],y,[],_,_,_=>by simp[oI,bF]
 |[],y,_::_,_,_,hv=>by assumption
 |(t,false)::rs,y,us,h,hn,hv=>by
  cases us with
  |nil=>assumption
  |cons u us=>
   simp only[oI,bF,bJ]at hv ⊢;refine⟨VD.move hw ?_ hv.1,FY hw id rs y.2 us (fun t ht=>h t (aj _ ht)) hn hv.2⟩;simp_all
 |(t,true)::rs,y,us,h,hn,hv=>by
  cases us with
  |nil=>assumption
  |cons u us=>
   simp only[oI,bF]at hv ⊢;rcases hn with hn|hn
   ·simp[news]at hn
   ·exact⟨hn u hv.1,FY hw id rs y.2 us (fun t ht=>h t (aj _ ht)) (.inr hn) hv.2⟩
theorem acY {c':Cx}: ∀(rs:List (Ty×Bool)) y (us:List Value),news rs≠0->bF c' (oI 0 rs y) us-> ∃u,bJ c' (.slc 0 0 none) u
 |[],y,us,h,_=>by simp[news]at h
 |(t,false)::rs,y,us,h,hv=>by
  cases us with
  |nil=>simp[oI,bF]at hv
  |cons u us=>
   simp only[oI,bF]at hv;exact acY rs y.2 us (by simpa [news] using h) hv.2
 |(t,true)::rs,y,us,h,hv=>by
  cases us with
  |nil=>simp[oI,bF]at hv
  |cons u us=>
   grind [oI,bF]
theorem Ns: ∀(rs:List (Ty×Bool)) y {e:Ty} {xs:List e.den},xR rs y=some ⟨e,xs⟩->(rs.all fun r=>r.1.rigid||(r.2&&r.1.elem.rigid))=true->e.rigid=true
 |[],y,e,xs,h,_=>by simp[xR]at h
 |(t,false)::rs,y,e,xs,h,ha=>by
  simp only[xR]at h;simp only[List.all_cons,af]at ha;exact Ns rs y.2 h ha.2
 |(t,true)::rs,y,e,xs,h,ha=>by
  cases t with
  |list e'=>
   simp only[xR,Option.some.injEq,Sigma.mk.injEq]at h;obtain⟨rfl,_⟩:=h;simp_all [Ty.rigid,Ty.elem]
  |_=>simp[xR]at h
theorem ar0 {c':Cx} (hok:c.Ok W0) (hok':c'.Ok c.w) (hbar:c'.bar=fun b=>b<c.w.heap.size/\ ¬c.free b) {b:Nat} (hb:c'.free b):(c.at_ c'.w).free b:=by
 refine⟨hb.1, ?_⟩;by_cases hlt:b<c.w.heap.size
 ·have h1:=hb.2.2.2;rw[hbar]at h1;have h2:c.free b:=Classical.byContradiction fun h=>h1 ⟨hlt,h⟩;exact h2.2
 ·refine⟨fun ho=>hlt (hok.own_lt ho).2,fun hm=>hlt (hok.mark_lt hm),fun hb2=>hlt (hok.bar b hb2).1⟩
theorem acV {s:Sum} {cl:Bool} {args:List bG} {dst:Option Nat} {st:St} {K:bG->St->Option R} (h:s.call cl args dst st K=some r):
    ((s.rs.all fun r=>r.1.rigid||(r.2&&r.1.elem.rigid))=true\/args.any mr=false)/\ ∃x y,zu st.hp s.ps args=some x/\s.f x=some y/\
      ((xR s.rs y=none/\news s.rs=0/\K (LQ (oI 0 s.rs y)) st=some r)\/
       (∃e xs id n',xR s.rs y=some ⟨e,xs⟩/\news s.rs=1/\dH st.hp id=none/\st.nxt<=id/\st.nxt<=n'/\K (LQ (oI id s.rs y)) {st with hp:=(id,.arr e 0 xs)::st.hp,nxt:=n'}=some r)):=by
  unfold Sum.call at h;rw[cond_eq_ite]at h;split at h
  · rename_i hc
    refine⟨by simpa using hc, ?_⟩;split at h
    · rename_i x hx
      cases hy:s.f x with
      |none=>rw[hy]at h;cases h
      |some y=>
        rw[hy]at h;simp only[bz]at h;refine⟨x,y,hx,hy, ?_⟩;split at h
        · simp_all [cond_eq_ite]
        · rename_i e xs hn
          rw[cond_eq_ite]at h;split at h
          · rename_i h0
            obtain⟨id,n',h1,h2,h3,h4⟩:=iW h;exact .inr ⟨e,xs,id,n',hn,by simpa using h0,h1,h2,h3,h4⟩
          · cases h
    · cases h
  · cases h
end
end
section
open Bool renaming and_eq_true → af, not_eq_true' → aW
open List renaming mem_cons_of_mem → aj, map_cons → ax
open Nat renaming le_refl → ae, eq_of_beq_eq_true → ak, le_trans → aO, lt_of_lt_of_le → aZ
open Go.RowKit
section
variable {P:Program} {T:TT} {W0:World} {b0:Nat} {rd:Option Nat} {R:Type} {r:R} {c:Cx} {ats:List (Array Value)}
theorem Cx.many {c2:Cx} (hc:c.Ok W0) (S:Nat->Prop) (hmks:c2.mks=c.mks) (hbar:c2.bar=c.bar) (hnxt:c2.nxt=c.nxt)
  (hsame: ∀i,¬S i->dH c2.hp i=dH c.hp i/\c2.mu i=c.mu i)
  (htouch: ∀i,S i-> ∃o o',dH c.hp i=some o/\dH c2.hp i=some o'/\o.like (c.mu i) o' (c2.mu i)/\ ∀f fr ps iY bd ky n p,o≠ .lp f fr ps iY bd ky n p)
  (hw:Below W0.heap.size W0 c2.w) (hs:c.w.heap.size<=c2.w.heap.size)
  (hblk: ∀b,b<c.w.heap.size->(∀i o,S i->dH c.hp i=some o->o.blk (c.mu i)≠some b)->c2.w.heap[b]? =c.w.heap[b]?)
  (hnew: ∀i o' b,S i->dH c2.hp i=some o'->o'.blk (c2.mu i)=some b->c.w.heap.size<=b\/ ∃j o,S j/\dH c.hp j=some o/\o.blk (c.mu j)=some b)
  (hinj: ∀i j o' p' b,S i->S j->dH c2.hp i=some o'->dH c2.hp j=some p'->o'.blk (c2.mu i)=some b->p'.blk (c2.mu j)=some b->i=j)
  (hlp: ∀(b:Nat) (L:Loop) (i:Nat) o,S i->dH c.hp i=some o->o.blk (c.mu i)=some b->c.w.heap[b]? ≠some (Obj.loop L)):
  c.Le c2/\((∀i o',S i->dH c2.hp i=some o'->c2.ORel W0.heap.size i o')->c2.Ok W0):=by
 have hle:c.Le c2:=by
  refine⟨fun b hb=>⟨⟨aZ hb.1 hs, ?_,by rw[hmks];exact hb.2.2⟩,hblk b hb.1 fun i o _ h1 h2=>hb.2.1 ⟨i,o,h1,h2⟩⟩,fun i hi=> ?_,fun i o' hi ho=> ?_,fun r hr=>by rw[hmks];exact hr,fun b L hL=> ?_,hs,hbar⟩
  ·rintro ⟨i,o',h1,h2⟩;by_cases hS:S i
   ·rcases hnew i o' b hS h1 h2 with h3|⟨j,o,_,h3,h4⟩
    ·have:=hb.1;omega
    ·exact hb.2.1 ⟨j,o,h3,h4⟩
   ·obtain⟨h3,h4⟩:=hsame i hS;rw[h3]at h1;rw[h4]at h2;exact hb.2.1 ⟨i,o',h1,h2⟩
  ·by_cases hS:S i
   ·obtain⟨o,o',_,h2,_⟩:=htouch i hS;exact .inl ⟨o',h2⟩
   ·rcases hi with ⟨o,ho⟩|hi
    ·exact .inl ⟨o,by simp_all⟩
    ·exact .inr (by rw[hnxt];exact hi)
  ·by_cases hS:S i
   ·grind
   ·obtain⟨h3,h4⟩:=hsame i hS;rw[h3]at ho;exact⟨o',ho,by rw[h4];exact o'.like_refl _⟩
  grind
 refine⟨hle,fun hO=>⟨hw,fun i o' ho=> ?_,fun i j o' p' b h1 h2 h3 h4=> ?_,fun r hr=> ?_,fun b hb=> ?_,hc.phi⟩⟩
 ·by_cases hS:S i
  ·exact hO i o' hS ho
  ·obtain⟨h3,h4⟩:=hsame i hS;rw[h3]at ho;refine(hc.obj i o' ho).le hle h4 fun b hb=>hblk b ((hc.obj i o' ho).lt hb).2 fun j o hS2 h5 h6=> ?_;have:=hc.inj j i o o' b h5 ho h6 hb;simp_all
 ·have old: ∀i o' b,¬S i->dH c2.hp i=some o'->o'.blk (c2.mu i)=some b->dH c.hp i=some o'/\o'.blk (c.mu i)=some b:=fun i o' b hS h1 h2=>by
   simp_all
  have mixed: ∀i j o' p' b,S i-> ¬S j->dH c2.hp i=some o'->dH c2.hp j=some p'->o'.blk (c2.mu i)=some b->p'.blk (c2.mu j)=some b->False:=fun i j o' p' b h1 h2 h3 h4 h5 h6=>by
   obtain⟨h7,h8⟩:=old j p' b h2 h4 h6;rcases hnew i o' b h1 h3 h5 with h9|⟨k,o,hk,h9,h10⟩
   ·have:=((hc.obj j p' h7).lt h8).2;omega
   ·have:=hc.inj k j o p' b h9 h7 h10 h8;simp_all
  by_cases hi:S i<;>by_cases hj:S j
  ·grind
  ·grind
  ·grind
  ·obtain⟨q1,q2⟩:=old i o' b hi h1 h3;obtain⟨q3,q4⟩:=old j p' b hj h2 h4;exact hc.inj i j o' p' b q1 q3 q2 q4
 ·rw[hmks]at hr;exact⟨(hc.mks r hr).1,(hblk r (hc.mark_lt hr) fun i o hS h1 h2=>hc.mark_own hr ⟨i,o,h1,h2⟩).trans (hc.mks r hr).2⟩
 ·rw[hbar]at hb;exact(hle.out b (hc.bar b hb)).1
theorem avo {size:Nat} {s u:Value} {vw:Option (Int×Int)} (h:iT size s vw u) {b off n cp:Nat} (hu:u=.slice (some ⟨b,off,none⟩) n cp):s.ownBlock=some b:=by
 subst hu;cases vw with
 |none=>simp only[iT]at h;subst h;rfl
 |some p=>
  obtain⟨lo,hi⟩:=p;simp only[iT]at h;obtain⟨a,m,q,rfl,_,_,_,h4⟩:=h;have h5:(some ⟨b,off,none⟩:Option Addr)=if q=lo.toNat then a else a.map (·.add (lo.toNat*size)):=by injection h4
  split at h5
  ·subst h5;rfl
  ·cases a with
   |none=>cases h5
   |some a=>
    simp only[Option.map_some,Option.some.injEq]at h5;have:=congrArg Addr.block h5
    grind [Value.ownBlock,Addr.add]
theorem ade (hok:c.Ok W0) {cb:Cx} (hs: ∀b,c.free b->cb.free b/\cb.w.heap[b]? =c.w.heap[b]?) {t:Ty} {v:bG} {x:t.den} {u:Value}
  (ho: ∀id ver vw,v=.slc id ver vw-> ∀o b,dH c.hp id=some o->o.blk (c.mu id)=some b->cb.free b/\cb.w.heap[b]? =c.w.heap[b]?) (h:v.as c.hp t=some x) (hv:bJ c v u):VD cb t x u:=by
 cases hno:mr v with
 |false=>exact IL hs hno h hv
 |true=>
  cases v with
  |slc id ver vw=>
   cases t with
   |list e=>
    obtain⟨a,cp,zs,h1,h2,h3⟩:=RI hok h hv;have h4:=YZ hok h hv h1;have h5: ∃t xs,dH c.hp id=some (.arr t ver xs):=by
     simp only[bG.as,AP]at h
     grind
    obtain⟨t',xs',harr⟩:=h5;simp only[bJ]at hv;have hview:=(hv.2.2 _ _ _ harr).2 rfl;refine(VD.leaf rfl).2 ⟨a,cp,zs,by rw[h1],h4,fQ.mono (eY.mono hs e) _ _ h2,h3.imp (fun h=>h) fun⟨b,off,q1,q2,q4,q3⟩=> ?_⟩;have hb:=avo hview (b:=b) (off:=off) (n:=x.length) (cp:=cp) (by rw[h1,q1]);obtain⟨p1,p2⟩:=ho id ver vw rfl _ b harr (by assumption);exact⟨b,off,q1,p1,q3.of_block p2⟩
   |_=>simp[bG.as]at h
  |agg l=>
   simp only[bG.as]at h;replace h:=di h;obtain⟨ha,h⟩:=h;simp only[bJ]at hv;obtain⟨vs,rfl,h1,h2⟩:=hv;have:=(VD.agg ha).2 ⟨vs,rfl,nS h h1⟩;exact⟨fun e=>let⟨cs,h1,h2⟩:=this.1 e;⟨cs,h1,eY.mono hs _ _ _ h2⟩,fun e=>eY.mono hs _ _ _ (this.2 e)⟩
  |_=>simp[mr]at hno
theorem DU: ∀{l:List Nat},QV l=true->l.Nodup
 |[],_=>List.nodup_nil
 |i::l,h=>by
  simp only[QV,af,aW]at h;refine List.nodup_cons.2 ⟨fun hm=> ?_,DU h.2⟩;have:Xt l i=true:=List.any_eq_true.2 ⟨i,hm,by simp⟩;simp_all
theorem Vo {hp:gz} {b:Bool}: ∀(cs:List (Ty×Bool)) (cells:List bG) {x},jF hp b cs cells=some x-> ∀n,(iU cs n).length=(nU cs cells).length:=by
 intro cs
 induction cs with
 |nil=>intro cells x h n;cases cells<;>rfl
 |cons tc cs ih=>
  intro cells x h n;obtain⟨t,o⟩:=tc;cases cells with
  |nil=>simp_all [jF]
  |cons v cells=>
   cases o with
   |false=>
    simp only[jF]at h;rw[cond_eq_ite]at h
    grind [iU,nU]
   |true=>
    cases t with
    |list e=>
     cases v with
     |slc id ver vw=>
      cases vw with
      |none=>
       simp only[jF]at h;split at h
       ·replace h:=di h;grind [iU,nU]
       ·cases h
      |some p=>simp[jF]at h
     |_=>simp[jF]at h
    |_=>simp[jF]at h
theorem EQ: ∀(cs:List (Ty×Bool)) (n:Nat),∀p∈iU cs n,n<=p.1
 |[],n,p,h=>by simp[iU]at h
 |(_,true)::cs,n,p,h=>by
  simp only[iU,List.mem_cons]at h;rcases h with rfl|h
  ·exact ae _
  ·exact aO (Nat.le_succ n) (EQ cs (n+1) p h)
 |(_,false)::cs,n,p,h=>EQ cs n p h
theorem uF: ∀(cs:List (Ty×Bool)) (n:Nat),((iU cs n).map (·.1)).Nodup
 |[],n=>List.nodup_nil
 |(_,true)::cs,n=>by
  simp only[iU,ax];refine List.nodup_cons.2 ⟨fun h=> ?_,uF cs (n+1)⟩;obtain⟨p,h1,h2⟩:=List.mem_map.1 h;have:=EQ cs (n+1) p h1;omega
 |(_,false)::cs,n=>uF cs n
theorem Ve {hp:gz} {b:Bool}: ∀(cs:List (Ty×Bool)) (cells:List bG) (ids:List (Nat×Nat)) {x},jF hp b cs cells=some x->ids.length=(nU cs cells).length-> ∀i' o,(i',o)∈sU cs ids x->
  ∃(k i v v':Nat) (e:Ty) (xs:List e.den),(nU cs cells)[k]? =some (i,v)/\ids[k]? =some (i',v')/\o=.arr e v' xs/\dH hp i=some (.arr e v xs)/\(.list e,true)∈cs:=by
 intro cs
 induction cs with
 |nil=>simp_all [sU]
 |cons tc cs ih=>
  intro cells ids x h hl i' o hm;obtain⟨t,ob⟩:=tc;cases cells with
  |nil=>simp_all [jF]
  |cons v cells=>
   cases ob with
   |false=>
    simp only[jF]at h;rw[cond_eq_ite]at h
    grind [nU,sU]
   |true=>
    cases t with
    |list e=>
     cases v with
     |slc id ver vw=>
      cases vw with
      |none=>
       simp only[jF]at h;split at h
       ·rename_i t' v1 xs hg
        replace h:=di h;obtain⟨hver,h⟩:=h;have hver:v1=ver:=by simpa using hver
        subst hver;split at h
        ·rename_i x1 hx1
         split at h
         ·rename_i y1 h2
          cases h;have ee:=iF hx1;cases ee;rw[gp]at hx1;cases hx1;cases ids with
          |nil=>simp[nU]at hl
          |cons p ids=>
           obtain⟨i0,v0⟩:=p;simp only[sU,List.mem_cons]at hm;rcases hm with hm|hm
           ·cases hm;exact⟨0,id,v1,v0,_,x1,by simp[nU],by simp,rfl,hg,by simp⟩
           ·obtain⟨k,i,v,v',e,xs,q1,q2,q3,q4,q5⟩:=ih cells ids h2 (by simpa [nU] using hl) i' o hm;exact⟨k+1,i,v,v',e,xs,by simpa [nU] using q1,by simpa using q2,q3,q4,aj _ q5⟩
         ·cases h
        ·cases h
       ·cases h
      |some p=>simp[jF]at h
     |_=>simp[jF]at h
    |_=>simp[jF]at h
theorem XD {hp:gz} {b:Bool}: ∀(cs:List (Ty×Bool)) (cells:List bG) (ids:List (Nat×Nat)) {x},jF hp b cs cells=some x-> ∀(k i v i' v':Nat),(nU cs cells)[k]? =some (i,v)->ids[k]? =some (i',v')->
  ∃e xs,dH hp i=some (.arr e v xs)/\(i',dD.arr e v' xs)∈sU cs ids x:=by
 intro cs
 induction cs with
 |nil=>simp_all [nU]
 |cons tc cs ih=>
  intro cells ids x h k i v i' v' h1 h2;obtain⟨t,ob⟩:=tc;cases cells with
  |nil=>simp_all [jF]
  |cons u cells=>
   cases ob with
   |false=>
    simp only[jF]at h;rw[cond_eq_ite]at h
    grind [nU,sU]
   |true=>
    cases t with
    |list e=>
     cases u with
     |slc id ver vw=>
      cases vw with
      |none=>
       simp only[jF]at h;split at h
       ·rename_i t' v1 xs hg
        replace h:=di h;obtain⟨hver,h⟩:=h;have hver:v1=ver:=by simpa using hver
        subst hver;split at h
        ·rename_i x1 hx1
         split at h
         ·rename_i y1 h3
          cases h;have ee:=iF hx1;cases ee;rw[gp]at hx1;cases hx1;cases ids with
          |nil=>simp at h2
          |cons p ids=>
           obtain⟨i0,v0⟩:=p;cases k with
           |zero=>
            simp only[nU,List.getElem?_cons_zero,Option.some.injEq,Prod.mk.injEq]at h1 h2;obtain⟨rfl,rfl⟩:=h1;obtain⟨rfl,rfl⟩:=h2
            grind [sU]
           |succ k=>
            grind [nU,sU]
         ·cases h
        ·cases h
       ·cases h
      |some p=>simp[jF]at h
     |_=>simp[jF]at h
    |_=>simp[jF]at h
theorem ZQ {c':Cx} {b:Bool}: ∀(cs:List (Ty×Bool)) (cells:List bG) (ids:List (Nat×Nat)) {x} (vs:List Value),jF c.hp b cs cells=some x->bF c cells vs->ids.length=(nU cs cells).length->
  (∀(k i v i' v':Nat),(nU cs cells)[k]? =some (i,v)->ids[k]? =some (i',v')-> ∀e xs,dH c.hp i=some (.arr e v xs)->dH c'.hp i'=some (.arr e v' xs)/\(c'.mu i').v=(c.mu i).v)->
  (∀t v x u,(t,false)∈cs->(b=true->mr v=false\/t.rigid=true)->(∀i∈refs v,i∈sZ cs cells)->v.as c.hp t=some x->bJ c v u->VD c' t x u)->bF c' (F6 cs ids x) vs:=by
 intro cs
 induction cs with
 |nil=>
  grind [F6,bF,jF]
 |cons tc cs ih=>
  intro cells ids x vs h hv hl hi hd;obtain⟨t,ob⟩:=tc;cases cells with
  |nil=>simp_all [jF]
  |cons v cells=>
   cases vs with
   |nil=>simp[bF]at hv
   |cons u vs=>
    simp only[bF]at hv;cases ob with
    |false=>
     simp only[jF]at h;rw[cond_eq_ite]at h;split at h
     ·cases h
     ·rename_i hno
      split at h
      ·rename_i x1 hx1
       split at h
       ·rename_i y1 h2
        cases h;simp only[F6,bF,bJ];refine⟨hd t v x1 u (by simp) (fun hb=> ?_) (fun i hi=>by simp[sZ,hi]) hx1 hv.1,ih cells ids vs h2 hv.2 (by simpa [nU] using hl) (fun k i v i' v' q1 q2=>hi k i v i' v' (by simpa [nU] using q1) q2) fun t v x u q1 q2 q3=>hd t v x u (aj _ q1) q2 fun i hi=>by simp[sZ,q3 i hi]⟩
        grind
       ·cases h
      ·cases h
    |true=>
     cases t with
     |list e=>
      cases v with
      |slc id ver vw=>
       cases vw with
       |none=>
        simp only[jF]at h;split at h
        ·rename_i t' v1 xs hg
         replace h:=di h;obtain⟨hver,h⟩:=h;have hver:v1=ver:=by simpa using hver
         subst hver;split at h
         ·rename_i x1 hx1
          split at h
          ·rename_i y1 h2
           cases h;have ee:=iF hx1;cases ee;rw[gp]at hx1;cases hx1;cases ids with
           |nil=>simp[nU]at hl
           |cons p ids=>
            obtain⟨i0,v0⟩:=p;simp only[F6,bF];obtain⟨q1,q2⟩:=hi 0 id v1 i0 v0 (by simp[nU]) (by simp) _ _ hg;refine⟨?_,ih cells ids vs h2 hv.2 (by simpa [nU] using hl) (fun k i v i' v' q1 q2=>hi (k+1) i v i' v' (by simpa [nU] using q1) (by simpa using q2)) fun t v x u q1 q2 q3=>hd t v x u (aj _ q1) q2 fun i hi=>by simp_all [sZ]⟩;have h1:=hv.1;simp only[bJ]at h1 ⊢;refine⟨h1.1,.inl ⟨_,q1⟩,fun t u xs' hh=> ?_⟩;simp_all
          ·cases h
         ·cases h
        ·cases h
       |some p=>simp[jF]at h
      |_=>simp[jF]at h
     |_=>simp[jF]at h
theorem Kz: ∀(cs:List (Ty×Bool)) (ids:List (Nat×Nat)) (x),List.Sublist ((sU cs ids x).map (·.1)) (ids.map (·.1)):=by
 intro cs
 induction cs with
 |nil=>grind [sU]
 |cons tc cs ih=>
  intro ids x;obtain⟨t,o⟩:=tc;cases o with
  |false=>simp_all [sU]
  |true=>
   cases t with
   |list e=>
    cases ids with
    |nil=>grind [sU]
    |cons p ids=>
     simp_all [sU]
   |_=>simp_all [sU]
theorem Na: ∀(h:gz) (i:Nat) (o:dD),(h.map (·.1)).Nodup->(i,o)∈h->dH h i=some o
 |(k,p)::h,i,o,hn,hm=>by
  simp only[ax,List.nodup_cons]at hn;rw[dV];rcases List.mem_cons.1 hm with e|hm
  ·cases e;simp
  ·have:k≠i:=fun e=>hn.1 (e▸List.mem_map.2 ⟨_,hm,rfl⟩);rw[if_neg this];exact Na h i o hn.2 hm
theorem nG: ∀(l h:gz) (i:Nat),i∉l.map (·.1)->dH (Nb l h) i=dH h i
 |[],h,i,_=>rfl
 |(k,o)::l,h,i,hn=>by
  simp only[ax,List.mem_cons,not_or]at hn;simp only[Nb];rw[nG l _ i hn.2,jl,if_neg (Ne.symm hn.1)]
theorem Dx: ∀(l h:gz) (i:Nat) (o:dD),(l.map (·.1)).Nodup->(i,o)∈l->(dH h i).isSome=true->dH (Nb l h) i=some o
 |(k,p)::l,h,i,o,hn,hm,hs=>by
  simp only[ax,List.nodup_cons]at hn;simp only[Nb];rcases List.mem_cons.1 hm with e|hm
  ·have e1:=(Prod.mk.inj e).1;have e2:=(Prod.mk.inj e).2;subst e1 e2;rw[nG l _ i hn.1,jl,if_pos rfl];cases hg:dH h i with
   |none=>simp_all
   |some q=>rfl
  ·refine Dx l _ i o hn.2 hm ?_
   grind [jl]
def TU:List Nat->List Nat->(Nat->Loc)->(Nat->Loc)->Nat->Loc
 |a::qs,j::js,m1,m,i=>if a=i then m1 j else TU qs js m1 m i
 |_,_,_,m,i=>m i
theorem Rh {m1 m:Nat->Loc}: ∀(qs js:List Nat) (k a j:Nat),qs.Nodup->qs[k]? =some a->js[k]? =some j->TU qs js m1 m a=m1 j
 |[],_,k,a,j,_,h,_=>by simp at h
 |_::_,[],k,a,j,_,_,h=>by simp at h
 |a0::qs,j0::js,0,a,j,_,h1,h2=>by
  simp_all [TU]
 |a0::qs,j0::js,k+1,a,j,hn,h1,h2=>by
  simp only[List.getElem?_cons_succ]at h1 h2;simp only[List.nodup_cons]at hn;have:a0≠a:=fun e=>hn.1 (e▸List.mem_of_getElem? h1);simp only[TU,if_neg this];exact Rh qs js k a j hn.2 h1 h2
theorem Ri {m1 m:Nat->Loc}: ∀(qs js:List Nat) (i:Nat),i∉qs->TU qs js m1 m i=m i
 |[],_,i,_=>by simp[TU]
 |_::_,[],i,_=>by simp[TU]
 |a::qs,j::js,i,h=>by
  simp only[List.mem_cons,not_or]at h;simp only[TU,if_neg (Ne.symm h.1)];exact Ri qs js i h.2
def avA (W0:World) (c:Cx) (s:gY) (z:((s.cs.map (·.1)).foldr Ty.pair Ty.unit).den×(s.rs.foldr Ty.pair Ty.unit).den):Ending->World->Prop:=fun e w'=>
 ∃(c1:Cx) (us:List Value) (cells:List bG),e=.returned (N8 us)/\c1.w=w'/\c1.Ok W0/\c.Mono c1/\dH c1.hp 0=some (.box s.bt cells)/\(c1.mu 0).blk=(c.mu 0).blk/\
  ((nU s.cs cells).map (·.1)).Nodup/\jF c1.hp true s.cs cells=some z.1/\oh c1 s.rs z.2 us
def eX (P:Program) (g:FuncId) (s:gY):Prop:=
 ∀(W0:World) (c:Cx) x y z,c.Ok W0->c.mks=[]->c.nxt=0->c.hp=(0,.box s.bt (F6 s.cs (iU s.cs 1) x))::sU s.cs (iU s.cs 1) x-> ∀args':Array Value,bF c (.ptr 0 0::IW s.ps y) args'.toList->s.f x y=some z->
  (callFunc g args').run P c.w=.ok (.enter g args') c.w/\Calls P g args' c.w (avA W0 c s z)
theorem xB: ∀(cs:List (Ty×Bool)) (n:Nat),∀p∈iU cs n,p.2=0
 |[],n,p,h=>by simp[iU]at h
 |(_,true)::cs,n,p,h=>by
  simp only[iU,List.mem_cons]at h;rcases h with rfl|h
  ·rfl
  ·exact xB cs (n+1) p h
 |(_,false)::cs,n,p,h=>xB cs n p h
theorem KF: ∀(ps:List Ty) x (us:List Value),oh c ps x us->bF c (IW ps x) us
 |[],x,us,h=>by
  simp_all [oh,IW,bF]
 |t::ps,x,us,h=>by
  obtain⟨u,us',rfl,h1,h2⟩:=h;simp only[IW,bF,bJ];exact⟨h1,KF ps x.2 us' h2⟩
theorem oh.move {c' c2:Cx} (hw:c2.w=c'.w): ∀(ps:List Ty) x (us:List Value),((∀b,c'.free b->c2.free b)\/ps.all Ty.rigid=true)->oh c' ps x us->oh c2 ps x us
 |[],x,us,_,h=>h
 |t::ps,x,us,hr,h=>by
  obtain⟨u,us',rfl,h1,h2⟩:=h;refine⟨u,us',rfl,VD.move hw (hr.imp (fun h=>h) fun h=> ?_) h1,oh.move hw ps x.2 us' (hr.imp (fun h=>h) fun h=> ?_) h2⟩
  all_goals simp_all
theorem Vq: ∀(l:List bG) (v:bG),v∈l-> ∀i∈refs v,i∈lw l
 |u::l,v,hm,i,hi=>by
  simp only[lw,List.mem_append];rcases List.mem_cons.1 hm with e|hm
  ·simp_all
  ·exact .inr (Vq l v hm i hi)
theorem aBT {g:FuncId} {s:gY} (hs:eX P g s) {id:Nat} {qs:List bG} {st:St} {K:bG->St->Option R} (h:s.go id qs st K=some r) {a:Act} (hr:iO W0 b0 rd c st a ats) {us:Array Value} (hv:bF c (.ptr id 0::qs) us.toList)
  (Rr:Ending->World->Prop) (hR: ∀c' z u st',K z st'=some r->iO W0 b0 rd c' st' a ats->bJ c' z u->c.Mono c'->Rr (.returned u) c'.w):
  (callFunc g us).run P c.w=.ok (.enter g us) c.w/\Calls P g us c.w Rr:=by
 unfold gY.go at h;split at h<;>try (cases h;done)
 rename_i t cells hbx
 replace h:=di h;obtain⟨hc,h⟩:=h;simp only[af,Bool.or_eq_true,aW]at hc;obtain⟨ht,⟨hnd,hno⟩,hrg⟩:=hc;have ht:t=s.bt:=ak ht;subst ht;split at h<;>try (cases h;done)
 rename_i x hx
 split at h<;>try (cases h;done)
 rename_i y hy
 cases hz:s.f x y with
 |none=>rw[hz]at h;cases h
 |some z=>
 rw[hz]at h;simp only[bz]at h;rw[<-hr.hp]at hbx hx hy;have hnd:=DU hnd;have hno:=tV hno;generalize hown:nU s.cs cells=own at*;have hok:=hr.ok;obtain⟨hB,vs,hw,hvs,hone⟩:=hok.obj id _ hbx;have harr: ∀(k i v:Nat),own[k]? =some (i,v)-> ∃(e:Ty) (xs:List e.den),dH c.hp i=some (.arr e v xs):=fun k i v hk=>by
  obtain⟨e,xs,h1,_⟩:=XD s.cs cells own hx k i v i v (by rw[hown];exact hk) hk;exact⟨e,xs,h1⟩
 have hidx: ∀p∈own,∃k:Nat,own[k]? =some p:=fun p hp=>List.getElem?_of_mem hp;have hidn:id∉own.map (·.1):=fun hm=>by
  obtain⟨p,hp,rfl⟩:=List.mem_map.1 hm;obtain⟨k,hk⟩:=hidx p hp;obtain⟨e,xs,h1⟩:=harr k p.1 p.2 hk;rw[hbx]at h1;cases h1
 let S:Nat->Prop:=fun i=>i=id\/i∈own.map (·.1)
 have hSo: ∀i,S i-> ∃o,dH c.hp i=some o/\ ∀f fr ps iY bd ky n p,o≠ .lp f fr ps iY bd ky n p:=fun i hi=>by
  rcases hi with rfl|hi
  ·exact⟨_,hbx,by simp⟩
  ·obtain⟨p,hp,rfl⟩:=List.mem_map.1 hi;obtain⟨k,hk⟩:=hidx p hp;obtain⟨e,xs,h1⟩:=harr k p.1 p.2 hk;exact⟨_,h1,by simp⟩
 let ownS:Nat->Prop:=fun b=> ∃i o,S i/\dH c.hp i=some o/\o.blk (c.mu i)=some b
 have hownS: ∀b,ownS b->c.own b:=fun b ⟨i,o,_,h1,h2⟩=>⟨i,o,h1,h2⟩
 let c0:Cx:=⟨fun k=>if k=0 then c.mu id else TU ((iU s.cs 1).map (·.1)) (own.map (·.1)) c.mu c.mu k,(0,.box s.bt (F6 s.cs (iU s.cs 1) x))::sU s.cs (iU s.cs 1) x,0,c.w,[],fun b=>s.rigid=false/\b<c.w.heap.size/\ ¬c.free b/\ ¬ownS b⟩
 have hlen:(iU s.cs 1).length=own.length:=by rw[<-hown];exact Vo s.cs cells hx 1
 have hmu0: ∀(k i v i':Nat),own[k]? =some (i,v)->(iU s.cs 1)[k]? =some (i',0)->i'≠0/\c0.mu i'=c.mu i:=fun k i v i' h1 h2=>by
  have h3:=EQ s.cs 1 _ (List.mem_of_getElem? h2);refine⟨by simp at h3;omega, ?_⟩;have h4:i'≠0:=by simp at h3;omega
  simp only[c0,if_neg h4];exact Rh _ _ k i' i (uF s.cs 1) (by rw[List.getElem?_map,h2];rfl) (by rw[List.getElem?_map,h1];rfl)
 have get0: ∀(i':Nat) (o:dD),dH c0.hp i'=some o->(i'=0/\o=.box s.bt (F6 s.cs (iU s.cs 1) x))\/
   ∃(k i v:Nat) (e:Ty) (xs:List e.den),own[k]? =some (i,v)/\(iU s.cs 1)[k]? =some (i',0)/\o=.arr e 0 xs/\dH c.hp i=some (.arr e v xs):=fun i' o ho=>by
  simp only[c0,dV]at ho;split at ho
  ·rename_i e
   cases ho;exact .inl ⟨e.symm,rfl⟩
  ·right;obtain⟨k,i,v,v',e,xs,q1,q2,q3,q4,_⟩:=Ve s.cs cells (iU s.cs 1) hx (by rw[hown];exact hlen) i' o (wG _ _ _ ho);rw[hown]at q1;have:=xB s.cs 1 _ (List.mem_of_getElem? q2);simp only at this;subst this;exact⟨k,i,v,e,xs,q1,q2,q3,q4⟩
 have hown0: ∀b,c0.own b->ownS b:=fun b ⟨i',o,h1,h2⟩=>by
  rcases get0 i' o h1 with ⟨rfl,rfl⟩|⟨k,i,v,e,xs,q1,q2,rfl,q4⟩
  ·exact⟨id,_,.inl rfl,hbx,by simpa [c0,dD.blk] using h2⟩
  ·rw[(hmu0 k i v i' q1 q2).2]at h2;exact⟨i,_,.inr (List.mem_map.2 ⟨_,List.mem_of_getElem? q1,rfl⟩),q4,h2⟩
 have hfree0: ∀b,c.free b->c0.free b/\c0.w.heap[b]? =c.w.heap[b]? :=fun b hb=>⟨⟨hb.1,fun ho=>hb.2.1 (hownS b (hown0 b ho)),by simp[c0],fun hbar=>hbar.2.2.1 hb⟩,rfl⟩;have conv: ∀(t:Ty) (v:bG) (x:t.den) (u:Value),(∀i ver vw,v=.slc i ver vw->s.rigid=true/\i≠id/\i∉own.map (·.1))->v.as c.hp t=some x->bJ c v u->VD c0 t x u:=fun t v x u hcond h1 h2=>by
  refine ade hok hfree0 (fun i ver vw hvw o b h3 h4=> ?_) h1 h2;obtain⟨h5,h6,h7⟩:=hcond i ver vw hvw;refine⟨⟨((hok.obj i o h3).lt h4).2,fun ho=> ?_,by simp[c0],fun hbar=>by have:=hbar.1;rw[h5]at this;cases this⟩,rfl⟩;obtain⟨j,o',hj,h8,h9⟩:=hown0 b ho;have:=hok.inj i j o o' b h3 h8 h4 h9;subst this;rcases hj with hj|hj
  ·exact h6 hj
  ·exact h7 hj
 have hnot: ∀i,i∈lw qs++sZ s.cs cells->i≠id/\i∉own.map (·.1):=fun i hi=>by
  have:=hno i hi;simp only[List.mem_cons,not_or]at this;exact this
 have hok0:c0.Ok W0:=by
  refine⟨hok.bel,fun i' o ho=> ?_,fun i j o p b h1 h2 h3 h4=> ?_,fun r hr=>by simp[c0]at hr,fun b hb=>⟨hb.2.1,fun ho=>hb.2.2.2 (hown0 b ho),by simp[c0]⟩,hok.phi⟩
  ·rcases get0 i' o ho with ⟨rfl,rfl⟩|⟨k,i,v,e,xs,q1,q2,rfl,q4⟩
   ·refine⟨by simpa [c0] using hB,vs,by simpa [c0] using hw, ?_,hone⟩;refine ZQ s.cs cells (iU s.cs 1) vs.toList hx hvs (by rw[hown];exact hlen) (fun k i v i' v' q1 q2 e xs q3=> ?_) fun t v x u q1 q2 q3 q4 q5=>conv t v x u (fun i ver vw hvw=> ?_) q4 q5
    ·rw[hown]at q1;have hz0:=xB s.cs 1 _ (List.mem_of_getElem? q2);simp only at hz0;subst hz0;obtain⟨h6,h7⟩:=hmu0 k i v i' q1 q2;refine⟨?_,by rw[h7]⟩;obtain⟨e2,xs2,h8,h9⟩:=XD s.cs cells (iU s.cs 1) hx k i v i' 0 (by rw[hown];exact q1) q2;rw[q3]at h8;cases h8;have dH:=Na _ _ _ (List.Sublist.nodup (Kz s.cs (iU s.cs 1) x) (uF s.cs 1)) h9;simp only[c0,dV,if_neg (Ne.symm h6)];exact dH
    ·subst hvw;obtain⟨h6,h7⟩:=hnot i (List.mem_append_right _ (q3 i (by simp[refs])));refine⟨?_,h6,h7⟩;cases hrg2:s.rigid with
     |true=>rfl
     |false=>
      rcases q2 (by rw[hrg2];rfl)with h8|h8
      ·simp[mr]at h8
      ·cases t<;>simp[Ty.rigid]at h8<;>simp[bG.as]at q4
   ·obtain⟨hpos,el,zs,w1,w2,w3⟩:=hok.obj i _ q4;refine⟨hpos,el,zs,by rw[(hmu0 k i v i' q1 q2).2];exact w1,fQ.mono (eY.mono hfree0 e) _ _ w2,w3⟩
  ·rcases get0 i o h1 with ⟨rfl,rfl⟩|⟨k,i1,v,e,xs,q1,q2,rfl,q4⟩<;>rcases get0 j p h2 with ⟨rfl,rfl⟩|⟨k',i2,v',e',xs',q1',q2',rfl,q4'⟩
   ·rfl
   ·rw[(hmu0 k' i2 v' j q1' q2').2]at h4;have:=hok.inj id i2 _ _ b hbx q4' (by simpa [c0,dD.blk] using h3) h4;subst this;rw[hbx]at q4';cases q4'
   ·rw[(hmu0 k i1 v i q1 q2).2]at h3;have:=hok.inj id i1 _ _ b hbx q4 (by simpa [c0,dD.blk] using h4) h3;subst this;rw[hbx]at q4;cases q4
   ·rw[(hmu0 k i1 v i q1 q2).2]at h3;rw[(hmu0 k' i2 v' j q1' q2').2]at h4;have:=hok.inj i1 i2 _ _ b q4 q4' h3 h4;subst this;have hkk:k=k':=by
     have e1:(own.map (·.1))[k]? =some i1:=by rw[List.getElem?_map,q1];rfl
     have e2:(own.map (·.1))[k']? =some i1:=by rw[List.getElem?_map,q1'];rfl
     exact(List.getElem?_inj (List.getElem?_eq_some_iff.1 e1).1 hnd).1 (e1.trans e2.symm)
    subst hkk;rw[q2]at q2';cases q2';rfl
 obtain⟨us⟩:=us;cases us with
 |nil=>simp[bF]at hv
 |cons u0 us=>
 simp only[bF]at hv;obtain⟨hu0,hqs⟩:=hv;have hv0:bF c0 (.ptr 0 0::IW s.ps y) (u0::us):=by
  simp only[bF];refine⟨?_,KF s.ps y us (zx s.ps qs y us hy hqs fun t v x u hm h1 h2=>conv t v x u (fun i ver vw hvw=> ?_) h1 h2)⟩
  ·simp only[bJ]at hu0 ⊢;exact⟨hu0.1,.inl ⟨_,by simp[c0,dV];rfl⟩,fun t' cs' _=>by simpa [c0] using hu0.2.2 _ _ hbx⟩
  ·subst hvw;have hm2:i∈lw qs:=Vq _ _ hm i (by simp[refs]);obtain⟨h6,h7⟩:=hnot i (List.mem_append_left _ hm2);refine⟨?_,h6,h7⟩;rcases hrg with hrg|hrg
   ·exact hrg
   ·have:=List.any_eq_false.1 hrg _ hm;simp[mr]at this
 obtain⟨hrun,hcall⟩:=hs W0 c0 x y z hok0 rfl rfl rfl ⟨u0::us⟩ hv0 hz;refine⟨hrun,hcall.mono ?_⟩;rintro e w' ⟨c1,us1,cells1,rfl,rfl,hok1,hm1,hb1,hblk1,hnd1,hx1,hdv⟩
 let ids2:List (Nat×Nat):=own.map fun p=>(p.1,p.2+1)
 generalize hown1:nU s.cs cells1=own1 at*
 let c2:Cx:=⟨fun i=>if i=id then c.mu id else TU (own.map (·.1)) (own1.map (·.1)) c1.mu c.mu i,iV (Nb (sU s.cs ids2 z.1) c.hp) id (.box s.bt (F6 s.cs ids2 z.1)),c.nxt,c1.w,c.mks,c.bar⟩
 have hlen1:own1.length=own.length:=by rw[<-hown1,<-Vo s.cs cells1 hx1 1,hlen]
 have hlen2:ids2.length=(nU s.cs cells1).length:=by rw[hown1];simp[ids2,hlen1]
 have hkeys:(ids2.map (·.1))=own.map (·.1):=by simp[ids2,List.map_map,Function.comp_def]
 have hndk:((sU s.cs ids2 z.1).map (·.1)).Nodup:=List.Sublist.nodup (Kz s.cs ids2 z.1) (by rw[hkeys];exact hnd);have hsubk: ∀i,i∈(sU s.cs ids2 z.1).map (·.1)->i∈own.map (·.1):=fun i hi=>by
  have:=(Kz s.cs ids2 z.1).subset hi;rwa [hkeys]at this
 have get2: ∀(k i v:Nat),own[k]? =some (i,v)-> ∃(j w:Nat) (e:Ty) (xs:List e.den),own1[k]? =some (j,w)/\dH c1.hp j=some (.arr e w xs)/\dH c2.hp i=some (.arr e (v+1) xs)/\c2.mu i=c1.mu j/\(.list e,true)∈s.cs:=fun k i v hk=>by
  have hk1:k<own1.length:=by rw[hlen1];exact(List.getElem?_eq_some_iff.1 hk).1
  obtain⟨⟨j,w⟩,hj⟩: ∃p,own1[k]? =some p:=⟨_,List.getElem?_eq_getElem hk1⟩;have hid2:ids2[k]? =some (i,v+1):=by simp[ids2,List.getElem?_map,hk]
  obtain⟨e,xs,h1,h2⟩:=XD s.cs cells1 ids2 hx1 k j w i (v+1) (by rw[hown1];exact hj) hid2;obtain⟨k',i1,v1,v2,e',xs',q1,q2,q3,q4,q5⟩:=Ve s.cs cells1 ids2 hx1 hlen2 i _ h2;have him:i∈own.map (·.1):=List.mem_map.2 ⟨_,List.mem_of_getElem? hk,rfl⟩;have hne:id≠i:=fun e=>hidn (e▸him);obtain⟨e0,xs0,h0⟩:=harr k i v hk;refine⟨j,w,e,xs,hj,h1, ?_, ?_, ?_⟩
  ·simp only[c2];rw[jl,if_neg hne];exact Dx _ _ _ _ hndk h2 (by rw[h0];rfl)
  ·simp only[c2,if_neg (Ne.symm hne)];exact Rh _ _ k i j hnd (by rw[List.getElem?_map,hk];rfl) (by rw[List.getElem?_map,hj];rfl)
  ·cases q3;exact q5
 have get2id:dH c2.hp id=some (.box s.bt (F6 s.cs ids2 z.1)):=by
  simp only[c2];rw[jl,if_pos rfl,nG _ _ _ fun h=>hidn (hsubk id h),hbx];rfl
 have mu2id:c2.mu id=c.mu id:=by simp[c2]
 have hm0:(c1.mu 0).blk=(c.mu id).blk:=by rw[hblk1];simp[c0]
 have new2: ∀(i:Nat) (o':dD),S i->dH c2.hp i=some o'-> ∃j o1,dH c1.hp j=some o1/\o1.blk (c1.mu j)=o'.blk (c2.mu i)/\((i=id/\j=0/\o1=.box s.bt cells1)\/ ∃(k v w:Nat),own[k]? =some (i,v)/\own1[k]? =some (j,w)/\ ∃(e:Ty) (xs:List e.den),o1=.arr e w xs):=fun i o' hi ho=>by
  rcases hi with rfl|hi
  ·rw[get2id]at ho;cases ho;exact⟨0,_,hb1,by simp[dD.blk,mu2id,hm0],.inl ⟨rfl,rfl,rfl⟩⟩
  ·obtain⟨p,hp,rfl⟩:=List.mem_map.1 hi;obtain⟨k,hk⟩:=hidx p hp;obtain⟨j,w,e,xs,q1,q2,q3,q4,_⟩:=get2 k p.1 p.2 hk;rw[q3]at ho;cases ho;exact⟨j,_,q2,by simp only[dD.blk];rw[q4],.inr ⟨k,p.2,w,hk,q1,e,xs,rfl⟩⟩
 have out1: ∀b,b<c.w.heap.size-> ¬ownS b->c1.out b/\c1.w.heap[b]? =c.w.heap[b]? :=fun b hb hn=>hm1.out b ⟨hb,fun ho=>hn (hown0 b ho),by simp[c0]⟩;obtain⟨hle,hmk⟩:=Cx.many (c2:=c2) hok S rfl rfl rfl (fun i hi=>by
   have h1:i≠id:=fun e=>hi (.inl e);have h2:i∉own.map (·.1):=fun e=>hi (.inr e);refine⟨?_,by simp only[c2,if_neg h1];exact Ri _ _ _ h2⟩;simp only[c2];rw[jl,if_neg (Ne.symm h1),nG _ _ _ fun h=>h2 (hsubk i h)])
  (fun i hi=>by
   rcases hi with rfl|hi
   ·exact⟨_,_,hbx,get2id,by simp[dD.like,mu2id],by simp⟩
   ·obtain⟨p,hp,rfl⟩:=List.mem_map.1 hi;obtain⟨k,hk⟩:=hidx p hp;obtain⟨j,w,e,xs,q1,q2,q3,q4,_⟩:=get2 k p.1 p.2 hk;obtain⟨e0,xs0,h0⟩:=harr k p.1 p.2 hk;exact⟨_,_,h0,q3,⟨by omega,fun e=>by omega⟩,by simp⟩)
  hok1.bel hm1.size (fun b hb hn=>(out1 b hb fun⟨i,o,h1,h2,h3⟩=>hn i o h1 h2 h3).2)
  (fun i o' b hi ho hb=>by
   by_cases hlt:b<c.w.heap.size
   ·right;refine Classical.byContradiction fun hn=> ?_;obtain⟨j,o1,h1,h2,_⟩:=new2 i o' hi ho;exact(out1 b hlt fun⟨j,o,h3,h4,h5⟩=>hn ⟨j,o,h3,h4,h5⟩).1.2.1 ⟨j,o1,h1,h2.trans hb⟩
   ·left;omega)
  (fun i i' o' p' b hi hi' ho hp hb hb'=>by
   obtain⟨j,o1,h1,h2,h3⟩:=new2 i o' hi ho;obtain⟨j',o1',h1',h2',h3'⟩:=new2 i' p' hi' hp;have hj:=hok1.inj j j' o1 o1' b h1 h1' (h2.trans hb) (h2'.trans hb');subst hj;rw[h1]at h1';cases h1';rcases h3 with ⟨rfl,rfl,rfl⟩|⟨k,v,w,q1,q2,e,xs,rfl⟩
   ·rcases h3' with ⟨rfl,_⟩|⟨k',v',w',q1',q2',e',xs',he⟩
    ·rfl
    ·cases he
   ·rcases h3' with ⟨_,_,he⟩|⟨k',v',w',q1',q2',e',xs',he⟩
    ·cases he
    ·have hkk:k=k':=by
      have e1:(own1.map (·.1))[k]? =some j:=by rw[List.getElem?_map,q2];rfl
      have e2:(own1.map (·.1))[k']? =some j:=by rw[List.getElem?_map,q2'];rfl
      exact(List.getElem?_inj (List.getElem?_eq_some_iff.1 e1).1 hnd1).1 (e1.trans e2.symm)
     subst hkk;rw[q1]at q1';cases q1';rfl)
  (fun b L i o hi ho hb=>by
   obtain⟨o2,h1,h2⟩:=hSo i hi;rw[ho]at h1;cases h1;exact(hok.obj i o ho).no_loop h2 hb)
 have hfree2:s.rigid=true\/ ∀b,c1.free b->c2.free b:=by
  cases hrg2:s.rigid with
  |true=>exact .inl rfl
  |false=>
   right;intro b hb;have hbar1: ∀b,b<c.w.heap.size-> ¬c.free b-> ¬ownS b-> ¬c1.free b:=fun b h1 h2 h3 hf=>hf.2.2.2 (by rw[hm1.bar];exact⟨hrg2,h1,h2,h3⟩);refine⟨hb.1, ?_,fun hm=> ?_,fun hm=> ?_⟩
   ·rintro ⟨i,o',h1,h2⟩;by_cases hi:S i
    ·obtain⟨j,o1,h3,h4,_⟩:=new2 i o' hi h1;exact hb.2.1 ⟨j,o1,h3,h4.trans h2⟩
    ·have h1':i≠id:=fun e=>hi (.inl e);have h2':i∉own.map (·.1):=fun e=>hi (.inr e);simp only[c2]at h1 h2;rw[jl,if_neg (Ne.symm h1'),nG _ _ _ fun h=>h2' (hsubk i h)]at h1;rw[if_neg h1',Ri _ _ _ h2']at h2;refine hbar1 b ((hok.obj i o' h1).lt h2).2 (fun hf=>hf.2.1 ⟨i,o',h1,h2⟩) ?_ hb;rintro ⟨j,o,hj,h3,h4⟩;have:=hok.inj i j o' o b h1 h3 h2 h4;subst this;exact hi hj
   ·exact hbar1 b (hok.mark_lt hm) (fun hf=>hf.2.2.1 hm) (fun ho=>hok.mark_own hm (hownS b ho)) hb
   ·exact hbar1 b (hok.bar b hm).1 (fun hf=>hf.2.2.2 hm) (fun ho=>(hok.bar b hm).2.1 (hownS b ho)) hb
 have hrgc:s.rigid=true->(∀p∈s.cs,p.1.rigid=true\/p.2=true/\p.1.elem.rigid=true)/\s.rs.all Ty.rigid=true:=fun h=>by
  simp only[gY.rigid,af]at h;exact⟨fun p hp=>by have:=List.all_eq_true.1 h.1 p hp;simpa using this,h.2⟩
 have hok2:c2.Ok W0:=hmk fun i o' hi ho=>by
  rcases hi with rfl|hi
  ·rw[get2id]at ho;cases ho;obtain⟨hB1,vs1,hw1,hvs1,hone1⟩:=hok1.obj 0 _ hb1;refine⟨by rw[mu2id];exact hB,vs1,by rw[mu2id,<-hm0];exact hw1, ?_,hone1⟩;refine ZQ s.cs cells1 ids2 vs1.toList hx1 hvs1 hlen2 (fun k j w i v q1 q2 e xs q3=> ?_) fun t v x u q1 q2 q3 q4 q5=> ?_
   ·rw[hown1]at q1;have hk: ∃v0,own[k]? =some (i,v0)/\v=v0+1:=by
     simp only[ids2,List.getElem?_map,Option.map_eq_some_iff]at q2;obtain⟨p,hp1,hp2⟩:=q2;cases hp2;exact⟨p.2,hp1,rfl⟩
    obtain⟨v0,hk,rfl⟩:=hk;obtain⟨j',w',e',xs',p1,p2,p3,p4,_⟩:=get2 k i v0 hk;rw[q1]at p1;cases p1;rw[q3]at p2;cases p2;exact⟨p3,by rw[p4]⟩
   ·rcases hfree2 with hf|hf
    ·have ht:t.rigid=true:=by
      rcases(hrgc hf).1 (t,false) q1 with h|h
      ·exact h
      ·cases h.1
     cases ho:mr v with
     |false=>exact VD.move (c':=c1) (c2:=c2) rfl (.inr ht) (IL (cb:=c1) (fun b hb=>⟨hb,rfl⟩) ho q4 q5)
     |true=>
      refine VD.move (c':=c1) (c2:=c2) rfl (.inr ht) (ade (cb:=c1) hok1 (fun b hb=>⟨hb,rfl⟩) (fun i ver vw hvw=> ?_) q4 q5);subst hvw;cases t<;>simp[Ty.rigid]at ht<;>simp[bG.as]at q4
    ·refine VD.move (c':=c1) (c2:=c2) rfl (.inl hf) (ade (cb:=c1) hok1 (fun b hb=>⟨hb,rfl⟩) (fun i ver vw hvw=> ?_) q4 q5);subst hvw;rcases q2 rfl with h8|h8
     ·simp[mr]at h8
     ·cases t<;>simp[Ty.rigid]at h8<;>simp[bG.as]at q4
  ·obtain⟨p,hp,rfl⟩:=List.mem_map.1 hi;obtain⟨k,hk⟩:=hidx p hp;obtain⟨j,w,e,xs,q1,q2,q3,q4,q5⟩:=get2 k p.1 p.2 hk;rw[q3]at ho;cases ho;obtain⟨hpos,el,zs,w1,w2,w3⟩:=hok1.obj j _ q2;refine⟨hpos,el,zs,by rw[q4];exact w1,fQ.move (c':=c1) (c2:=c2) rfl ?_ w2,w3⟩;rcases hfree2 with hf|hf
   ·right;rcases(hrgc hf).1 _ q5 with h|h
    ·simp[Ty.rigid]at h
    ·exact h.2
   ·exact .inl hf
 have hd:CJ W0 c st c2 {st with hp:=iV (Nb (sU s.cs ids2 z.1) st.hp) id (.box s.bt (F6 s.cs ids2 z.1))}:=⟨by simp[c2,hr.hp],hr.nxt,rfl,rfl,hok2,hle⟩;exact hR c2 _ _ _ h (hr.did hd) (Aa (KF s.rs z.2 us1 (oh.move (c':=c1) (c2:=c2) rfl s.rs z.2 us1 (hfree2.symm.imp (fun h=>h) fun h=>(hrgc h).2) hdv))) hle.mono
theorem aam {cl:Bool}: ∀(cs:List (Ty×Bool)) (n:Nat) (cells:List bG) (st:St) (K:List bG->St->Option R),rP cl n cs cells st K=some r-> ∀(c:Cx) (vs:List Value),c.Ok W0->c.hp=st.hp->c.nxt=st.nxt->bF c cells vs->
  ∃c' st' cells',CJ W0 c st c' st'/\c'.w=c.w/\bF c' cells' vs/\K cells' st'=some r/\ ∀i o,dH st.hp i=some o->dH st'.hp i=some o:=by
 have plain: ∀(cells:List bG) (st:St) (K:List bG->St->Option R),K cells st=some r-> ∀(c:Cx) (vs:List Value),c.Ok W0->c.hp=st.hp->c.nxt=st.nxt->bF c cells vs->
   ∃c' st' cells',CJ W0 c st c' st'/\c'.w=c.w/\bF c' cells' vs/\K cells' st'=some r/\ ∀i o,dH st.hp i=some o->dH st'.hp i=some o:=
  fun cells st K h c vs hok h1 h2 hv=>⟨c,st,cells,CJ.refl hok h1 h2,rfl,hv,h,fun i o h=>h⟩
 intro cs
 induction cs with
 |nil=>intro n cells st K h;cases cells<;>exact plain _ st K h
 |cons tc cs ih=>
  intro n cells st K h c vs hok h1 h2 hv;cases cells with
  |nil=>exact plain _ st K (by obtain⟨t,o⟩:=tc;cases o<;>cases t<;>simpa only[rP] using h) c vs hok h1 h2 hv
  |cons v cells=>
   cases vs with
   |nil=>simp[bF]at hv
   |cons u vs=>
    have step:rP cl (n+1) cs cells st (fun l st=>K (v::l) st)=some r-> ∃c' st' cells',CJ W0 c st c' st'/\c'.w=c.w/\bF c' cells' (u::vs)/\K cells' st'=some r/\ ∀i o,dH st.hp i=some o->dH st'.hp i=some o:=fun h=>by
     simp only[bF]at hv;obtain⟨c',st',cells',hd,hw,hv',hK,hp⟩:=ih (n+1) cells st _ h c vs hok h1 h2 hv.2;exact⟨c',st',v::cells',hd,hw,by simp only[bF];exact⟨bJ.le hd.le _ _ hv.1,hv'⟩,hK,hp⟩
    obtain⟨t,o⟩:=tc;cases o with
    |false=>exact step (by simpa only[rP] using h)
    |true=>
     cases t with
     |list e=>
      cases v with
      |nils=>
       simp only[rP]at h;replace h:=di h;obtain⟨hpos,h⟩:=h;have hpos:0<e.size:=by simpa [NZ] using hpos
       obtain⟨id,n',h3,h4,h5,h⟩:=iW h;simp only[bF]at hv;have hu:=hv.1;simp only[bJ]at hu;subst hu;obtain⟨c1,hd1,hw1,hv1⟩:=qy hok h1 h2 h3 h4 h5 (y:=e) hpos (xs:=[]) (v:=.slice none 0 0) (w:=c.w) (Below.refl _ _) oD [] ⟨by simp,.inl ⟨rfl,rfl⟩⟩ (by simp[fQ]) rfl (fun _=>rfl);obtain⟨c',st',cells',hd,hw,hv',hK,hp⟩:=ih (n+1) cells _ _ h c1 vs hd1.ok hd1.hp hd1.nxt (bF.le hd1.le _ _ hv.2);refine⟨c',st',.slc id 0 none::cells',hd1.trans hd,hw.trans hw1,by simp only[bF];exact⟨bJ.le hd.le _ _ hv1,hv'⟩,hK,fun i o ho=>hp i o ?_⟩;have:id≠i:=fun e=>by subst e;rw[h3]at ho;cases ho
       simp only[dV,if_neg this];exact ho
      |_=>exact step (by simpa only[rP] using h)
     |_=>exact step (by simpa only[rP] using h)
theorem aAH {g:FuncId} {s:gY} (hs:eX P g s) (cl:Bool) (n:Nat):lW (R:=R) P W0 n (MH g s cl):=by
 intro b0 rd fv args dst st K r h c a ats fv' args' hr hfv hargs o next Q hn
 cases fv with
 |fn g' caps=>
  simp only[MH]at h;split at h
  ·rename_i hg
   subst hg;simp only[bJ]at hfv;obtain⟨vs,rfl,hcaps⟩:=hfv;have hall:=bF.append_arr hargs hcaps;have key: ∀Rr:Ending->World->Prop,(∀c' z u st',K z st'=some r->iO W0 b0 rd c' st' a ats->bJ c' z u->c.Mono c'->Rr (.returned u) c'.w)->
     (callFunc g' (args'++vs)).run P c.w=.ok (.enter g' (args'++vs)) c.w/\Calls P g' (args'++vs) c.w Rr:=by
    intro Rr hRr;generalize args++caps=al at h hall;unfold gY.call at h;split at h<;>try (cases h;done)
    rename_i id qs
    split at h<;>try (cases h;done)
    rename_i t cells hbx
    rw[cond_eq_ite]at h;split at h
    ·rw[<-hr.hp]at hbx;obtain⟨hB,vs0,hw,hvs,hone⟩:=hr.ok.obj id _ hbx;obtain⟨c',st',cells',hd,hw',hv',hK,hp⟩:=aam s.cs _ cells st _ h c vs0.toList hr.ok hr.hp hr.nxt hvs;have hr':=hr.did hd;have hbx':dH c'.hp id=some (.box t cells):=by rw[hr'.hp];exact hp id _ (by rw[<-hr.hp];exact hbx)
     obtain⟨o1,q1,q2⟩:=hd.le.obj id _ (.inl ⟨_,hbx⟩) hbx';rw[hbx]at q1;cases q1;simp only[dD.like]at q2;have hlike:dD.like (.box t cells) (c'.mu id) (.box t cells') (c'.mu id):=rfl;have hll: ∀b,(dD.box t cells').blk (c'.mu id)=some b->(dD.box t cells).blk (c'.mu id)=some b\/c'.w.heap.size<=b:=fun b hb=>.inl hb;have hlp: ∀(b:Nat) (L:Loop),(dD.box t cells).blk (c'.mu id)=some b->c'.w.heap[b]? =some (Obj.loop L)-> ∃L':Loop,c'.w.heap[b]? =some (Obj.loop L'):=fun b L _ hL=>⟨L,hL⟩;have hle:=Cx.Le.put (w:=c'.w) hr'.ok hbx' hlike (ae _) (fun b _ _=>rfl) hll hlp;have hput:CJ W0 c' st' (c'.put id (.box t cells') (c'.mu id) c'.w) {st' with hp:=iV st'.hp id (.box t cells')}:=by
      refine⟨by simp only[Cx.put];rw[hr'.hp],hr'.nxt,rfl,rfl,Cx.Ok.put hr'.ok hbx' hlike hr'.ok.bel (ae _) (fun b _ _=>rfl) hll hlp ?_,hle⟩;refine⟨by simp_all [Cx.put,upd_same],vs0,by simp_all [Cx.put,upd_same],bF.le hle _ _ hv',hone⟩
     have hd2:=hd.trans hput;have hG:=aBT hs hK (hr.did hd2) (bF.le hd2.le _ _ hall) Rr fun c3 z u st3 k1 k2 k3 k4=>hRr c3 z u st3 k1 k2 k3 (hd2.le.mono.trans k4);change (callFunc g' (args'++vs)).run P c'.w=.ok (.enter g' (args'++vs)) c'.w/\Calls P g' (args'++vs) c'.w Rr at hG;simp_all
    grind [aBT]
   obtain⟨q1,q2⟩:=key (fun e w''=>match e with
     |.returned v=>next (a.put o.dst v) w''
     |.panicked chain=>Q (.panic chain) a w''
     |.outgrown=>LetsOut Q) (fun c' z u st' k1 k2 k3 k4=>hn c' z u st' k1 k2 k3 k4)
   rw[qW,q1];exact⟨sO rd,(zB q2).mono fun e w'' he=>by cases e<;>exact he⟩
  ·cases h
 |_=>simp[MH]at h
end
end
section
open Bool renaming and_eq_true → af
open List renaming length_cons → aB
open Nat renaming le_trans → aO, lt_of_lt_of_le → aZ
open Go.RowKit
section
variable {P:Program} {T:TT} {W0:World} {b0:Nat} {rd:Option Nat} {R:Type} {r:R} {c:Cx} {ats:List (Array Value)}
theorem aDc {g:FuncId} {s:Sum} (hs:dU P g s) (cl:Bool) (n:Nat):lW (R:=R) P W0 n (EE g s cl):=by
 intro b0 rd fv args dst st K r h c a ats fv' args' hr hfv hargs o next Q hn
 cases fv with
 |fn g' caps=>
  simp only[EE]at h;split at h
  ·rename_i hg
   subst hg;simp only[bJ]at hfv;obtain⟨vs,rfl,hcaps⟩:=hfv;have hall:=bF.append_arr hargs hcaps;obtain⟨hc,x,y,hx,hy,h2⟩:=acV h;rw[<-hr.hp]at hx;obtain⟨bar,hbar,hdv,hfree⟩: ∃bar:Nat->Prop,(∀b,bar b->b<c.w.heap.size)/\oh (kJ c.w bar) s.ps x (args'++vs).toList/\
     ((s.rs.all fun r=>r.1.rigid||(r.2&&r.1.elem.rigid))=true\/bar=fun b=>b<c.w.heap.size/\ ¬c.free b):=by
    rcases hc with hc|hc
    ·refine⟨fun _=>False,fun b h=>h.elim,zx s.ps _ x _ hx hall fun t v x u _ h1 h2=>afF hr.ok (fun b hb=>⟨G6.2 ⟨hb,fun h=>h⟩,rfl⟩) h1 h2,.inl hc⟩
    ·refine⟨fun b=>b<c.w.heap.size/\ ¬c.free b,fun b h=>h.1,zx s.ps _ x _ hx hall fun t v x u hm h1 h2=>IL (fun b hb=>⟨G6.2 ⟨hb.1,fun h=>h.2 hb⟩,rfl⟩) ?_ h1 h2,.inr rfl⟩
     grind
   have key: ∀e w'',Aw c.w bar s.rs y e w''->(match e with
     |.returned v=>next (a.put o.dst v) w''
     |.panicked chain=>Q (.panic chain) a w''
     |.outgrown=>LetsOut Q):= ?_
   ·rw[qW];rcases hs c.w bar (args'++vs) x y hr.ok.phiw hbar hdv hy with ⟨h3,h4⟩|⟨u,h3,h4⟩
    ·rw[h3];exact⟨sO rd,(zB h4).mono fun e w'' he=>by
      grind⟩
    ·rw[h3];exact key (.returned u) c.w h4
   rintro e w'' ⟨c',us,rfl,rfl,hok',hb',hm',hhp',hv'⟩;simp only;have hext:FZ c c'.w:=hok'.bel;have hmove: ∀(c2:Cx),c2.w=c'.w->(∀b,(c.at_ c'.w).free b->c'.free b->c2.free b)->((s.rs.all fun r=>r.1.rigid||(r.2&&r.1.elem.rigid))=true\/ ∀b,c'.free b->c2.free b):=fun c2 hw hf=>by
    rcases hfree with hf1|hf1
    ·exact .inl hf1
    ·right;intro b hb;exact hf b (ar0 hr.ok hok' (hb'.trans hf1) hb) hb
   rcases h2 with ⟨hn0,hnews,hK⟩|⟨e,xs,id,n',hn1,hnews,h5,h6,h7,hK⟩
   ·have hr2:=hr.ext hext;refine hn (c.at_ c'.w) _ _ _ hK hr2 (Aa ?_) (Cx.Le.ext hext).mono;refine FY (c':=c') (c2:=c.at_ c'.w) rfl 0 s.rs y us (fun t ht=> ?_) (.inl hnews) hv';rcases hmove (c.at_ c'.w) rfl (fun b h _=>h)with h8|h8
    all_goals grind
   ·have hobj:=hok'.obj 0 (.arr e 0 xs) (by simp_all [Fq,dV]);obtain⟨hpos,el,zs,hown,hL,htyq⟩:=hobj;have hk:=zW hr.hp hr.nxt h5 h6;obtain⟨u0,hu0⟩:=acY s.rs y us (by omega) hv';simp only[bJ]at hu0;have hget0:dH c'.hp 0=some (.arr e 0 xs):=by simp_all [Fq,dV]
    have hone:(c'.mu 0).v.oneCell'=true:=by
     have:=(hu0.2.2 _ _ _ hget0).2 rfl;simp_all [iT]
    have hl: ∀b,dD.blk (.arr e 0 xs) ⟨0,(c'.mu 0).v⟩=some b->c.w.heap.size<=b:=fun b hb=>(World.ownsRow.lt hown b hb).1;have hle:=Cx.Le.push (o:=.arr e 0 xs) (l:=⟨0,(c'.mu 0).v⟩) (nxt:=n') (w:=c'.w) hk (by rw[hr.nxt];exact h7) hext.size hext.block hl;have hfree2:=hmove (c.push id (.arr e 0 xs) ⟨0,(c'.mu 0).v⟩ n' c'.w) rfl (fun b hb1 hb2=>⟨hb1.1,(by
     rintro ⟨j,o,q1,q2⟩;simp only[Cx.push,dV]at q1 q2;split at q1
     ·rename_i e1
      subst e1;cases q1;rw[upd_same]at q2;exact hb2.2.1 ⟨0,_,hget0,q2⟩
     ·rename_i e1
      rw[upd_ne _ _ (Ne.symm e1)]at q2;exact hb1.2.1 ⟨j,o,q1,q2⟩),hb1.2.2⟩)
    have hown':c'.w.ownsRow W0.heap.size el e.size (c'.mu 0).v xs.length zs:=by
     refine⟨hown.1, ?_⟩;rcases hown.2 with h|⟨g,cap,cur,e1,e2,e3⟩
     ·exact .inl h
     ·exact .inr ⟨g,cap,cur,e1,aO hr.ok.size e2,e3⟩
    have ho:(c.push id (.arr e 0 xs) ⟨0,(c'.mu 0).v⟩ n' c'.w).ORel W0.heap.size id (.arr e 0 xs):=by
     refine⟨hpos,el,zs,by simp_all [Cx.push,upd_same],fQ.move (c':=c') (c2:=c.push id (.arr e 0 xs) ⟨0,(c'.mu 0).v⟩ n' c'.w) rfl ?_ hL,htyq⟩
     grind [Ns]
    have hok2:=hr.ok.push hk (by rw[hr.nxt];exact h7) hext hl ho;have hd:CJ W0 c st (c.push id (.arr e 0 xs) ⟨0,(c'.mu 0).v⟩ n' c'.w) {st with hp:=(id,.arr e 0 xs)::st.hp,nxt:=n'}:=⟨by simp[Cx.push,hr.hp],rfl,rfl,rfl,hok2,hle⟩;refine hn (c.push id (.arr e 0 xs) ⟨0,(c'.mu 0).v⟩ n' c'.w) _ _ _ hK (hr.did hd) (Aa ?_) hle.mono;refine FY (c':=c') (c2:=c.push id (.arr e 0 xs) ⟨0,(c'.mu 0).v⟩ n' c'.w) rfl id s.rs y us (fun t ht=> ?_) (.inr fun u hu=> ?_) hv'
    ·grind
    ·simp only[bJ]at hu ⊢;have hu1:=(hu.2.2 _ _ _ hget0).2 rfl;simp only[iT]at hu1;subst hu1;refine⟨hone,.inl ⟨.arr e 0 xs,by simp[Cx.push,dV]⟩,fun t u xs' h=> ?_⟩;simp_all [Cx.push,iT,upd_same]
  ·cases h
 |_=>simp[EE]at h
theorem QU: ∀(rs:List (Ty×Bool)),(rs.all fun r=> !r.2&&r.1.rigid)=true->news rs=0
 |[],_=>rfl
 |(t,true)::rs,h=>by simp at h
 |(t,false)::rs,h=>by
  simp only[List.all_cons,af]at h;exact QU rs h.2
theorem aDb {g:FuncId} {s:Sum} (hs:dU P g s) (cl:Bool) (hall:(s.rs.all fun r=> !r.2&&r.1.rigid)=true):mV (R:=R) P (EE g s cl):=by
 intro W0 b0 rd fv args dst st K r h c a ats fv' args' hr hfv hargs;cases fv with
 |fn g' caps=>
  simp only[EE]at h;split at h
  ·rename_i hg
   subst hg;simp only[bJ]at hfv;obtain⟨vs,rfl,hcaps⟩:=hfv;have hall2:=bF.append_arr hargs hcaps;obtain⟨hc,x,y,hx,hy,h2⟩:=acV h;rw[<-hr.hp]at hx;rcases h2 with ⟨hn0,hnews,hK⟩|⟨e,xs,id,n',hn1,hnews,_⟩
   ·have hrig:=Rj _ (Iz 0 s.rs y hall);refine⟨_,rv (LQ (oI 0 s.rs y)),hK,(Ip hrig _).2 rfl,fun w' hw'=> ?_⟩;have hdv:oh (kJ w' fun _=>False) s.ps x (args'++vs).toList:=zx s.ps _ x _ hx hall2 fun t v x u _ h1 h2=>afF hr.ok (fun b hb=>⟨G6.2 ⟨aZ hb hw'.size,fun h=>h⟩,hw'.block b hb⟩) h1 h2;rcases hs w' (fun _=>False) (args'++vs) x y (Phi.below hw' hr.ok.phiw) (fun b h=>h.elim) hdv hy with ⟨h3,h4⟩|⟨u,h3,h4⟩
    ·refine .inl ⟨g',args'++vs,by rw[qW,h3],h4.mono ?_⟩;rintro e w'' ⟨c',us,rfl,rfl,hok',hb',hm',hhp',hv'⟩;exact⟨by rw[(Ip hrig _).1 (Aa hv')],hw'.trans (hok'.bel.mono hw'.size)⟩
    ·obtain⟨c',us,hu,_,hok',_,_,_,hv'⟩:=h4;cases hu;right;rw[qW,h3,(Ip hrig _).1 (Aa hv')]
   simp_all [QU]
  ·cases h
 |_=>simp[EE]at h
theorem avu {E:Env} (hT:TOk P E.T) (hb: ∀g,E.bf g=true->Au P g) (h: ∀g s,E.sg g=some s->dU P g s) (hx: ∀g s,E.sb g=some s->eX P g s):vZ P E:=
 ⟨hT,fun R W0 n g s hs=>aAH (hx g s hs) E.cl n,hb,fun R W0 n g s hs=>aDc (h g s hs) E.cl n,fun R g s hs hall=>aDb (h g s hs) E.cl hall⟩
def EJ:(ps:List Ty)->(ps.foldr Ty.pair Ty.unit).den->List bG
 |[],_=>[]
 |t::ps,x=>.val t x.1::EJ ps x.2
def frozen (hp:gz):bG->bG
 |.val t x=>.val t x
 |.nils=>.nils
 |.slc id ver vw=>match dH hp id with
  |some (.arr e v xs)=>bif v==ver then .val (.list e) (Zn xs vw)else .undef
  |_=>.undef
 |_=>.undef
def bG.asR (hp:gz) (own:Bool) (t:Ty) (v:bG):Option t.den:=bif own then v.as hp t else match v with
 |.agg l=>bif t.isAgg then Gt t (l.map (frozen hp))else none
 |v=>v.as hp t
def jk (own:Bool):(rs:List (Ty×Bool))->List bG->gz->Option ((rs.map (·.1)).foldr Ty.pair Ty.unit).den
 |[],[],_=>some ()
 |(t,false)::rs,v::l,hp=>match(bif own&&(mr v&& !t.rigid)then none else v.asR hp own t),jk own rs l hp with
  |some x,some y=>some (x,y)
  |_,_=>none
 |(.list e,true)::rs,.slc id ver none::l,hp=>match dH hp id with
  |some (.arr t u xs)=>bif u==ver then(match jX (.list e) (t':=.list t) xs,jk own rs l hp with
   |some x,some y=>some (x,y)
   |_,_=>none)else none
  |_=>none
 |_,_,_=>none
def N7 (n:Nat) (v:bG):List bG:=
 match n,v with
 |1,v=>[v]
 |_,.tup l=>l
 |_,_=>[.undef]
def N9 (E:Env) (g:FuncId) (ps:List Ty) (rs:List (Ty×Bool)) (x:(ps.foldr Ty.pair Ty.unit).den):Option ((rs.map (·.1)).foldr Ty.pair Ty.unit).den:=
 lF E 1000000 (.call g (EJ ps x)) ⟨[],[],[],0⟩ fun v st=>jk (!Nat.beq (news rs) 0) rs (N7 rs.length v) st.hp
theorem MN: ∀(ps:List Ty) x (us:List Value),oh c ps x us->bF c (EJ ps x) us
 |[],x,us,h=>by
  simp_all [oh,EJ,bF]
 |t::ps,x,us,h=>by
  obtain⟨u,us',rfl,h1,h2⟩:=h;simp only[EJ,bF,bJ];exact⟨h1,MN ps x.2 us' h2⟩
theorem vg {own:Bool}: ∀(rs:List (Ty×Bool)) (l:List bG) {hp:gz},(jk own rs l hp).isSome=true->l.length=rs.length
 |[],[],_,_=>rfl
 |[],_::_,_,h=>by simp[jk]at h
 |(t,false)::rs,[],_,h=>by simp[jk]at h
 |(t,false)::rs,v::l,hp,h=>by
  simp only[jk]at h;split at h
  ·rename_i h2
   simp[vg rs l (hp:=hp) (by rw[h2];rfl)]
  ·cases h
 |(t,true)::rs,[],_,h=>by simp_all [jk]
 |(t,true)::rs,v::l,hp,h=>by
  cases t with
  |list e=>
   cases v with
   |slc id ver vw=>
    cases vw with
    |none=>
     simp only[jk]at h;split at h
     ·rw[cond_eq_ite]at h;split at h
      ·split at h
       ·rename_i h2
        simp[vg rs l (hp:=hp) (by rw[h2];rfl)]
       ·cases h
      ·cases h
     ·cases h
    |some p=>simp[jk]at h
   |_=>simp[jk]at h
  |_=>simp[jk]at h
theorem Rk {own:Bool} {v:bG} {u:Value} {rs:List (Ty×Bool)} {hp:gz} (h:(jk own rs (N7 rs.length v) hp).isSome=true) (hv:bJ c v u): ∃us,u=N8 us/\bF c (N7 rs.length v) us:=by
 match rs,h with
 |[t],h=>exact⟨[u],rfl,by simpa [N7,bF] using hv⟩
 |[],h=>
  cases v with
  |tup l=>
   simp only[List.length_nil,N7]at h ⊢;cases l with
   |nil=>
    simp only[bJ]at hv;obtain⟨vs,rfl,h1⟩:=hv;have:vs= #[]:=by
     have:=bF.length _ _ h1
     grind
    subst this;exact⟨[],rfl,by simp[bF]⟩
   |cons _ _=>simp[jk]at h
  |_=>simp[N7,jk]at h
 |t1::t2::rs,h=>
  cases v with
  |tup l=>
   simp only[bJ]at hv;obtain⟨vs,rfl,h1⟩:=hv;have hl:=bF.length _ _ h1;have hlen:l.length=(t1::t2::rs).length:=vg _ _ h;simp only[aB,N7];refine⟨vs.toList, ?_,h1⟩;cases hvs:vs.toList with
   |nil=>simp_all
   |cons v1 r1=>
    cases r1 with
    |nil=>simp_all
    |cons v2 r2=>simp only[N8];rw[<-hvs]
  |_=>
   exfalso;have:=vg _ _ h;simp[N7]at this
end
end
section
open Bool renaming and_eq_true → af
open List renaming map_cons → ax, length_map → aK
open Nat renaming le_refl → ae, eq_of_beq_eq_true → ak
open Go.RowKit
structure dB (E:Env):Prop where
 T:TOk E.P E.T
 m:E.P.follows .mixedOrders=true
 ng:IK E.P
 S: ∀g s,E.sg g=some s->dU E.P g s
 L:rO E.P E
 R:ac9 E
 B: ∀g,E.bf g=true->Au E.P g
 X: ∀g s,E.sb g=some s->eX E.P g s
section
variable {P:Program} {T:TT} {W0:World} {b0:Nat} {rd:Option Nat} {R:Type} {r:R} {c:Cx} {ats:List (Array Value)}
theorem IY {E:Env} (h:dB E) (m:Nat) (R:Type) (W0:World):uD E.P W0 (lF E m (R:=R)):=
 (Hg h.T h.m h.ng rfl rfl (avu h.T h.B h.S h.X) h.L h.R m R W0).1
theorem EL {w:World} {bar:Nat->Prop} (hphi:Phi w) (hb: ∀b,bar b->b<w.heap.size):iO w 0 none (kJ w bar) ⟨[],[],[],0⟩ ⟨#[],[]⟩ []:=
 ⟨rfl,rfl,⟨Below.refl _ _,fun id o h=>by simp[kJ,dH]at h,fun i j o p b h=>by simp[kJ,dH]at h,fun r hr=>by simp[kJ]at hr,fun b h=>⟨hb b h,(by rintro ⟨i,o,h,_⟩;simp[kJ,dH]at h),by simp[kJ]⟩,hphi⟩,by simp[kJ,bF],trivial,⟨[],rfl,List.nodup_nil,fun r hr=>by simp at hr⟩,fun l hl=>by cases hl⟩
theorem YP {own:Bool} {c':Cx} (hw:c'.w=c.w) (hf: ∀b,c.free b->c'.free b) (hf2:own=false-> ∀b,b<c.w.heap.size-> ¬c.bar b->c'.free b) {t:Ty} {v:bG} {x:t.den} {u:Value} (hok:c.Ok W0)
  (h:(bif own&&(mr v&& !t.rigid)then none else v.asR c.hp own t)=some x) (hv:bJ c v u):VD c' t x u:=by
 have hm: ∀b,c.free b->c'.free b/\c'.w.heap[b]? =c.w.heap[b]? :=fun b hb=>⟨hf b hb,by rw[hw]⟩;rw[cond_eq_ite]at h;split at h
 ·cases h
 rename_i hc
 have slcCase: ∀{id ver vw} {u:Value} {e:Ty} {x:List e.den},own=false->(bG.slc id ver vw).as c.hp (.list e)=some x->bJ c (.slc id ver vw) u->VD c' (.list e) x u:=fun {id ver vw u e x} hown h hv=>by
  obtain⟨a,cp,zs,h1,h2,h3⟩:=RI hok h hv;have h4:=YZ hok h hv h1;exact(VD.leaf rfl).2 ⟨a,cp,zs,by rw[h1],h4,fQ.mono (eY.mono hm e) _ _ h2,h3.imp (fun h=>h) fun⟨b,off,q1,q2,q4,q3⟩=>⟨b,off,q1,hf2 hown b q2 q4,q3.of_block (by rw[hw])⟩⟩
 cases own with
 |true=>
  have h:v.as c.hp t=some x:=h;cases ho:mr v with
  |false=>exact IL hm ho h hv
  |true=>
   cases v with
   |slc id ver vw=>
    cases t with
    |list e=>grind [Ty.rigid]
    |_=>simp[bG.as]at h
   |agg l=>
    simp only[bG.as]at h;rw[cond_eq_ite]at h;split at h
    ·rename_i ha
     simp only[bJ]at hv;obtain⟨vs,rfl,h1,h2⟩:=hv;exact VD.move hw (.inl hf) ((VD.agg ha).2 ⟨vs,rfl,nS h h1⟩)
    ·cases h
   |_=>simp[mr]at ho
 |false=>
  cases v with
  |slc id ver vw=>
   have h:(bG.slc id ver vw).as c.hp t=some x:=h;cases t with
   |list e=>grind
   |_=>simp[bG.as]at h
  |agg l=>
   have h:(bif t.isAgg then Gt t (l.map (frozen c.hp))else none)=some x:=h;obtain⟨ha,h⟩:=di h;simp only[bJ]at hv;obtain⟨vs,rfl,h1,h2⟩:=hv;have key: ∀(l:List bG) (vs:List Value),bF c l vs->bF c' (l.map (frozen c.hp)) vs:=by
    intro l
    induction l with
    |nil=>grind [bF]
    |cons v l ih=>intro vs h;cases vs with
     |nil=>simp[bF]at h
     |cons u vs=>
      simp only[bF,ax]at h ⊢;refine⟨?_,ih vs h.2⟩;have hv:=h.1;cases v with
      |val t x=>
       grind [frozen,bJ,VD.move]
      |nils=>assumption
      |slc id ver vw=>
       simp only[frozen];split
       ·rename_i e v xs hg
        rw[cond_eq_ite];split
        ·rename_i hver
         simp only[bJ];refine slcCase rfl ?_ hv;simp_all [bG.as,AP,gp]
        ·simp[bJ]
       ·simp[bJ]
      |_=>simp[frozen,bJ]
   exact(VD.agg ha).2 ⟨vs,rfl,nS h (key l _ h1)⟩
  |_=>
   simp only[bG.asR,cond_false]at h;exact IL hm rfl h hv
theorem YN {own:Bool} {c':Cx} (hok:c.Ok W0) (hw:c'.w=c.w) (hf: ∀b,c.free b->c'.free b) (hf2:own=false-> ∀b,b<c.w.heap.size-> ¬c.bar b->c'.free b): ∀(rs:List (Ty×Bool)) (l:List bG) (y) (us:List Value),jk own rs l c.hp=some y->news rs=0->bF c l us->bF c' (oI 0 rs y) us
 |[],[],y,[],_,_,_=>by simp[oI,bF]
 |[],[],_,_::_,_,_,hv=>by simp[bF]at hv
 |[],_::_,_,_,h,_,_=>by simp[jk]at h
 |(t,true)::rs,_,_,_,_,hn,_=>by simp[news]at hn
 |(t,false)::rs,[],_,_,h,_,_=>by simp[jk]at h
 |(t,false)::rs,v::l,y,[],h,_,hv=>by simp[bF]at hv
 |(t,false)::rs,v::l,y,u::us,h,hn,hv=>by
  simp only[jk]at h;split at h
  ·rename_i x y' h1 h2
   cases h;simp only[bF]at hv;simp only[oI,bF,bJ];exact⟨YP hw hf hf2 hok h1 hv.1,YN hok hw hf hf2 rs l y' us h2 (by simpa [news] using hn) hv.2⟩
  ·cases h
theorem ahs (hok:c.Ok W0): ∀(rs:List (Ty×Bool)) (l:List bG) (y) (us:List Value),jk true rs l c.hp=some y->news rs=1->bF c l us->
  ∃(id ver:Nat) (e:Ty) (xs:List e.den),dH c.hp id=some (.arr e ver xs)/\xR rs y=some ⟨e,xs⟩/\
   ∀c':Cx,c'.w=c.w->(∀b,c.free b->c'.free b)->c'.hp=[(0,.arr e 0 xs)]->(c'.mu 0).v=(c.mu id).v->bF c' (oI 0 rs y) us
 |[],_,_,_,_,hn,_=>by simp[news]at hn
 |(t,false)::rs,[],_,_,h,_,_=>by simp[jk]at h
 |(t,false)::rs,v::l,y,[],h,_,hv=>by simp[bF]at hv
 |(t,false)::rs,v::l,y,u::us,h,hn,hv=>by
  simp only[jk]at h;split at h
  ·rename_i x y' h1 h2
   cases h;simp only[bF]at hv;obtain⟨id,ver,e,xs,k1,k2,k3⟩:=ahs hok rs l y' us h2 (by simpa [news] using hn) hv.2;refine⟨id,ver,e,xs,k1,k2,fun c' hw hf hhp hmu=> ?_⟩
   grind [oI,bF,bJ,YP]
  ·cases h
 |(t,true)::rs,[],_,_,h,_,_=>by simp_all [jk]
 |(t,true)::rs,v::l,y,[],h,_,hv=>by simp[bF]at hv
 |(t,true)::rs,v::l,y,u::us,h,hn,hv=>by
  cases t with
  |list e=>
   cases v with
   |slc id ver vw=>
    cases vw with
    |none=>
     simp only[jk]at h;split at h
     ·rename_i t' w xs hg
      rw[cond_eq_ite]at h;split at h
      ·rename_i hver
       have hver:w=ver:=by simpa using hver
       subst hver;split at h
       ·rename_i x y' h1 h2
        cases h;have ee:=iF h1;cases ee;rw[gp]at h1;cases h1;simp only[bF]at hv;refine⟨id,w,e,x,hg,rfl,fun c' hw hf hhp hmu=> ?_⟩;simp only[oI,bF];refine⟨?_,YN hok hw hf (fun h=>by cases h) rs l y' us h2 (by simpa [news] using hn) hv.2⟩;have hu:=hv.1;simp only[bJ]at hu ⊢;have hu1:=(hu.2.2 _ _ _ hg).2 rfl;simp only[iT]at hu1;refine⟨hu.1,.inl ⟨.arr e 0 x,by rw[hhp];simp[dV]⟩,fun t u' xs' h=> ?_⟩;simp_all [iT]
       ·cases h
      ·cases h
     ·cases h
    |some p=>simp[jk]at h
   |_=>simp[jk]at h
  |_=>simp[jk]at h
theorem QT: ∀(rs:List (Ty×Bool)) y,news rs=0->xR rs y=none
 |[],_,_=>rfl
 |(t,true)::rs,_,h=>by simp[news]at h
 |(t,false)::rs,y,h=>QT rs y.2 (by simpa [news] using h)
theorem YO (hok:c.Ok W0) {rs:List (Ty×Bool)} {l:List bG} {y} {us:List Value} (h:jk (!Nat.beq (news rs) 0) rs l c.hp=some y) (hn:news rs<=1) (hv:bF c l us):
  ∃c':Cx,c'.w=c.w/\c'.Ok W0/\c'.bar=c.bar/\c'.mks=[]/\c'.hp=Fq rs y/\bF c' (oI 0 rs y) us:=by
 by_cases h0:news rs=0
 ·let c':Cx:=⟨c.mu,[],c.nxt,c.w,[],c.bar⟩
  have hf: ∀b,c.free b->c'.free b:=fun b hb=>⟨hb.1,(by rintro ⟨i,o,h,_⟩;simp[c',dH]at h),by simp[c'],hb.2.2.2⟩;exact⟨c',rfl,⟨hok.bel,fun id o h=>by simp[c',dH]at h,fun i j o p b h=>by simp[c',dH]at h,fun r hr=>by simp[c']at hr,fun b hb=>⟨(hok.bar b hb).1,(by rintro ⟨i,o,h,_⟩;simp[c',dH]at h),by simp[c']⟩,hok.phi⟩,rfl,rfl,by rw[Fq,QT rs y h0],YN hok (c':=c') rfl hf (fun _ b h1 h2=>⟨h1,(by rintro ⟨i,o,h,_⟩;simp[c',dH]at h),by simp[c'],h2⟩) rs l y us h h0 hv⟩
 ·have h1':news rs=1:=by omega
  rw[show(!Nat.beq (news rs) 0)=true by rw[h1'];rfl]at h;obtain⟨id,ver,e,xs,k1,k2,k3⟩:=ahs hok rs l y us h h1' hv
  let c':Cx:=⟨fun _=>c.mu id,[(0,.arr e 0 xs)],c.nxt,c.w,[],c.bar⟩
  have hf: ∀b,c.free b->c'.free b:=fun b hb=>⟨hb.1,(by
   rintro ⟨i,o,h1,h2⟩;simp only[c',dV]at h1 h2;split at h1
   ·cases h1;exact hb.2.1 ⟨id,_,k1,h2⟩
   ·simp[dH]at h1),by simp[c'],hb.2.2.2⟩
  refine⟨c',rfl,⟨hok.bel,fun i o h=> ?_,fun i j o p b h1 h2 _ _=> ?_,fun r hr=>by simp[c']at hr,fun b hb=>⟨(hok.bar b hb).1,(by
   rintro ⟨i,o,h1,h2⟩;simp only[c',dV]at h1 h2;split at h1
   ·cases h1;exact(hok.bar b hb).2.1 ⟨id,_,k1,h2⟩
   ·simp[dH]at h1),by simp[c']⟩,hok.phi⟩,rfl,rfl,by rw[Fq,k2],k3 c' rfl hf rfl rfl⟩
  ·simp only[c',dV]at h;split at h
   ·cases h;obtain⟨h0,e',zs,h1,h2,hty⟩:=hok.obj id _ k1;exact⟨h0,e',zs,h1,fQ.mono (eY.mono (fun b hb=>⟨hf b hb,rfl⟩) e) _ _ h2,hty⟩
   ·simp[dH]at h
  grind [dH]
theorem Ap {E:Env} (hE:dB E) {g:FuncId} {s:Sum} (hn:news s.rs<=1) (h: ∀x y,s.f x=some y->N9 E g s.ps s.rs x=some y) (w:World) (bar:Nat->Prop) (args':Array Value) (x) (y) (hphi:Phi w) (hbar: ∀b,bar b->b<w.heap.size)
  (hdv:oh (kJ w bar) s.ps x args'.toList) (hy:s.f x=some y):(callFunc g args').run E.P w=.ok (.enter g args') w/\Calls E.P g args' w (Aw w bar s.rs y):=by
 have h1:=h x y hy;unfold N9 at h1;refine IY hE 1000000 _ w g (EJ s.ps x) _ _ y h1 0 none (kJ w bar) ⟨#[],[]⟩ [] args' (EL hphi hbar) (MN _ _ _ hdv) (Aw w bar s.rs y) fun c1 z u st1 k1 k2 k3 k4=> ?_;obtain⟨us,rfl,h3⟩:=Rk (by rw[k1];rfl) k3;rw[<-k2.hp]at k1;obtain⟨c',q1,q2,q3,q4,q5,q6⟩:=YO k2.ok k1 hn h3;exact⟨c',us,rfl,q1,q2,q3.trans k4.bar,q4,q5,q6⟩
theorem Iw {E:Env} (hE:dB E) {g:FuncId} {s:Sum} (hn:news s.rs<=1) (h: ∀x y,s.f x=some y->N9 E g s.ps s.rs x=some y):dU E.P g s:=fun w bar args' x y hphi hbar hdv hy=>.inl (Ap hE hn h w bar args' x y hphi hbar hdv hy)
theorem Dc {E:Env} (hE:dB E) {g:FuncId} {ps:List Ty} {x:(ps.foldr Ty.pair Ty.unit).den} {t:Ty} {y:t.den} (ht:t.rigid=true) (h:N9 E g ps [(t,false)] x=some (y,())) {w:World} {args:Array Value} (ha:oh (kJ w fun _=>False) ps x args.toList) (hphi:Phi w:=by exact trivial):
  Calls E.P g args w fun e w'=>e=.returned (IV t y)/\Below w.heap.size w w':=by
 obtain⟨_,h2⟩:=Ap hE (g:=g) (s:=⟨ps,[(t,false)],fun x'=>N9 E g ps [(t,false)] x'⟩) (by simp[news]) (fun x y h=>h) w (fun _=>False) args x (y,()) hphi (fun b h=>h.elim) ha h;refine h2.mono ?_;rintro e w' ⟨c',us,rfl,rfl,hok,_,_,_,hv⟩;refine⟨?_,hok.bel⟩;cases us with
 |nil=>simp[oI,bF]at hv
 |cons u us=>
  cases us with
  |cons _ _=>simp[oI,bF]at hv
  |nil=>
   simp_all [oI,bF,bJ,N8,VD.rigid]
theorem CE {E:Env} (hE:dB E) {g:FuncId} {e e2:Ty} (hpos:0<e.size) (hpos2:0<e2.size) {f:List e.den->Option (List e2.den)} (h1: ∀xs y,f xs=some y->lF E 1000000 (.call g [.lst e xs false]) ⟨[],[],[],0⟩ (fun v st=>jk true [(.list e2,true)] (N7 1 v) st.hp)=some (y,()))
  (h2: ∀y,f []=some y->y=[]/\lF E 1000000 (.call g [.lst e [] true]) ⟨[],[],[],0⟩ (fun v st=>match v,st.hp with|.nils,[]=>some ()|_,_=>none)=some ()):
  dU E.P g ⟨[.list e],[(.list e2,true)],fun x=>match f x.1 with|some y=>some (y,())|none=>none⟩:=fun w bar args' x y hphi hbar hdv hy=>.inl (by
 obtain⟨u,us',hu,hx,hnil⟩:=hdv;obtain⟨a,n,zs,q1,q2,q3,q4⟩:=qw hx;simp only at hy;split at hy
 ·rename_i y' hf
  cases hy;have hv:bF (kJ w bar) [.lst e x.1 a.isNone] args'.toList:=by
   rw[hu,show us'=[] from hnil];simp only[bF,bJ,and_true];simp_all
  cases ha:a.isNone with
  |true=>
   have hz:zs=[]:=by
    simp_all
   have hl:=fQ.length _ _ q3;rw[hz]at hl;have hx0:x.1=[]:=by
    cases hxx:x.1 with
    |nil=>rfl
    |cons a l=>rw[hxx]at hl;have:=Nat.mul_pos (show 0<(a::l).length by simp) hpos;simp_all
   rw[ha,hx0]at hv;rw[hx0]at hf;obtain⟨rfl,hrun⟩:=h2 _ hf;refine IY hE 1000000 _ w g [.lst e [] true] _ _ _ hrun 0 none (kJ w bar) ⟨#[],[]⟩ [] args' (EL hphi hbar) hv (Aw w bar [(.list e2,true)] ([],())) fun c1 z u st1 k1 k2 k3 k4=> ?_;split at k1
   ·rename_i hz0 hst
    simp only[bJ]at k3;obtain⟨c2,d1,d2,d3⟩:=qy (W0:=w) k2.ok k2.hp k2.nxt (id:=st1.nxt) (n':=st1.nxt+1) (by rw[hst];rfl) (ae _) (by omega) hpos2 (xs:=[]) (Below.refl _ _) (if e2=.int .u8 then oD else 0) [] (World.ownsRow_nil _ _ _ _) (by simp[fQ]) (v:=.slice none 0 0) rfl (fun h=>by simp[h]);have k1':jk true [(.list e2,true)] [.slc st1.nxt 0 none] c2.hp=some (([],()):List e2.den×Unit):=by
     rw[d1.hp];simp only[jk,dH,beq_self_eq_true,Nat.beq_refl,cond_true,gp];rfl
    have h3:bF c2 [.slc st1.nxt 0 none] [.slice none 0 0]:=by simp_all [bF]
    obtain⟨c',q1,q2,q3,q4,q5,q6⟩:=YO (rs:=[(.list e2,true)]) d1.ok k1' (by simp[news]) h3;exact⟨c',[.slice none 0 0],by rw[k3];rfl,q1.trans d2,q2,q3.trans (d1.le.bar.trans k4.bar),q4,q5,q6⟩
   ·cases k1
  |false=>
   rw[ha]at hv;have hrun:=h1 _ _ hf;refine IY hE 1000000 _ w g [.lst e x.1 false] _ _ _ hrun 0 none (kJ w bar) ⟨#[],[]⟩ [] args' (EL hphi hbar) hv (Aw w bar [(.list e2,true)] (y',())) fun c1 z u st1 k1 k2 k3 k4=> ?_;obtain⟨us,rfl,h3⟩:=Rk (own:=true) (rs:=[(.list e2,true)]) (hp:=st1.hp) (by grind) k3;rw[<-k2.hp]at k1;obtain⟨c',q1,q2,q3,q4,q5,q6⟩:=YO (rs:=[(.list e2,true)]) k2.ok k1 (by simp[news]) h3;exact⟨c',us,rfl,q1,q2,q3.trans k4.bar,q4,q5,q6⟩
 ·cases hy)
def TV:(rs:List Ty)->List bG->gz->Option (rs.foldr Ty.pair Ty.unit).den
 |[],[],_=>some ()
 |t::rs,v::l,hp=>match(bif true&&(mr v&& !t.rigid)then none else v.as hp t),TV rs l hp with
  |some x,some y=>some (x,y)
  |_,_=>none
 |_,_,_=>none
def avj (E:Env) (g:FuncId) (bt:TypeId) (cs:List (Ty×Bool)) (ps rs:List Ty) (x:((cs.map (·.1)).foldr Ty.pair Ty.unit).den) (y:(ps.foldr Ty.pair Ty.unit).den):Option (((cs.map (·.1)).foldr Ty.pair Ty.unit).den×(rs.foldr Ty.pair Ty.unit).den):=
 lF E 1000000 (.call g (.ptr 0 0::IW ps y)) ⟨[.ptr 0 0],[],(0,.box bt (F6 cs (iU cs 1) x))::sU cs (iU cs 1) x,0⟩ fun v st=>match st.fr with
  |[.ptr 0 0]=>match dH st.hp 0 with
   |some (.box t cells)=>bif Nat.beq t bt&&QV ((nU cs cells).map (·.1))then(match jF st.hp true cs cells with
    |some x'=>match TV rs (N7 rs.length v) st.hp with
     |some z'=>some (x',z')
     |none=>none
    |none=>none)else none
   |_=>none
  |_=>none
theorem Vs: ∀(rs:List Ty) (l:List bG) {hp:gz},(TV rs l hp).isSome=true->(jk true (rs.map fun t=>(t,false)) l hp).isSome=true
 |[],[],_,_=>rfl
 |[],_::_,_,h=>by simp[TV]at h
 |_::_,[],_,h=>by simp[TV]at h
 |t::rs,v::l,hp,h=>by
  simp only[TV]at h;split at h
  ·rename_i x y h1 h2
   have:=Vs rs l (hp:=hp) (by rw[h2];rfl);change @Option.isSome ((((t,false)::rs.map fun t=>(t,false)).map (·.1)).foldr Ty.pair Ty.unit).den (jk true ((t,false)::rs.map fun t=>(t,false)) (v::l) hp)=true;rw[jk];rw[show bG.asR hp true t v=v.as hp t from rfl,h1];cases h3:jk true (rs.map fun t=>(t,false)) l hp with
   |none=>simp_all
   |some z=>rfl
  ·cases h
theorem acl (hok:c.Ok W0): ∀(rs:List Ty) (l:List bG) (z) (us:List Value),TV rs l c.hp=some z->bF c l us->oh c rs z us
 |[],[],z,[],_,_=>rfl
 |[],[],_,_::_,_,hv=>by simp[bF]at hv
 |[],_::_,_,_,h,_=>by simp[TV]at h
 |_::_,[],_,_,h,_=>by simp[TV]at h
 |t::rs,v::l,z,[],_,hv=>by simp[bF]at hv
 |t::rs,v::l,z,u::us,h,hv=>by
  simp only[TV]at h;split at h
  ·rename_i x y h1 h2
   cases h;simp only[bF]at hv;exact⟨u,us,rfl,YP (own:=true) (c':=c) rfl (fun b h=>h) (fun h=>by cases h) hok h1 hv.1,acl hok rs l y us h2 hv.2⟩
  ·cases h
theorem acS {E:Env} (hE:dB E) {g:FuncId} {s:gY} (h: ∀x y z,s.f x y=some z->avj E g s.bt s.cs s.ps s.rs x y=some z):eX E.P g s:=fun W0 c x y z hok hmk hnx hhp args' hv hz=>by
 have h1:=h x y z hz;unfold avj at h1;obtain⟨us⟩:=args';cases us with
 |nil=>simp[bF]at hv
 |cons u0 us=>
 have hv':=hv;simp only[bF]at hv';obtain⟨hu0,_⟩:=hv';have hr:iO W0 0 none c ⟨[.ptr 0 0],[],(0,.box s.bt (F6 s.cs (iU s.cs 1) x))::sU s.cs (iU s.cs 1) x,0⟩ ⟨#[u0],[]⟩ []:=
  ⟨hhp,hnx,hok,by simp_all [bF],trivial,⟨[],rfl,List.nodup_nil,fun r hr=>by simp at hr⟩,fun l hl=>by cases hl⟩
 refine IY hE 1000000 _ W0 g (.ptr 0 0::IW s.ps y) _ _ z h1 0 none c ⟨#[u0],[]⟩ [] ⟨u0::us⟩ hr hv (avA W0 c s z) fun c1 v u st1 k1 k2 k3 k4=> ?_;split at k1<;>try (cases k1;done)
 rename_i hfr
 split at k1<;>try (cases k1;done)
 rename_i t cells hb
 replace k1:=di k1;obtain⟨hc,k1⟩:=k1;simp only[af]at hc;obtain⟨ht,hnd⟩:=hc;have ht:t=s.bt:=ak ht;subst ht;split at k1<;>try (cases k1;done)
 rename_i x' hx'
 split at k1<;>try (cases k1;done)
 rename_i z' hz'
 cases k1;obtain⟨us1,rfl,h3⟩:=Rk (own:=true) (rs:=s.rs.map fun t=>(t,false)) (hp:=st1.hp) (by simp_all [Vs]) k3;rw[aK]at h3;rw[<-k2.hp]at hb hx' hz';refine⟨c1,us1,cells,rfl,rfl,k2.ok,k4,hb, ?_,DU hnd,hx',acl k2.ok s.rs _ z' us1 hz' h3⟩;have hf:=k2.fr;rw[hfr]at hf;simp only[bF,bJ,and_true]at hf;simp only[bJ]at hu0;have e1:=hf.2.2 _ _ hb;have e2:=hu0.2.2 _ _ (by rw[hhp];simp[dV];exact⟨rfl,rfl⟩);simp_all
end
end
section
open Go.RowKit
def aij:Sum:=⟨[.str,.int .u8],[(.int .i64,false)],fun x=>some (Lib.indexByte x.1 x.2.1.toNat.toUInt8,())⟩
theorem ZI {w:World} {bar:Nat->Prop} (hphi:Phi w) (hb: ∀b,bar b->b<w.heap.size):(kJ w bar).Ok w:=(EL hphi hb).ok
theorem acT {P:Program} {g:FuncId} {fn:Func} (hf:P.funcs[g]? =some fn) (hname:(fn.name== "runtime.NumGoroutine")=false) (hb:fn.body.isNone=true) (hn:Extern.findNext fn=none)
  (he:Extern.find fn=some Extern.BytealgIndexByte.indexByte):dU P g aij:=by
 intro w bar args' x y hphi hbar hdv hy;obtain⟨u,us1,e1,h1,u2,us2,e2,h2,h3⟩:=hdv;simp only[oh]at h3;subst h3 e2;have ha:args'= #[u,u2]:=by
  grind
 subst ha;have e4:=h1.str_inv;have e5:=h2.int_inv;subst e4 e5;have hy2:=Option.some.inj hy;subst hy2;refine .inr ⟨_,by rw[run_callFunc_extern hf hname hb hn he,Lib.run_indexByteString];rfl,kJ w bar,[_],rfl,rfl,ZI hphi hbar,rfl,rfl,rfl, ?_⟩;simp_all [aij,oI,bF,bJ,VD.int_mk]
end
section
open Bool renaming and_eq_true → af, false_eq_true → ah
open List renaming mem_cons_of_mem → aj, mem_cons_self → aG
open Nat renaming eq_of_beq_eq_true → ak
open Go.RowKit
inductive FK where
 |u
 |v (t:Ty)
 |slc (id:Nat)
 |ptr (id off:Nat)
 |nils
 |slf (id:Nat)
 |yld (id:Nat)
 |nilp
 |e
 |fn (f:FuncId) (caps:List (Nat×Nat))
 |cp (t:Ty)
 |mpv (id:Nat)
 |mfn (f:FuncId) (fst:List (Nat×Nat))
 |kb (b:Bool)
def us (l:List FK) (n:Nat):List FK:=l++List.replicate n .u
def FKs.den:List FK->Ty
 |[]=>.unit
 |.v t::l=>.pair t (FKs.den l)
 |.u::l=>FKs.den l
 |.slc _::l=>FKs.den l
 |.ptr _ _::l=>FKs.den l
 |.nils::l=>FKs.den l
 |.slf _::l=>FKs.den l
 |.mpv _::l=>FKs.den l
 |.mfn _ _::l=>FKs.den l
 |.kb _::l=>FKs.den l
 |.yld _::l=>FKs.den l
 |.nilp::l=>FKs.den l
 |.e::l=>FKs.den l
 |.fn _ _::l=>FKs.den l
 |.cp t::l=>.pair t (FKs.den l)
def LP:List (Nat×Nat)->List bG
 |[]=>[]
 |(i,o)::l=>.ptr i o::LP l
def Td:(l:List FK)->(FKs.den l).den->List bG
 |[],_=>[]
 |.v t::l,y=>.val t y.1::Td l y.2
 |.u::l,y=>.undef::Td l y
 |.slc id::l,y=>.slc id 0 none::Td l y
 |.ptr id off::l,y=>.ptr id off::Td l y
 |.nils::l,y=>.nils::Td l y
 |.slf id::l,y=>.slf id::Td l y
 |.mpv id::l,y=>.mpv id::Td l y
 |.mfn f c::l,y=>.mfn f (LP c)::Td l y
 |.kb b::l,y=>.val .bool b::Td l y
 |.yld id::l,y=>.yld id::Td l y
 |.nilp::l,y=>.nilp::Td l y
 |.e::l,y=>.tup []::Td l y
 |.fn f caps::l,y=>.fn f (LP caps)::Td l y
 |.cp t::l,y=>.cellp t y.1::Td l y.2
def aio (t:Ty):bG->Option t.den
 |.val t' x=>jX t x
 |_=>none
def asB (t:Ty):bG->Option t.den
 |.cellp t' x=>jX t x
 |_=>none
def atn (b:Bool):bG->Bool
 |.val .bool c=>bif b then c else !c
 |_=>false
def isU:bG->Bool
 |.undef=>true
 |_=>false
def isNils:bG->Bool
 |.nils=>true
 |_=>false
def WY:bG->Bool
 |.nilp=>true
 |_=>false
def isE:bG->Bool
 |.tup l=>l.isEmpty
 |_=>false
def agz (id:Nat):bG->Bool
 |.slf i=>Nat.beq i id
 |_=>false
def agy (id:Nat):bG->Bool
 |.mpv i=>Nat.beq i id
 |_=>false
def agA (id:Nat):bG->Bool
 |.yld i=>Nat.beq i id
 |_=>false
def aaU (id:Nat):bG->Bool
 |.slc i v w=>Nat.beq i id&&(Nat.beq v 0&&(match w with|none=>true|some _=>false))
 |_=>false
def isPtr (id off:Nat):bG->Bool
 |.ptr i o=>Nat.beq i id&&Nat.beq o off
 |_=>false
def Hu:List (Nat×Nat)->List bG->Bool
 |[],[]=>true
 |(i,o)::c,v::l=>isPtr i o v&&Hu c l
 |_,_=>false
def aoE (f:FuncId) (c:List (Nat×Nat)):bG->Bool
 |.fn g l=>Nat.beq g f&&Hu c l
 |_=>false
def aaR (f:FuncId) (c:List (Nat×Nat)):bG->Bool
 |.mfn g l=>Nat.beq g f&&Hu c l
 |_=>false
theorem afB {t:Ty} {v:bG} {x:t.den} (h:aio t v=some x):v=.val t x:=by
 cases v with
 |val t' z=>
  grind [aio,iF,gp]
 |_=>simp[aio]at h
theorem aiD {t:Ty} {v:bG} {x:t.den} (h:asB t v=some x):v=.cellp t x:=by
 cases v with
 |cellp t' z=>
  grind [asB,iF,gp]
 |_=>simp[asB]at h
theorem aoF {v:bG} (h:isU v=true):v=.undef:=by grind [isU]
theorem aaT {v:bG} (h:isNils v=true):v=.nils:=by grind [isNils]
theorem Dy: ∀{c:List (Nat×Nat)} {l:List bG},Hu c l=true->l=LP c
 |[],[],_=>rfl
 |(i,o)::c,v::l,h=>by
  simp only[Hu,af]at h;have h1:v=.ptr i o:=by
   have:=h.1;cases v<;>simp only[isPtr,ah]at this;simp_all
  rw[h1,Dy h.2];rfl
 |[],_::_,h=>by simp[Hu]at h
 |_::_,[],h=>by simp[Hu]at h
theorem akp {f:FuncId} {c:List (Nat×Nat)} {v:bG} (h:aoE f c v=true):v=.fn f (LP c):=by
 cases v with
 |fn g l=>
  simp only[aoE,af]at h;rw[ak h.1,Dy h.2]
 |_=>simp[aoE]at h
theorem akq {b:Bool} {v:bG} (h:atn b v=true):v=.val .bool b:=by
 unfold atn at h;split at h
 ·rename_i c
  cases b<;>cases c<;>first|rfl|exact absurd h (by decide)
 ·exact absurd h (by decide)
theorem ad2 {f:FuncId} {c:List (Nat×Nat)} {v:bG} (h:aaR f c v=true):v=.mfn f (LP c):=by
 cases v with
 |mfn g l=>
  simp only[aaR,af]at h;rw[ak h.1,Dy h.2]
 |_=>simp[aaR]at h
theorem aaS {v:bG} (h:WY v=true):v=.nilp:=by grind [WY]
theorem aoD {v:bG} (h:isE v=true):v=.tup []:=by
 cases v with
 |tup l=>simp_all [isE]
 |_=>simp[isE]at h
theorem ad6 {id:Nat} {v:bG} (h:agz id v=true):v=.slf id:=by
 cases v with
 |slf i=>rw[ak h]
 |_=>simp[agz]at h
theorem ad3 {id:Nat} {v:bG} (h:agy id v=true):v=.mpv id:=by
 cases v with
 |mpv i=>rw[ak h]
 |_=>simp[agy]at h
theorem ad7 {id:Nat} {v:bG} (h:agA id v=true):v=.yld id:=by
 cases v with
 |yld i=>rw[ak h]
 |_=>simp[agA]at h
theorem ad4 {id:Nat} {v:bG} (h:aaU id v=true):v=.slc id 0 none:=by
 cases v with
 |slc i k w=>
  simp only[aaU,af]at h;obtain rfl:i=id:=ak h.1;obtain rfl:k=0:=ak h.2.1
  grind
 |_=>simp[aaU]at h
theorem ad5 {id off:Nat} {v:bG} (h:isPtr id off v=true):v=.ptr id off:=by
 cases v with
 |ptr i o=>
  simp_all [isPtr]
 |_=>simp[isPtr]at h
def jZ:(l:List FK)->List bG->Option (FKs.den l).den
 |[],fr=>match fr with
  |[]=>some ()
  |_=>none
 |.v t::l,fr=>match fr with
  |v::fr=>match aio t v,jZ l fr with
   |some x,some y=>some (x,y)
   |_,_=>none
  |[]=>none
 |.u::l,fr=>match fr with
  |v::fr=>bif isU v then jZ l fr else none
  |[]=>none
 |.slc id::l,fr=>match fr with
  |v::fr=>bif aaU id v then jZ l fr else none
  |[]=>none
 |.ptr id off::l,fr=>match fr with
  |v::fr=>bif isPtr id off v then jZ l fr else none
  |[]=>none
 |.nils::l,fr=>match fr with
  |v::fr=>bif isNils v then jZ l fr else none
  |[]=>none
 |.nilp::l,fr=>match fr with
  |v::fr=>bif WY v then jZ l fr else none
  |[]=>none
 |.e::l,fr=>match fr with
  |v::fr=>bif isE v then jZ l fr else none
  |[]=>none
 |.fn f c::l,fr=>match fr with
  |v::fr=>bif aoE f c v then jZ l fr else none
  |[]=>none
 |.mfn f c::l,fr=>match fr with
  |v::fr=>bif aaR f c v then jZ l fr else none
  |[]=>none
 |.kb b::l,fr=>match fr with
  |v::fr=>bif atn b v then jZ l fr else none
  |[]=>none
 |.slf id::l,fr=>match fr with
  |v::fr=>bif agz id v then jZ l fr else none
  |[]=>none
 |.mpv id::l,fr=>match fr with
  |v::fr=>bif agy id v then jZ l fr else none
  |[]=>none
 |.yld id::l,fr=>match fr with
  |v::fr=>bif agA id v then jZ l fr else none
  |[]=>none
 |.cp t::l,fr=>match fr with
  |v::fr=>match asB t v,jZ l fr with
   |some x,some y=>some (x,y)
   |_,_=>none
  |[]=>none
theorem iJ: ∀(l:List FK) (fr:List bG) (y:(FKs.den l).den),jZ l fr=some y->fr=Td l y
 |[],fr,y,h=>by
  simp only[jZ]at h;split at h
  ·rfl
  ·cases h
 |.v t::l,fr,y,h=>by
  simp only[jZ]at h;split at h
  ·split at h
   ·rename_i x y' hx hy
    cases h;rw[afB hx,iJ l _ y' hy];rfl
   ·cases h
  ·cases h
 |.u::l,fr,y,h=>by
  simp only[jZ]at h;split at h
  ·rename_i v fr
   obtain⟨hu,h⟩:isU v=true/\jZ l fr=some y:=di h;rw[aoF hu,iJ l fr y h];rfl
  ·cases h
 |.slc id::l,fr,y,h=>by
  simp only[jZ]at h;split at h
  ·rename_i v fr
   obtain⟨hu,h⟩:aaU id v=true/\jZ l fr=some y:=di h;rw[ad4 hu,iJ l fr y h];rfl
  ·cases h
 |.ptr id off::l,fr,y,h=>by
  simp only[jZ]at h;split at h
  ·rename_i v fr
   obtain⟨hu,h⟩:isPtr id off v=true/\jZ l fr=some y:=di h;rw[ad5 hu,iJ l fr y h];rfl
  ·cases h
 |.nils::l,fr,y,h=>by
  simp only[jZ]at h;split at h
  ·rename_i v fr
   obtain⟨hu,h⟩:isNils v=true/\jZ l fr=some y:=di h;rw[aaT hu,iJ l fr y h];rfl
  ·cases h
 |.nilp::l,fr,y,h=>by
  simp only[jZ]at h;split at h
  ·rename_i v fr
   obtain⟨hu,h⟩:WY v=true/\jZ l fr=some y:=di h;rw[aaS hu,iJ l fr y h];rfl
  ·cases h
 |.e::l,fr,y,h=>by
  simp only[jZ]at h;split at h
  ·rename_i v fr
   obtain⟨hu,h⟩:isE v=true/\jZ l fr=some y:=di h;rw[aoD hu,iJ l fr y h];rfl
  ·cases h
 |.fn f c::l,fr,y,h=>by
  simp only[jZ]at h;split at h
  ·rename_i v fr
   obtain⟨hu,h⟩:aoE f c v=true/\jZ l fr=some y:=di h;rw[akp hu,iJ l fr y h];rfl
  ·cases h
 |.mfn f c::l,fr,y,h=>by
  simp only[jZ]at h;split at h
  ·rename_i v fr
   obtain⟨hu,h⟩:aaR f c v=true/\jZ l fr=some y:=di h;rw[ad2 hu,iJ l fr y h];rfl
  ·cases h
 |.kb b::l,fr,y,h=>by
  simp only[jZ]at h;split at h
  ·rename_i v fr
   obtain⟨hu,h⟩:atn b v=true/\jZ l fr=some y:=di h;rw[akq hu,iJ l fr y h];rfl
  ·cases h
 |.slf id::l,fr,y,h=>by
  simp only[jZ]at h;split at h
  ·rename_i v fr
   obtain⟨hu,h⟩:agz id v=true/\jZ l fr=some y:=di h;rw[ad6 hu,iJ l fr y h];rfl
  ·cases h
 |.mpv id::l,fr,y,h=>by
  simp only[jZ]at h;split at h
  ·rename_i v fr
   obtain⟨hu,h⟩:agy id v=true/\jZ l fr=some y:=di h;rw[ad3 hu,iJ l fr y h];rfl
  ·cases h
 |.yld id::l,fr,y,h=>by
  simp only[jZ]at h;split at h
  ·rename_i v fr
   obtain⟨hu,h⟩:agA id v=true/\jZ l fr=some y:=di h;rw[ad7 hu,iJ l fr y h];rfl
  ·cases h
 |.cp t::l,fr,y,h=>by
  simp only[jZ]at h;split at h
  ·split at h
   ·rename_i x y' hx hy
    cases h;rw[aiD hx,iJ l _ y' hy];rfl
   ·cases h
  ·cases h
noncomputable def rfA (f:FuncId) (k:Nat):Code:=match qJ f k with
 |some (a,_)=>a
 |none=>.skip
noncomputable def rfB (f:FuncId) (k:Nat):Code:=match qJ f k with
 |some (_,b)=>b
 |none=>.skip
inductive HK where
 |arr (id:Nat) (e:Ty)
 |box (id:Nat) (t:TypeId) (cs:List FK)
 |mp (id:Nat) (kk vk:IntKind)
 |lp (id:Nat) (f:FuncId) (fr:List FK) (ps:List Nat) (key:Nat) (n:Nat) (p:Option Ex)
def HKs.den:List HK->Ty
 |[]=>.unit
 |.arr _ e::l=>.pair (.list e) (HKs.den l)
 |.mp _ kk vk::l=>.pair (.list (.pair (.int kk) (.int vk))) (HKs.den l)
 |.box _ _ cs::l=>.pair (FKs.den cs) (HKs.den l)
 |.lp _ _ fr _ _ _ _::l=>.pair (FKs.den fr) (HKs.den l)
noncomputable def mkH:(l:List HK)->(HKs.den l).den->gz
 |[],_=>[]
 |.arr id e::l,y=>(id,.arr e 0 y.1)::mkH l y.2
 |.mp id kk vk::l,y=>(id,.mp kk vk y.1)::mkH l y.2
 |.box id t cs::l,y=>(id,.box t (Td cs y.1))::mkH l y.2
 |.lp id f fr ps key n p::l,y=>(id,.lp f (Td fr y.1) ps (rfA f key) (rfB f key) (some key) n p)::mkH l y.2
def afE (e:Ty):dD->Option (List e.den)
 |.arr e' v xs=>bif Nat.beq v 0 then jX (.list e) (t':=.list e') xs else none
 |_=>none
def auy (kk vk:IntKind):dD->Option (List (Int×Int))
 |.mp k v es=>bif decide (k=kk)&&decide (v=vk)then some es else none
 |_=>none
theorem akL {kk vk:IntKind} {o:dD} {x:List (Int×Int)} (h:auy kk vk o=some x):o=.mp kk vk x:=by
 cases o with
 |mp k v es=>
  simp only[auy]at h
  grind
 |_=>simp[auy]at h
def afH (t:TypeId) (cs:List FK):dD->Option (FKs.den cs).den
 |.box t' l=>bif Nat.beq t' t then jZ cs l else none
 |_=>none
def ayC:Ex->Ex->Bool
 |.normal,.normal=>true
 |.exit i,.exit j=>Nat.beq i j
 |.goto i,.goto j=>Nat.beq i j
 |.ret,.ret=>true
 |_,_=>false
def apP:Option Ex->Option Ex->Bool
 |none,none=>true
 |some a,some b=>ayC a b
 |_,_=>false
def Lm:List Nat->List Nat->Bool
 |[],[]=>true
 |a::l,b::m=>Nat.beq a b&&Lm l m
 |_,_=>false
theorem aj7 {a b:Ex} (h:ayC a b=true):a=b:=by
 cases a<;>cases b<;>simp only[ayC,ah]at h<;>first|rfl|simp_all
theorem afb {a b:Option Ex} (h:apP a b=true):a=b:=by
 cases a<;>cases b<;>simp only[apP,ah]at h<;>first|rfl|rw[aj7 h]
theorem Nr: ∀{l m:List Nat},Lm l m=true->l=m
 |[],[],_=>rfl
 |a::l,b::m,h=>by
  simp only[Lm,af]at h;rw[ak h.1,Nr h.2]
 |[],_::_,h=>by simp[Lm]at h
 |_::_,[],h=>by simp[Lm]at h
def ape (f:FuncId) (fr:List FK) (ps:List Nat) (key n:Nat) (p:Option Ex):dD->Option (FKs.den fr).den
 |.lp f' fr' ps' _ _ (some k') n' p'=>bif Nat.beq f' f&&(Lm ps' ps&&(Nat.beq k' key&&(Nat.beq n' n&&apP p' p)))then jZ fr fr' else none
 |_=>none
theorem adc {e:Ty} {o:dD} {x:List e.den} (h:afE e o=some x):o=.arr e 0 x:=by
 cases o with
 |arr e' v xs=>
  simp only[afE]at h;rw[cond_eq_ite]at h;split at h
  ·rename_i hv
   obtain rfl:v=0:=ak hv
   grind [iF,gp]
  ·cases h
 |_=>simp[afE]at h
theorem adl {t:TypeId} {cs:List FK} {o:dD} {x:(FKs.den cs).den} (h:afH t cs o=some x):o=.box t (Td cs x):=by
 cases o with
 |box t' l=>
  simp only[afH]at h;obtain⟨h1,h⟩:=di h;rw[iJ cs l x h,ak h1]
 |_=>simp[afH]at h
theorem akH {f:FuncId} {fr:List FK} {ps:List Nat} {key n:Nat} {p:Option Ex} {o:dD} {x:(FKs.den fr).den} (hw:WfO o) (h:ape f fr ps key n p o=some x):o=.lp f (Td fr x) ps (rfA f key) (rfB f key) (some key) n p:=by
 cases o with
 |lp f' fr' ps' iY bd ky n' p'=>
  cases ky with
  |none=>simp[ape]at h
  |some k'=>
   simp only[ape]at h;replace h:=di h;obtain⟨hc,h⟩:=h;simp only[af]at hc;obtain⟨h1,h2,h3,h4,h5⟩:=hc;have h1:=ak h1;have h2:=Nr h2;have h3:=ak h3;have h4:=ak h4;have h5:=afb h5;subst h1 h2 h3 h4 h5;have hw':qJ f' k'=some (iY,bd):=hw;have hA:rfA f' k'=iY:=by unfold rfA;rw[hw']
   have hB:rfB f' k'=bd:=by unfold rfB;rw[hw']
   grind [iJ]
 |_=>simp[ape]at h
def NY:(l:List HK)->gz->Option (HKs.den l).den
 |[],hp=>match hp with
  |[]=>some ()
  |_=>none
 |.arr id e::l,hp=>match hp with
  |(j,o)::hp=>bif Nat.beq j id then(match afE e o,NY l hp with
   |some x,some y=>some (x,y)
   |_,_=>none)else none
  |[]=>none
 |.mp id kk vk::l,hp=>match hp with
  |(j,o)::hp=>bif Nat.beq j id then(match auy kk vk o,NY l hp with
   |some x,some y=>some (x,y)
   |_,_=>none)else none
  |[]=>none
 |.box id t cs::l,hp=>match hp with
  |(j,o)::hp=>bif Nat.beq j id then(match afH t cs o,NY l hp with
   |some x,some y=>some (x,y)
   |_,_=>none)else none
  |[]=>none
 |.lp id f fr ps key n p::l,hp=>match hp with
  |(j,o)::hp=>bif Nat.beq j id then(match ape f fr ps key n p o,NY l hp with
   |some x,some y=>some (x,y)
   |_,_=>none)else none
  |[]=>none
theorem vN: ∀(l:List HK) (hp:gz) (y:(HKs.den l).den),(∀e∈hp,WfO e.2)->NY l hp=some y->hp=mkH l y
 |[],hp,y,_,h=>by
  simp only[NY]at h;split at h
  ·rfl
  ·cases h
 |.arr id e::l,hp,y,hw,h=>by
  simp only[NY]at h;split at h
  ·rw[cond_eq_ite]at h;split at h
   ·rename_i hb
    split at h
    ·rename_i x y' hx hy
     cases h;rw[adc hx,vN l _ y' (fun e he=>hw e (aj _ he)) hy,ak hb];rfl
    ·cases h
   ·cases h
  ·cases h
 |.mp id kk vk::l,hp,y,hw,h=>by
  simp only[NY]at h;split at h
  ·rw[cond_eq_ite]at h;split at h
   ·rename_i hb
    split at h
    ·rename_i x y' hx hy
     cases h;rw[akL hx,vN l _ y' (fun e he=>hw e (aj _ he)) hy,ak hb];rfl
    ·cases h
   ·cases h
  ·cases h
 |.box id t cs::l,hp,y,hw,h=>by
  simp only[NY]at h;split at h
  ·rw[cond_eq_ite]at h;split at h
   ·rename_i hb
    split at h
    ·rename_i x y' hx hy
     cases h;rw[adl hx,vN l _ y' (fun e he=>hw e (aj _ he)) hy,ak hb];rfl
    ·cases h
   ·cases h
  ·cases h
 |.lp id f fr ps key n p::l,hp,y,hw,h=>by
  simp only[NY]at h;split at h
  ·rw[cond_eq_ite]at h;split at h
   ·rename_i hb
    split at h
    ·rename_i x y' hx hy
     cases h;have hw0:=hw _ aG;dsimp only at hw0;rw[akH hw0 hx,vN l _ y' (fun e he=>hw e (aj _ he)) hy,ak hb];rfl
    ·cases h
   ·cases h
  ·cases h
structure SP where
 fr:List FK
 hp:List HK
def SP.den (p:SP):Type:=(FKs.den p.fr).den×(HKs.den p.hp).den
noncomputable def jL (p:SP) (y:p.den):St:=⟨Td p.fr y.1,[[]],mkH p.hp y.2,0⟩
def aoz (p:SP) (st:St):Option p.den:=
 match st.stk,st.nxt with
 |[[]],0=>match jZ p.fr st.fr,NY p.hp st.hp with
  |some x,some y=>bif rW st.hp then some (x,y)else none
  |_,_=>none
 |_,_=>none
theorem Qj {p:SP} {st:St} {y:p.den} (hw:WfH st.hp) (h:aoz p st=some y):st=jL p y:=by
 obtain⟨fr,stk,hp,nxt⟩:=st;unfold aoz at h;split at h
 ·rename_i h1 h2
  subst h1 h2;split at h
  ·rename_i x y' hx hy
   replace h:=di h;obtain⟨hn,h⟩:=h;cases h;have e1:=iJ _ _ _ hx;have e2:=vN _ _ _ (MJ _ hn hw) hy;simp_all [jL]
  ·cases h
 ·cases h
def vz {R:Type} (E:Env) (d:Nat) (f:FuncId) (c:Code):St->(Ex->St->Option R)->Option R:=run (E.at d) (lF E d) (UD E d) f c
noncomputable def iD (k:dM) (l la lb:SP) (ex:Ex) (sp:l.den->Option (la.den⊕lb.den)) (dep:Nat:=0) (exb:Ex:=.ret):dC:={
 V:=l.den
 A:=fun _=>la.den
 B:=fun _=>lb.den
 get:=fun st=>match Ku k.slots k.owns st with
  |some st=>aoz l st
  |none=>none
 spec:=sp
 exA:=fun _=>ex
 stA:=fun _ _ a=>jL la a
 stB:=fun _ _ b=>jL lb b
 dep:=dep
 exB:=fun _=>exb}
theorem akF {E:Env} {f:FuncId} {c:Code} {k:dM} {l la lb:SP} {ex:Ex} {sp:l.den->Option (la.den⊕lb.den)} {dep:Nat} {exb:Ex} (hk:E.kp f (cZ c)=some k)
  (h: ∀(R:Type) (d:Nat) (K:Ex->St->Option R) (v:l.den) o,sp v=some o->
   ∃m,iter (some k) (vz E (d+dep) f c) m (jL l v) K=dL o (fun a=>K ex (jL la a)) fun b=>K exb (jL lb b)):eQ E f c (iD k l la lb ex sp dep exb):=by
 intro R d r st v K hwf hg hr;simp only[iD]at hg;split at hg
 ·rename_i st1 ht
  have e:=Qj (hwf _ _ _ ht) hg;subst e;simp only[iD]at hr;cases ho:sp v with
  |none=>rw[ho]at hr;cases hr
  |some o=>
   rw[ho]at hr;obtain⟨m,hm⟩:=h R d K v o ho;have hk2:(E.at (d+(iD k l la lb ex sp dep exb).dep)).kp f (cZ c)=some k:=hk;refine⟨m,jL l v,by rw[hk2];exact ht, ?_⟩;rw[hk2];exact hm.trans hr
 ·cases hg
theorem Dh {E:Env} {f:FuncId} {c:Code} {k:dM} {l la lb:SP} {ex:Ex} {sp:l.den->Option (la.den⊕lb.den)} {dep:Nat} {exb:Ex} (hk:E.kp f (800000+cZ c)=some k)
  (h: ∀(R:Type) (d:Nat) (K:Ex->St->Option R) (v:l.den) o,sp v=some o->
   ∃m,iter (some k) (yD (vz E (d+dep) f c)) m (jL l v) K=dL o (fun a=>K ex (jL la a)) fun b=>K exb (jL lb b)):qO E f c (iD k l la lb ex sp dep exb):=by
 intro R d r st v K hwf hg hr;simp only[iD]at hg;split at hg
 ·rename_i st1 ht
  have e:=Qj (hwf _ _ _ ht) hg;subst e;simp only[iD]at hr;cases ho:sp v with
  |none=>rw[ho]at hr;cases hr
  |some o=>
   rw[ho]at hr;obtain⟨m,hm⟩:=h R d K v o ho;have hk2:(E.at (d+(iD k l la lb ex sp dep exb).dep)).kp f (800000+cZ c)=some k:=hk;refine⟨m,jL l v,by rw[hk2];exact ht, ?_⟩;rw[hk2];exact hm.trans hr
 ·cases hg
def FKss.den:List (List FK)->Type
 |[]=>Unit
 |l::ls=>(FKs.den l).den×FKss.den ls
def mkK:(l:List (List FK))->FKss.den l->List (List bG)
 |[],_=>[]
 |l::ls,y=>Td l y.1::mkK ls y.2
def aoy:(l:List (List FK))->List (List bG)->Option (FKss.den l)
 |[],st=>match st with
  |[]=>some ()
  |_=>none
 |l::ls,st=>match st with
  |fr::st=>match jZ l fr,aoy ls st with
   |some x,some y=>some (x,y)
   |_,_=>none
  |[]=>none
theorem UM: ∀(l:List (List FK)) (st:List (List bG)) (y:FKss.den l),aoy l st=some y->st=mkK l y
 |[],st,y,h=>by
  simp only[aoy]at h;split at h
  ·rfl
  ·cases h
 |l::ls,st,y,h=>by
  simp only[aoy]at h;split at h
  ·split at h
   ·rename_i x y' hx hy
    cases h;rw[iJ _ _ _ hx,UM ls _ y' hy];rfl
   ·cases h
  ·cases h
structure SQ where
 fr:List FK
 stk:List (List FK)
 hp:List HK
def SQ.den (p:SQ):Type:=(FKs.den p.fr).den×(FKss.den p.stk×(HKs.den p.hp).den)
noncomputable def ku (p:SQ) (y:p.den):St:=⟨Td p.fr y.1,mkK p.stk y.2.1,mkH p.hp y.2.2,0⟩
def adZ (p:SQ) (st:St):Option p.den:=
 match st.nxt with
 |0=>match jZ p.fr st.fr,aoy p.stk st.stk,NY p.hp st.hp with
  |some x,some k,some y=>bif rW st.hp then some (x,k,y)else none
  |_,_,_=>none
 |_=>none
theorem MX {p:SQ} {st:St} {y:p.den} (hw:WfH st.hp) (h:adZ p st=some y):st=ku p y:=by
 obtain⟨fr,stk,hp,nxt⟩:=st;unfold adZ at h;split at h
 ·rename_i h2
  subst h2;split at h
  ·rename_i x k y' hx hk hy
   replace h:=di h;obtain⟨hn,h⟩:=h;cases h;have e1:=iJ _ _ _ hx;have e2:=vN _ _ _ (MJ _ hn hw) hy
   grind [UM,ku]
  ·cases h
 ·cases h
noncomputable def fO (k:dM) (l la lb:SQ) (ex:Ex) (sp:l.den->Option (la.den⊕lb.den)) (dep:Nat:=0) (exb:Ex:=.ret):dC:={
 V:=l.den
 A:=fun _=>la.den
 B:=fun _=>lb.den
 get:=fun st=>match Ku k.slots k.owns st with
  |some st=>adZ l st
  |none=>none
 spec:=sp
 exA:=fun _=>ex
 stA:=fun _ _ a=>ku la a
 stB:=fun _ _ b=>ku lb b
 dep:=dep
 exB:=fun _=>exb}
theorem aet {E:Env} {f:FuncId} {c:Code} {k:dM} {l la lb:SQ} {ex:Ex} {sp:l.den->Option (la.den⊕lb.den)} {dep:Nat} {exb:Ex} (hk:E.kp f (cZ c)=some k)
  (h: ∀(R:Type) (d:Nat) (K:Ex->St->Option R) (v:l.den) o,sp v=some o->
   ∃m,iter (some k) (vz E (d+dep) f c) m (ku l v) K=dL o (fun a=>K ex (ku la a)) fun b=>K exb (ku lb b)):eQ E f c (fO k l la lb ex sp dep exb):=by
 intro R d r st v K hwf hg hr;simp only[fO]at hg;split at hg
 ·rename_i st1 ht
  have e:=MX (hwf _ _ _ ht) hg;subst e;simp only[fO]at hr;cases ho:sp v with
  |none=>rw[ho]at hr;cases hr
  |some o=>
   rw[ho]at hr;obtain⟨m,hm⟩:=h R d K v o ho;have hk2:(E.at (d+(fO k l la lb ex sp dep exb).dep)).kp f (cZ c)=some k:=hk;refine⟨m,ku l v,by rw[hk2];exact ht, ?_⟩;rw[hk2];exact hm.trans hr
 ·cases hg
theorem Ux {E:Env} {f:FuncId} {c:Code} {k:dM} {l la lb:SQ} {ex:Ex} {sp:l.den->Option (la.den⊕lb.den)} {dep:Nat} {exb:Ex} (hk:E.kp f (800000+cZ c)=some k)
  (h: ∀(R:Type) (d:Nat) (K:Ex->St->Option R) (v:l.den) o,sp v=some o->
   ∃m,iter (some k) (yD (vz E (d+dep) f c)) m (ku l v) K=dL o (fun a=>K ex (ku la a)) fun b=>K exb (ku lb b)):qO E f c (fO k l la lb ex sp dep exb):=by
 intro R d r st v K hwf hg hr;simp only[fO]at hg;split at hg
 ·rename_i st1 ht
  have e:=MX (hwf _ _ _ ht) hg;subst e;simp only[fO]at hr;cases ho:sp v with
  |none=>rw[ho]at hr;cases hr
  |some o=>
   rw[ho]at hr;obtain⟨m,hm⟩:=h R d K v o ho;have hk2:(E.at (d+(fO k l la lb ex sp dep exb).dep)).kp f (800000+cZ c)=some k:=hk;refine⟨m,ku l v,by rw[hk2];exact ht, ?_⟩;rw[hk2];exact hm.trans hr
 ·cases hg
def jK (L M:dC):dC:={
 V:=L.V⊕M.V
 A:=fun v=>match v with|.inl v=>L.A v|.inr v=>M.A v
 B:=fun v=>match v with|.inl v=>L.B v|.inr v=>M.B v
 get:=fun st=>match L.get st with
  |some v=>some (.inl v)
  |none=>match M.get st with
   |some v=>some (.inr v)
   |none=>none
 spec:=fun v=>match v with|.inl v=>L.spec v|.inr v=>M.spec v
 exA:=fun v=>match v with|.inl v=>L.exA v|.inr v=>M.exA v
 stA:=fun st v=>match v with|.inl v=>L.stA st v|.inr v=>M.stA st v
 stB:=fun st v=>match v with|.inl v=>L.stB st v|.inr v=>M.stB st v
 dep:=L.dep+M.dep
 exB:=fun v=>match v with|.inl v=>L.exB v|.inr v=>M.exB v}
theorem qZ {E:Env} {f:FuncId} {c:Code} {L M:dC} (h1:eQ E f c L) (h2:eQ E f c M):eQ E f c (jK L M):=fun R m r st v K hwf hg hr=>by
 simp only[jK]at hg;split at hg
 ·rename_i v1 hv
  cases hg;have e:m+(jK L M).dep=(m+M.dep)+L.dep:=by show m+(L.dep+M.dep)=_;omega
  rw[e];exact h1 R _ r st v1 K hwf hv hr
 ·split at hg
  ·rename_i v1 hv
   cases hg;have e:m+(jK L M).dep=(m+L.dep)+M.dep:=by show m+(L.dep+M.dep)=_;omega
   rw[e];exact h2 R _ r st v1 K hwf hv hr
  ·cases hg
theorem amB {E:Env} {f:FuncId} {c:Code} {L M:dC} (h1:qO E f c L) (h2:qO E f c M):qO E f c (jK L M):=fun R m r st v K hwf hg hr=>by
 simp only[jK]at hg;split at hg
 ·rename_i v1 hv
  cases hg;have e:m+(jK L M).dep=(m+M.dep)+L.dep:=by show m+(L.dep+M.dep)=_;omega
  rw[e];exact h1 R _ r st v1 K hwf hv hr
 ·split at hg
  ·rename_i v1 hv
   cases hg;have e:m+(jK L M).dep=(m+L.dep)+M.dep:=by show m+(L.dep+M.dep)=_;omega
   rw[e];exact h2 R _ r st v1 K hwf hv hr
  ·cases hg
end
end Go.Proofs.YtfmikaahgehndaaGreatDoor
