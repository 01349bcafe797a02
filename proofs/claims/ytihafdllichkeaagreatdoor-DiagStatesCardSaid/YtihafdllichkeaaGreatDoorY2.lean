/- Parts of the proof, joined and shortened by a program: the plain machine, the functions as it prints them, and the mathematics over them. -/
import Derived.Stop.Looks
import Derived.RangeFuncNested
import Derived.RangeFuncRecord
import Derived.Sort.LoopGhostIn
import Derived.Laws.Externs
import Derived.Lib.Bytealg
import Derived.Test.YtihafdllichkeaaGreatDoorY1
set_option linter.unusedVariables false
set_option linter.unusedSimpArgs false
set_option maxRecDepth 100000
set_option maxHeartbeats 4000000
namespace Go.Proofs.YtihafdllichkeaaGreatDoor
section
open List renaming map_cons → az, mem_cons_of_mem → aA
open Nat renaming le_refl → ah
open Option renaming map_some → bn
open Go.RowKit
structure Cx.Keeps (c c':Cx) (l:List Nat):Prop where
 free: ∀b,c.free b->c'.free b/\c'.w.heap[b]? =c.w.heap[b]?
 ref: ∀id∈l,c.known id->c'.known id
 obj: ∀id∈l,∀o',dR c'.hp id=some o'-> ∃o,dR c.hp id=some o/\o.like (c.mu id) o' (c'.mu id)
theorem Cx.Keeps.sub {c c':Cx} {l m:List Nat} (h:c.Keeps c' l) (hs: ∀i∈m,i∈l):c.Keeps c' m:=⟨h.free,fun i hi=>h.ref i (hs i hi),fun i hi=>h.obj i (hs i hi)⟩
theorem Cx.Keeps.left {c c':Cx} {l m:List Nat} (h:c.Keeps c' (l++m)):c.Keeps c' l:=h.sub fun i hi=>List.mem_append_left _ hi
theorem Cx.Keeps.right {c c':Cx} {l m:List Nat} (h:c.Keeps c' (l++m)):c.Keeps c' m:=h.sub fun i hi=>List.mem_append_right _ hi
mutual
theorem bY.keeps {c c':Cx}: ∀(v:bV) (x:Value),c.Keeps c' (refs v)->bY c v x->bY c' v x
 |.undef,_,_,_=>by simp[bY]
 |.val t x,v,h,hv=>by
  simp only[bY]at hv ⊢;exact⟨fun e=>let⟨cs,h1,h2⟩:=hv.1 e;⟨cs,h1,fO.mono h.free t x _ h2⟩,fun e=>fO.mono h.free t x _ (hv.2 e)⟩
 |.nils,_,_,hv=>by simpa only[bY] using hv
 |.emp,_,_,hv=>by simpa only[bY] using hv
 |.lst t x b,v,h,hv=>by
  simp only[bY]at hv ⊢;exact⟨⟨fun e=>let⟨cs,h1,h2⟩:=hv.1.1 e;⟨cs,h1,fO.mono h.free (.list t) x _ h2⟩,fun e=>fO.mono h.free (.list t) x _ (hv.1.2 e)⟩,hv.2⟩
 |.nilp,_,_,hv=>by simpa only[bY] using hv
 |.nilfn,_,_,hv=>by simpa only[bY] using hv
 |.tup l,v,h,hv=>by simp only[bY]at hv ⊢;obtain⟨vs,h1,h2⟩:=hv;exact⟨vs,h1,bQ.keeps l _ (by simpa [refs] using h) h2⟩
 |.agg l,v,h,hv=>by simp only[bY]at hv ⊢;obtain⟨vs,h1,h2,h3⟩:=hv;exact⟨vs,h1,bQ.keeps l _ (by simpa [refs] using h) h2,h3⟩
 |.cellp t x,v,h,hv=>by
  simp only[bY]at hv ⊢;obtain⟨b,o,zs,h1,h2,h3,h4⟩:=hv;exact⟨b,o,zs,h1,(h.free b h2).1,h3.of_block (h.free b h2).2,fO.mono h.free t x _ h4⟩
 |.ptr id off,v,h,hv=>by
  simp only[bY]at hv ⊢;obtain⟨hone,hv⟩:=hv;refine⟨hone,h.ref id (by simp[refs]) hv.1,fun t cs hc=> ?_⟩;obtain⟨o,h1,h2⟩:=h.obj id (by simp[refs]) _ hc;cases o<;>simp only[dN.like]at h2;rw[h2];exact hv.2 _ _ h1
 |.slf id,v,h,hv=>by
  simp only[bY]at hv ⊢;obtain⟨hone,hv⟩:=hv;refine⟨hone,h.ref id (by simp[refs]) hv.1,fun t cs hc=> ?_⟩;obtain⟨o,h1,h2⟩:=h.obj id (by simp[refs]) _ hc;cases o<;>simp only[dN.like]at h2;rw[h2];exact hv.2 _ _ h1
 |.sd id ver,v,h,hv=>by
  simp only[bY]at hv ⊢;obtain⟨hone,hv⟩:=hv;refine⟨hone,h.ref id (by simp[refs]) hv.1,fun t u xs hc=> ?_⟩;obtain⟨o,h1,h2⟩:=h.obj id (by simp[refs]) _ hc;cases o with
  |arr t' v' xs'=>
   simp only[dN.like]at h2;have h3:=hv.2 _ _ _ h1;have:=h2.1;refine⟨by omega,fun e=> ?_⟩;obtain⟨e1,e2⟩:=h2.2 (by omega);rw[e2];exact h3.2 (by omega)
  |box _ _=>simp[dN.like]at h2
  |lp _ _ _ _ _ _ _ _=>simp[dN.like]at h2
  |dead=>simp[dN.like]at h2
  |mp _ _ _=>simp[dN.like]at h2
 |.slc id ver vw,v,h,hv=>by
  simp only[bY]at hv ⊢;obtain⟨hone,hv⟩:=hv;refine⟨hone,h.ref id (by simp[refs]) hv.1,fun t u xs hc=> ?_⟩;obtain⟨o,h1,h2⟩:=h.obj id (by simp[refs]) _ hc;cases o with
  |arr t' v' xs'=>
   simp only[dN.like]at h2;have h3:=hv.2 _ _ _ h1;have:=h2.1;refine⟨by omega,fun e=> ?_⟩;obtain⟨e1,e2⟩:=h2.2 (by omega);rw[e2,<-e1];exact h3.2 (by omega)
  |box _ _=>simp[dN.like]at h2
  |lp _ _ _ _ _ _ _ _=>simp[dN.like]at h2
  |dead=>simp[dN.like]at h2
  |mp _ _ _=>simp[dN.like]at h2
 |.ep id ver i off,v,h,hv=>by
  simp only[bY]at hv ⊢;obtain⟨hone,hv⟩:=hv;refine⟨hone,h.ref id (by simp[refs]) hv.1,fun t u xs hc=> ?_⟩;obtain⟨o,h1,h2⟩:=h.obj id (by simp[refs]) _ hc;cases o with
  |arr t' v' xs'=>
   simp only[dN.like]at h2;have h3:=hv.2 _ _ _ h1;have:=h2.1;refine⟨by omega,fun e=> ?_⟩;obtain⟨e1,e2⟩:=h2.2 (by omega);rw[e2,<-e1];exact h3.2 (by omega)
  |box _ _=>simp[dN.like]at h2
  |lp _ _ _ _ _ _ _ _=>simp[dN.like]at h2
  |dead=>simp[dN.like]at h2
  |mp _ _ _=>simp[dN.like]at h2
 |.fn f l,v,h,hv=>by simp only[bY]at hv ⊢;obtain⟨vs,h1,h2⟩:=hv;exact⟨vs,h1,bQ.keeps l _ (by simpa [refs] using h) h2⟩
 |.mfn f l,v,h,hv=>by simp only[bY]at hv ⊢;obtain⟨vs,h1,h2⟩:=hv;exact⟨vs,h1,bQ.keeps l _ (by simpa [refs] using h) h2⟩
 |.mpv id,v,h,hv=>by
  simp only[bY]at hv ⊢;obtain⟨hone,hv⟩:=hv;refine⟨hone,h.ref id (by simp[refs]) hv.1,fun kk vk es hc=> ?_⟩;obtain⟨o,h1,h2⟩:=h.obj id (by simp[refs]) _ hc;cases o<;>simp only[dN.like]at h2;rw[h2];exact hv.2 _ _ _ h1
 |.yld id,v,h,hv=>by
  simp only[bY]at hv ⊢;obtain⟨hone,hv⟩:=hv;refine⟨hone,h.ref id (by simp[refs]) hv.1,fun f fr ps jC bd ky n p hc=> ?_⟩;obtain⟨o,h1,h2⟩:=h.obj id (by simp[refs]) _ hc;cases o<;>simp only[dN.like]at h2;rw[h2];exact hv.2 _ _ _ _ _ _ _ _ h1
theorem bQ.keeps {c c':Cx}: ∀(l:List bV) (xs:List Value),c.Keeps c' (oW l)->bQ c l xs->bQ c' l xs
 |[],[],_,_=>by simp[bQ]
 |v::l,x::xs,h,hv=>by
  simp only[oW]at h;simp only[bQ]at hv ⊢;exact⟨bY.keeps v x h.left hv.1,bQ.keeps l xs h.right hv.2⟩
 |[],_::_,_,hv=>by simp[bQ]at hv
 |_::_,[],_,hv=>by simp[bQ]at hv
end
theorem Dk.keeps {c c':Cx}: ∀(fs:List (List bV)) (ts:List (Array Value)),c.Keeps c' (zC fs)->Dk c fs ts->Dk c' fs ts
 |[],[],_,_=>trivial
 |f::fs,t::ts,h,hh=>by
  simp only[zC]at h;exact⟨bQ.keeps _ _ h.left hh.1,Dk.keeps fs ts h.right hh.2⟩
 |[],_::_,_,hh=>hh.elim
 |_::_,[],_,hh=>hh.elim
theorem kV (p:Nat->Bool): ∀(h:gZ) (i:Nat),dR (h.filter fun e=>p e.1) i=if p i=true then dR h i else none
 |[],i=>by simp[dR]
 |(k,o)::h,i=>by
  rw[List.filter_cons];by_cases hk:p k=true
  ·simp only[hk,if_true,eu,kV p h i];by_cases e:k=i
   ·subst e;simp[hk]
   ·simp[e]
  ·rw[if_neg hk,kV p h i,eu];by_cases e:k=i
   ·subst e;simp[hk]
   ·simp[e]
theorem Ai: ∀(h:gZ) (i:Nat) (o:dN),dR h i=some o->(i,o)∈h
 |[],i,o,hh=>by simp[dR]at hh
 |(k,o')::h,i,o,hh=>by
  rw[eu]at hh;split at hh
  ·rename_i e;subst e;cases hh;simp
  ·exact aA _ (Ai h i o hh)
theorem Gh: ∀(h:gZ) (e:Nat×dN),e∈h-> ∀i∈e.2.refs,i∈Df h
 |[],e,he,i,hi=>by simp at he
 |(k,o)::h,e,he,i,hi=>by
  simp only[Df,List.mem_append];rcases List.mem_cons.1 he with e1|e1
  ·left;rw[e1]at hi;exact hi
  ·right;exact Gh h e e1 i hi
theorem yw {d l:List Nat} (h:MN d l=true): ∀i∈l,i∉d:=by
 intro i hi hd;have:=List.all_eq_true.1 h i hi;simp only[Bool.not_eq_true',Yy]at this;have h2:d.any (Nat.beq i)=true:=List.any_eq_true.2 ⟨i,hd,by simp⟩;rw[h2]at this;cases this
theorem Cx.keeps_filter {c:Cx} {p:Nat->Bool} {l:List Nat} (hno: ∀i∈l,i∉((c.hp.filter fun e=> !p e.1).map (·.1))):c.Keeps {c with hp:=c.hp.filter fun e=>p e.1} l:=by
 refine⟨fun b hb=>⟨⟨hb.1, ?_,hb.2.2⟩,rfl⟩,fun i hi hk=> ?_,fun i hi o' ho=> ?_⟩
 ·rintro ⟨i,o,h1,h2⟩;rw[kV]at h1;split at h1
  ·exact hb.2.1 ⟨i,o,h1,h2⟩
  ·cases h1
 ·rcases hk with ⟨o,ho⟩|hk
  ·left;refine⟨o, ?_⟩;rw[kV];split
   ·exact ho
   ·rename_i hp
    exfalso;refine hno i hi (List.mem_map.2 ⟨(i,o),List.mem_filter.2 ⟨Ai _ _ _ ho,by simp[hp]⟩,rfl⟩)
  ·exact .inr hk
 ·rw[kV]at ho;split at ho
  ·exact⟨o',ho,o'.like_refl _⟩
  ·cases ho
section
variable {P:Program} {T:TT} {W0:World} {b0 n:Nat} {rd:Option Nat} {c:Cx} {R:Type} {r:R} {st:St} {a:Act} {ats:List (Array Value)}
theorem Td (c:Cx) (p:Nat->Bool): ∀b,c.out b->({c with hp:=c.hp.filter fun e=>p e.1}:Cx).out b/\({c with hp:=c.hp.filter fun e=>p e.1}:Cx).w.heap[b]? =c.w.heap[b]? :=fun b hb=>⟨⟨hb.1,(by
 rintro ⟨i,o,h1,h2⟩;simp only at h1 h2;rw[kV]at h1;split at h1
 ·exact hb.2.1 ⟨i,o,h1,h2⟩
 ·cases h1),hb.2.2⟩,rfl⟩
theorem Cx.Ok.filter (hc:c.Ok W0) {p:Nat->Bool} (hk:c.Keeps {c with hp:=c.hp.filter fun e=>p e.1} (Df (c.hp.filter fun e=>p e.1))):({c with hp:=c.hp.filter fun e=>p e.1}:Cx).Ok W0:=by
 have sub: ∀i o,dR (c.hp.filter fun e=>p e.1) i=some o->dR c.hp i=some o:=fun i o h=>by
  rw[kV]at h;split at h
  ·exact h
  ·cases h
 refine⟨hc.bel,fun i o ho=> ?_,fun i j o q b h1 h2=>hc.inj i j o q b (sub i o h1) (sub j q h2),hc.mks,fun b hb=>⟨(hc.bar b hb).1,(fun⟨i,o,h1,h2⟩=>(hc.bar b hb).2.1 ⟨i,o,sub i o h1,h2⟩),(hc.bar b hb).2.2⟩,hc.phi⟩;have h0:=hc.obj i o (sub i o ho);have hm:=Ai _ _ _ ho;cases o with
 |box e cs=>
  obtain⟨h1,vs,h2,h3,h4⟩:=h0;exact⟨h1,vs,h2,bQ.keeps _ _ (hk.sub fun j hj=>Gh _ _ hm j hj) h3,h4⟩
 |arr t ver xs=>
  obtain⟨h0,e,zs,h1,h2,h3⟩:=h0;exact⟨h0,e,zs,h1,gz.mono (fO.mono hk.free t) _ _ h2,h3⟩
 |lp f fr ps jC bd ky n p=>
  obtain⟨h0,h1,L,h2,h3,h4⟩:=h0;exact⟨h0,h1,L,h2,bQ.keeps _ _ (hk.sub fun j hj=>Gh _ _ hm j hj) h3,h4⟩
 |dead=>trivial
 |mp kk vk es=>exact h0
theorem iY.gc (hr:iY W0 b0 rd c st a ats) {mark:Nat} {v:bV} {u:Value} (hv:bY c v u) {st':St} (h:gc mark v st=some st'):
  ∃c',iY W0 b0 rd c' st' a ats/\bY c' v u/\c.Mono c'/\c'.w=c.w/\st'.stk=st.stk/\st'.fr=st.fr:=by
 obtain⟨fr,stk,hp,nxt⟩:=st;simp only[Go.Proofs.YtihafdllichkeaaGreatDoor.gc]at h;rw[cond_eq_ite]at h;split at h
 ·rename_i hno
  cases h;have hhp:=hr.hp;simp only at hhp;subst hhp;have key: ∀p:Nat->Bool,MN ((c.hp.filter fun e=> !p e.1).map (·.1)) (refs v++oW fr++zC stk++Df (c.hp.filter fun e=>p e.1))=true->
    ∃c',iY W0 b0 rd c' ⟨fr,stk,c.hp.filter fun e=>p e.1,nxt⟩ a ats/\bY c' v u/\c.Mono c'/\c'.w=c.w/\stk=stk/\fr=fr:=fun p hno=>by
   have hno':=yw hno;have hk:=Cx.keeps_filter (c:=c) (p:=p) hno';exact⟨{c with hp:=c.hp.filter fun e=>p e.1},⟨rfl,hr.nxt,hr.ok.filter (p:=p) hk.right,bQ.keeps _ _ hk.left.left.right hr.fr,Dk.keeps _ _ hk.left.right hr.stk,hr.df,hr.rd⟩,bY.keeps _ _ hk.left.left.left hv,⟨fun _ h=>h,fun b L h=>⟨L,h⟩,ah _,rfl,Td c p⟩,rfl,rfl,rfl⟩
  exact key (fun i=>Nat.blt i mark||Yy (auG (c.hp.filter fun e=> !Nat.blt e.1 mark) 3 (refs v++oW fr++zC stk++Df (c.hp.filter fun e=>Nat.blt e.1 mark))) i) hno
 ·cases h
theorem acZ (f:dN->dN): ∀(h:gZ) (i:Nat),dR (h.map fun e=>(e.1,f e.2)) i=(dR h i).map f
 |[],i=>rfl
 |(k,o)::h,i=>by
  simp only[az,eu,acZ f h i];split<;>rfl
def Cx.anew (c:Cx):Cx:={c with hp:=c.hp.map fun e=>(e.1,e.2.anew c.hp)}
theorem dN.anew_blk (h:gZ) (o:dN) (l:Loc):(o.anew h).blk l=o.blk l:=by cases o<;>rfl
theorem Cx.anew_get (c:Cx) (i:Nat):dR c.anew.hp i=(dR c.hp i).map (dN.anew c.hp):=acZ _ _ _
theorem Cx.anew_free (c:Cx): ∀b,c.free b->c.anew.free b/\c.anew.w.heap[b]? =c.w.heap[b]? :=fun b hb=>⟨⟨hb.1,by
 rintro ⟨i,o,h1,h2⟩;rw[Cx.anew_get]at h1;obtain⟨o',h3,rfl⟩:=Option.map_eq_some_iff.1 h1;rw[dN.anew_blk]at h2;exact hb.2.1 ⟨i,o',h3,h2⟩,hb.2.2⟩,rfl⟩
theorem Cx.anew_out (c:Cx): ∀b,c.out b->c.anew.out b/\c.anew.w.heap[b]? =c.w.heap[b]? :=fun b hb=>⟨⟨hb.1,(by
 rintro ⟨i,o,h1,h2⟩;rw[Cx.anew_get]at h1;obtain⟨o',h3,rfl⟩:=Option.map_eq_some_iff.1 h1;rw[dN.anew_blk]at h2;exact hb.2.1 ⟨i,o',h3,h2⟩),hb.2.2⟩,rfl⟩
theorem Cx.anew_known (c:Cx) {i:Nat} (h:c.known i):c.anew.known i:=by
 rcases h with ⟨o,ho⟩|h
 ·exact .inl ⟨_,by rw[Cx.anew_get,ho];rfl⟩
 ·exact .inr h
theorem DV {h:gZ} {id ver:Nat} (hf:RH h id ver=true): ∃t xs,dR h id=some (.arr t ver xs):=by
 simp only[RH,aA5]at hf;cases ho:dR h id with
 |none=>rw[ho]at hf;cases hf
 |some o=>
  rw[ho]at hf;cases o with
  |arr t v xs=>simp only[beq_iff_eq]at hf;subst hf;exact⟨t,xs,rfl⟩
  |_=>cases hf
mutual
theorem bY.anew {c:Cx}: ∀(v:bV) (x:Value),bY c v x->bY c.anew (Go.Proofs.YtihafdllichkeaaGreatDoor.anew c.hp v) x
 |.undef,_,_=>by simp[bY,Go.Proofs.YtihafdllichkeaaGreatDoor.anew]
 |.val t x,v,hv=>by
  simp only[bY,Go.Proofs.YtihafdllichkeaaGreatDoor.anew]at hv ⊢;exact⟨fun e=>let⟨cs,h1,h2⟩:=hv.1 e;⟨cs,h1,fO.mono c.anew_free t x _ h2⟩,fun e=>fO.mono c.anew_free t x _ (hv.2 e)⟩
 |.nils,_,hv=>by simpa only[bY,Go.Proofs.YtihafdllichkeaaGreatDoor.anew] using hv
 |.emp,_,hv=>by simpa only[bY,Go.Proofs.YtihafdllichkeaaGreatDoor.anew] using hv
 |.lst t x b,v,hv=>by
  simp only[bY,Go.Proofs.YtihafdllichkeaaGreatDoor.anew]at hv ⊢;exact⟨⟨fun e=>let⟨cs,h1,h2⟩:=hv.1.1 e;⟨cs,h1,fO.mono c.anew_free (.list t) x _ h2⟩,fun e=>fO.mono c.anew_free (.list t) x _ (hv.1.2 e)⟩,hv.2⟩
 |.nilp,_,hv=>by simpa only[bY,Go.Proofs.YtihafdllichkeaaGreatDoor.anew] using hv
 |.nilfn,_,hv=>by simpa only[bY,Go.Proofs.YtihafdllichkeaaGreatDoor.anew] using hv
 |.tup l,v,hv=>by simp only[bY,Go.Proofs.YtihafdllichkeaaGreatDoor.anew]at hv ⊢;obtain⟨vs,h1,h2⟩:=hv;exact⟨vs,h1,bQ.anew l _ h2⟩
 |.agg l,v,hv=>by simp only[bY,Go.Proofs.YtihafdllichkeaaGreatDoor.anew]at hv ⊢;obtain⟨vs,h1,h2,h3⟩:=hv;exact⟨vs,h1,bQ.anew l _ h2,h3⟩
 |.cellp t x,v,hv=>by
  simp only[bY,Go.Proofs.YtihafdllichkeaaGreatDoor.anew]at hv ⊢;obtain⟨b,o,zs,h1,h2,h3,h4⟩:=hv;exact⟨b,o,zs,h1,(c.anew_free b h2).1,h3.of_block (c.anew_free b h2).2,fO.mono c.anew_free t x _ h4⟩
 |.ptr id off,v,hv=>by
  simp only[bY,Go.Proofs.YtihafdllichkeaaGreatDoor.anew]at hv ⊢;obtain⟨hone,hv⟩:=hv;refine⟨hone,c.anew_known hv.1,fun t cs hc=> ?_⟩;rw[Cx.anew_get]at hc;obtain⟨o,h1,h2⟩:=Option.map_eq_some_iff.1 hc;cases o<;>simp only[dN.anew,reduceCtorEq]at h2;exact hv.2 _ _ h1
 |.slf id,v,hv=>by
  simp only[bY,Go.Proofs.YtihafdllichkeaaGreatDoor.anew]at hv ⊢;obtain⟨hone,hv⟩:=hv;refine⟨hone,c.anew_known hv.1,fun t cs hc=> ?_⟩;rw[Cx.anew_get]at hc;obtain⟨o,h1,h2⟩:=Option.map_eq_some_iff.1 hc;cases o<;>simp only[dN.anew,reduceCtorEq]at h2;exact hv.2 _ _ h1
 |.sd id ver,v,hv=>by
  simp only[bY,Go.Proofs.YtihafdllichkeaaGreatDoor.anew]at hv ⊢;rw[cond_eq_ite];split
  ·rename_i hf
   obtain⟨t0,xs0,h0⟩:=DV hf;simp only[bY];obtain⟨hone,hv⟩:=hv;refine⟨hone,c.anew_known hv.1,fun t u xs hc=>⟨Nat.zero_le _,fun hu=> ?_⟩⟩;exact(hv.2 _ _ _ h0).2 rfl
  ·simp[bY]
 |.slc id ver vw,v,hv=>by
  simp only[bY,Go.Proofs.YtihafdllichkeaaGreatDoor.anew]at hv ⊢;rw[cond_eq_ite];split
  ·rename_i hf
   obtain⟨t0,xs0,h0⟩:=DV hf;simp only[bY];obtain⟨hone,hv⟩:=hv;refine⟨hone,c.anew_known hv.1,fun t u xs hc=>⟨Nat.zero_le _,fun hu=> ?_⟩⟩;rw[Cx.anew_get,h0]at hc;simp only[bn,dN.anew,Option.some.injEq,dN.arr.injEq]at hc;obtain⟨e1,_,_⟩:=hc;rw[<-e1];exact(hv.2 _ _ _ h0).2 rfl
  ·simp[bY]
 |.ep id ver i off,v,hv=>by
  simp only[bY,Go.Proofs.YtihafdllichkeaaGreatDoor.anew]at hv ⊢;rw[cond_eq_ite];split
  ·rename_i hf
   obtain⟨t0,xs0,h0⟩:=DV hf;simp only[bY];obtain⟨hone,hv⟩:=hv;refine⟨hone,c.anew_known hv.1,fun t u xs hc=>⟨Nat.zero_le _,fun hu=> ?_⟩⟩;rw[Cx.anew_get,h0]at hc;simp only[bn,dN.anew,Option.some.injEq,dN.arr.injEq]at hc;obtain⟨e1,_,_⟩:=hc;rw[<-e1];exact(hv.2 _ _ _ h0).2 rfl
  ·simp[bY]
 |.fn f l,v,hv=>by simp only[bY,Go.Proofs.YtihafdllichkeaaGreatDoor.anew]at hv ⊢;obtain⟨vs,h1,h2⟩:=hv;exact⟨vs,h1,bQ.anew l _ h2⟩
 |.mfn f l,v,hv=>by simp only[bY,Go.Proofs.YtihafdllichkeaaGreatDoor.anew]at hv ⊢;obtain⟨vs,h1,h2⟩:=hv;exact⟨vs,h1,bQ.anew l _ h2⟩
 |.mpv id,v,hv=>by
  simp only[bY,Go.Proofs.YtihafdllichkeaaGreatDoor.anew]at hv ⊢;obtain⟨hone,hv⟩:=hv;refine⟨hone,c.anew_known hv.1,fun kk vk es hc=> ?_⟩;rw[Cx.anew_get]at hc;obtain⟨o,h1,h2⟩:=Option.map_eq_some_iff.1 hc;cases o<;>simp only[dN.anew,reduceCtorEq]at h2;exact hv.2 _ _ _ h1
 |.yld id,v,hv=>by
  simp only[bY,Go.Proofs.YtihafdllichkeaaGreatDoor.anew]at hv ⊢;obtain⟨hone,hv⟩:=hv;refine⟨hone,c.anew_known hv.1,fun f fr ps jC bd ky n p hc=> ?_⟩;rw[Cx.anew_get]at hc;obtain⟨o,h1,h2⟩:=Option.map_eq_some_iff.1 hc;cases o<;>simp only[dN.anew,reduceCtorEq]at h2;exact hv.2 _ _ _ _ _ _ _ _ h1
theorem bQ.anew {c:Cx}: ∀(l:List bV) (xs:List Value),bQ c l xs->bQ c.anew (zN c.hp l) xs
 |[],[],_=>by simp[bQ,zN]
 |v::l,x::xs,hv=>by
  simp only[bQ,zN]at hv ⊢;exact⟨bY.anew v x hv.1,bQ.anew l xs hv.2⟩
 |[],_::_,hv=>by simp[bQ]at hv
 |_::_,[],hv=>by simp[bQ]at hv
end
theorem Dk.anew {c:Cx}: ∀(fs:List (List bV)) (ts:List (Array Value)),Dk c fs ts->Dk c.anew (fs.map (zN c.hp)) ts
 |[],[],_=>trivial
 |f::fs,t::ts,hh=>⟨bQ.anew _ _ hh.1,Dk.anew fs ts hh.2⟩
 |[],_::_,hh=>hh.elim
 |_::_,[],hh=>hh.elim
theorem iY.anew (hr:iY W0 b0 rd c st a ats): ∃c',iY W0 b0 rd c' (Xi st) a ats/\c.Mono c'/\c'.w=c.w:=by
 obtain⟨fr,stk,hp,nxt⟩:=st;have hhp:=hr.hp;simp only at hhp;subst hhp;refine⟨c.anew,⟨rfl,hr.nxt,⟨hr.ok.bel,fun i o ho=> ?_,fun i j o q b h1 h2 h3 h4=> ?_,hr.ok.mks,fun b hb=>(Cx.anew_out c b (hr.ok.bar b hb)).1,hr.ok.phi⟩,bQ.anew _ _ hr.fr,Dk.anew _ _ hr.stk,hr.df,hr.rd⟩,⟨fun _ h=>h,fun b L h=>⟨L,h⟩,ah _,rfl,Cx.anew_out c⟩,rfl⟩
 ·rw[Cx.anew_get]at ho;obtain⟨o',h1,rfl⟩:=Option.map_eq_some_iff.1 ho;have h0:=hr.ok.obj i o' h1;cases o' with
  |box e cs=>
   obtain⟨h1,vs,h2,h3,h4⟩:=h0;exact⟨h1,vs,h2,bQ.anew _ _ h3,h4⟩
  |arr t ver xs=>
   obtain⟨h0,e,zs,h1,h2,h3⟩:=h0;exact⟨h0,e,zs,h1,gz.mono (fO.mono c.anew_free t) _ _ h2,h3⟩
  |lp f fr ps jC bd ky n p=>
   obtain⟨h0,h1,L,h2,h3,h4⟩:=h0;exact⟨h0,h1,L,h2,bQ.anew _ _ h3,h4⟩
  |dead=>trivial
  |mp kk vk es=>exact h0
 ·rw[Cx.anew_get]at h1 h2;obtain⟨o1,h5,rfl⟩:=Option.map_eq_some_iff.1 h1;obtain⟨q1,h6,rfl⟩:=Option.map_eq_some_iff.1 h2;rw[dN.anew_blk]at h3 h4;exact hr.ok.inj i j o1 q1 b h5 h6 h3 h4
theorem Ak {l:List Nat}: ∀(i:Nat) (fr:List bV) (xs:List Value),bQ c fr xs->bQ c (G7 l i fr) xs
 |i,[],[],_=>by simp[bQ,G7]
 |i,v::fr,x::xs,h=>by
  simp only[bQ,G7]at h ⊢;refine⟨?_,Ak (i+1) fr xs h.2⟩;rw[cond_eq_ite];split
  ·exact h.1
  ·simp[bY]
 |i,[],_::_,h=>by simp[bQ]at h
 |i,_::_,[],h=>by simp[bQ]at h
end
end
section
open Bool renaming and_eq_true → af
open List renaming length_take → aJ, eq_nil_of_length_eq_zero → bJ
open Nat renaming le_refl → ah, eq_of_beq_eq_true → au
open Go.RowKit
section
variable {P:Program} {T:TT} {W0:World} {b0 n:Nat} {rd:Option Nat} {c:Cx} {R:Type} {r:R} {st:St} {a:Act} {ats:List (Array Value)}
theorem Oy (hr:iY W0 b0 rd c st a ats) {s:Nat} {t:Ty} {st':St} (h:vJ s t st=some st'): ∃c',iY W0 b0 rd c' st' a ats/\c.Mono c'/\c'.w=c.w:=by
 have hslot: ∀hs:s<a.tmps.toList.length,bY c (st.fr.getD s .undef) a.tmps.toList[s]:=fun hs=>by
  have:=hr.fr.getD s;rwa [Array.getD,dif_pos (by simpa using hs)]at this
 obtain⟨fr,stk,hp,nxt⟩:=st;simp only[vJ]at h;split at h
 ·rename_i hn
  simp only at hslot;rw[hn]at hslot;split at h
  ·cases h
  ·rename_i hg
   rw[cond_eq_ite]at h;split at h
   ·rename_i hb
    cases h;simp only[af]at hb;have h1:nxt<=1000000*stk.length+800000+s:=by simpa [Nat.ble_eq] using hb.1
    have h2:0<t.size:=by have:=hb.2;simp[Nat.blt]at this;omega
    obtain⟨c',hd,hw,hv⟩:=qX hr.ok (st:=⟨fr,stk,hp,nxt⟩) hr.hp hr.nxt hg h1 (ah nxt) (y:=t) h2 (xs:=[]) (v:=.slice none 0 0) (w:=c.w) (Below.refl _ _) o8 [] ⟨by simp,.inl ⟨rfl,rfl⟩⟩ (by simp[gz]) rfl (fun _=>rfl);have hr':=hr.did hd;refine⟨c',⟨hr'.hp,hr'.nxt,hr'.ok,bQ.setL _ _ _ hr'.fr fun hs=> ?_,hr'.stk,hr'.df,hr'.rd⟩,hd.le.mono,hw⟩;have:=hslot hs;simp only[bY]at this;rw[this];exact hv
   ·cases h
 ·rename_i id ver vw hn
  simp only at hslot;rw[hn]at hslot;split at h
  ·rename_i u w xs hg
   rw[cond_eq_ite]at h;split at h
   ·rename_i hver
    have hver:w=ver:=by simpa using hver
    subst hver;split at h
    ·cases h;exact⟨c,hr,Cx.Mono.refl c,rfl⟩
    ·rename_i lo hi
     rw[cond_eq_ite]at h;split at h
     ·rename_i hb
      cases h;simp only[beq_iff_eq]at hb;subst hb;have hhp:=hr.hp;simp only at hhp;subst hhp;have hobj:=hr.ok.obj id _ hg;obtain⟨hpos,e,zs,hown,hL,hty⟩:=hobj;by_cases hs:s<a.tmps.toList.length
      ·have hv:=hslot hs;simp only[bY]at hv;have hview:=(hv.2.2 _ _ _ hg).2 rfl;have⟨hb1,hb2⟩:0<=hi/\hi<=bP xs:=by
        obtain⟨a1,n1,c1,e1,_,p2,p3,_⟩:=hview;obtain⟨a2,c2,e2,_⟩:=rD hown;rw[e2]at e1;cases e1;exact⟨p2,p3⟩
       obtain⟨hown',hblk⟩:=Ha hown hb1 hb2 hview;have hk:(dN.arr u w xs).like (c.mu id) (.arr u (w+1) (xs.take hi.toNat)) ⟨(c.mu id).blk,a.tmps.toList[s]⟩:=⟨by omega,fun e=>by omega⟩;have hle:=Cx.Le.put (w:=c.w) hr.ok hg hk (ah _) (fun _ _ _=>rfl) (fun b hb=>.inl (hblk b hb)) (fun b L _ hL=>⟨L,hL⟩);have hok:=Cx.Ok.put (w:=c.w) hr.ok hg hk hr.ok.bel (ah _) (fun _ _ _=>rfl) (fun b hb=>.inl (hblk b hb)) (fun b L _ hL=>⟨L,hL⟩) (by
        refine⟨hpos,e,zs.take (hi.toNat*u.size), ?_,gz.take _ _ _ (gz.mono (fO.mono hle.free u) _ _ hL),hty⟩;have:(xs.take hi.toNat).length=hi.toNat:=by rw[aJ];simp only[bP]at hb2;omega
        rw[this];simp only[Cx.put,upd_same];exact hown')
       refine⟨c.put id (dN.arr u (w+1) (List.take hi.toNat xs)) ⟨(c.mu id).blk,a.tmps.toList[s]⟩ c.w,⟨rfl,hr.nxt,hok,bQ.setL _ _ _ (bQ.le hle _ _ hr.fr) fun _=> ?_,Dk.le hle _ _ hr.stk, ?_, ?_⟩,hle.mono,rfl⟩
       ·simp only[bY];refine⟨hv.1,.inl ⟨_,Cx.put_get hg⟩,fun t' u' xs' hg'=> ?_⟩;rw[Cx.put_get hg]at hg';cases hg';exact⟨ah _,fun _=>by simp[jb,Cx.put,upd_same]⟩
       ·obtain⟨ds,h1,h2,h3⟩:=hr.df;exact⟨ds,h1,h2,h3⟩
       ·exact hr.rd
      ·exfalso;have hl:=bQ.length _ _ hr.fr;rw[List.getD_eq_getElem?_getD,List.getElem?_eq_none (by simp only at hl;omega)]at hn;cases hn
     ·cases h
   ·cases h
  ·cases h
 ·cases h
theorem JF (hr:iY W0 b0 rd c st a ats) {s:Nat} {t:Ty} {st':St} (h:Ah s t st=some st'): ∃c',iY W0 b0 rd c' st' a ats/\c.Mono c'/\c'.w=c.w:=by
 have hslot: ∀hs:s<a.tmps.toList.length,bY c (st.fr.getD s .undef) a.tmps.toList[s]:=fun hs=>by
  have:=hr.fr.getD s;rwa [Array.getD,dif_pos (by simpa using hs)]at this
 have empty: ∀(hv: ∀hs:s<a.tmps.toList.length,∃av,a.tmps.toList[s]=.slice av 0 0),∃c',iY W0 b0 rd c' {st with fr:=st.fr.set s (.val (.list t) [])} a ats/\c.Mono c'/\c'.w=c.w:=fun hv=>
  ⟨c,⟨hr.hp,hr.nxt,hr.ok,bQ.setL _ _ _ hr.fr fun hs=>by
   obtain⟨av,hav⟩:=hv hs;rw[hav];simp only[bY];exact(VD.leaf rfl).2 ⟨av,0,[],rfl,ah _,rfl,.inl rfl⟩,hr.stk,hr.df,hr.rd⟩,Cx.Mono.refl c,rfl⟩
 unfold Ah at h;split at h
 ·rename_i hn
  rw[hn]at hslot;cases h;exact empty fun hs=>⟨none,by have:=hslot hs;simpa only[bY] using this⟩
 ·rename_i hn
  rw[hn]at hslot;cases h;exact empty fun hs=>by have:=hslot hs;simpa only[bY] using this
 ·rename_i id ver hn
  rw[hn]at hslot;split at h
  ·rename_i u w xs hg
   replace h:=dJ h;obtain⟨hb,h⟩:=h;simp only[af,beq_iff_eq]at hb;obtain⟨rfl,hno⟩:=hb;cases h;obtain⟨fr,stk,hp,nxt⟩:=st;have hhp:=hr.hp;simp only at hhp hg hno hn;subst hhp;have hfr0:bQ c (fr.set s .undef) a.tmps.toList:=bQ.setL _ _ _ hr.fr fun _=>by simp[bY]
   have hk:=Cx.keeps_filter (c:=c) (p:=fun i=> !Nat.beq i id) (yw hno);have hok':=hr.ok.filter (p:=fun i=> !Nat.beq i id) hk.right;have hrel:iY W0 b0 rd {c with hp:=c.hp.filter fun e=> !Nat.beq e.1 id} ⟨fr.set s .undef,stk,c.hp.filter fun e=> !Nat.beq e.1 id,nxt⟩ a ats:=
    ⟨rfl,hr.nxt,hok',bQ.keeps _ _ hk.left.left hfr0,Dk.keeps _ _ hk.left.right hr.stk,hr.df,hr.rd⟩
   refine⟨{c with hp:=c.hp.filter fun e=> !Nat.beq e.1 id},⟨rfl,hrel.nxt,hrel.ok, ?_,hrel.stk,hrel.df,hrel.rd⟩,⟨fun _ h=>h,fun b L h=>⟨L,h⟩,ah _,rfl,Td c fun i=> !Nat.beq i id⟩,rfl⟩;have ji:=bQ.setL (z:=.val (.list u) xs) s _ _ hrel.fr fun hs=>by
    have hv:=hslot hs;simp only[bY]at hv ⊢;have hu:=(hv.2.2 _ _ _ hg).2 rfl;simp only[jb]at hu;obtain⟨hpos,e,zs,hown,hL,hty⟩:=hr.ok.obj id _ hg;rw[hu];have hL':=gz.mono (fO.mono hk.free u) _ _ hL;rcases hown.2 with ⟨e1,e2⟩|⟨g,cap,cur,e1,e2,e3,e4,e5,e6,e7⟩
    ·have hx:xs=[]:=bJ e2;subst hx;rw[e1];exact(VD.leaf rfl).2 ⟨none,0,[],rfl,ah _,rfl,.inl rfl⟩
    ·obtain⟨a2,cp2,f1,f2,f3⟩:=Nb hown;rw[e1]at f1;cases f1;rw[e1];refine(VD.leaf rfl).2 ⟨_,_,zs,rfl,e4,hL',f3.imp (fun h=>h) fun⟨g',q1,q2,q4,q3⟩=> ?_⟩;cases q1;refine⟨g,0,rfl,⟨q2, ?_, ?_,fun hb=>(hr.ok.bar _ hb).2.1 ⟨id,_,hg,by simp[dN.blk,e1,Value.ownBlock]⟩⟩,q3⟩
     ·rintro ⟨j,o,h1,h2⟩;simp only at h1;rw[kV (fun i=> !Nat.beq i id)]at h1;split at h1
      ·rename_i hj
       have:=hr.ok.inj j id o _ g h1 hg h2 (by simp[dN.blk,e1,Value.ownBlock]);subst this;simp at hj
      ·cases h1
     ·intro hm;obtain⟨_,hd⟩:=hr.ok.mks g hm;rw[e3]at hd;cases hd
   rw[List.set_set]at ji;exact ji
  ·cases h
 ·cases h
 ·cases h;exact⟨c,hr,Cx.Mono.refl c,rfl⟩
theorem YJ (hr:iY W0 b0 rd c st a ats) {id off:Nat} {t:Ty} {st':St} (h:Tf id off t st=some st'): ∃c',iY W0 b0 rd c' st' a ats/\c.Mono c'/\c'.w=c.w:=by
 have same:some st=some st'-> ∃c',iY W0 b0 rd c' st' a ats/\c.Mono c'/\c'.w=c.w:=fun h=>by cases h;exact⟨c,hr,Cx.Mono.refl c,rfl⟩
 obtain⟨fr,stk,hp,nxt⟩:=st;simp only[Tf]at h;split at h
 ·rename_i bt cs hbox
  split at h
  ·rename_i hcell
   split at h
   ·rename_i t'
    cases h;have hbox':dR c.hp id=some (.box bt cs):=by rw[hr.hp];exact hbox
    obtain⟨hB,us,h3,h4,h5⟩:=hr.ok.obj id _ hbox';have hnil: ∀ho:off<us.toList.length,us.toList[off]=.slice none 0 0:=fun ho=>by
     have:=bQ.getD h4 off;rw[hcell,Array.getD,dif_pos (by simpa using ho)]at this;simp only[bY]at this;exact this
    have hk2:(dN.box bt cs).like (c.mu id) (.box bt (cs.set off (.val (.list t') []))) (c.mu id):=rfl;have hle2:=Cx.Le.put (w:=c.w) hr.ok hbox' hk2 (ah _) (fun _ _ _=>rfl) (fun b hb=>.inl hb) (fun b L _ hL=>⟨L,hL⟩);have hok2:=Cx.Ok.put (w:=c.w) hr.ok hbox' hk2 hr.ok.bel (ah _) (fun _ _ _=>rfl) (fun b hb=>.inl hb) (fun b L _ hL=>⟨L,hL⟩) (by
     refine⟨by simp only[Cx.put,upd_same];exact hB,us,by simp only[Cx.put,upd_same];exact h3, ?_,h5⟩;exact bQ.le hle2 _ _ (bQ.setL off _ _ h4 fun ho=>by
      rw[hnil ho];simp only[bY];exact(VD.leaf rfl).2 ⟨none,0,[],rfl,ah _,rfl,.inl rfl⟩))
    refine⟨c.put id (.box bt (cs.set off (.val (.list t') []))) (c.mu id) c.w,⟨?_,hr.nxt,hok2,bQ.le hle2 _ _ hr.fr,Dk.le hle2 _ _ hr.stk, ?_, ?_⟩,hle2.mono,rfl⟩
    ·simp only[Cx.put];rw[hr.hp]
    ·obtain⟨ds,q1,q2,q3⟩:=hr.df;exact⟨ds,q1,q2,q3⟩
    ·exact hr.rd
   generalize id+500000+2000*off=nm at h;split at h
   ·cases h
   ·rename_i hg
    rw[cond_eq_ite]at h;split at h
    ·rename_i hb
     cases h;simp only[af]at hb;have h1:nxt<=nm:=by simpa [Nat.ble_eq] using hb.1
     have h2:0<t.size:=by have:=hb.2;simp[Nat.blt]at this;omega
     have hne:nm≠id:=fun e=>by rw[e,hbox]at hg;cases hg
     obtain⟨c',hd,hw,hv⟩:=qX hr.ok (st:=⟨fr,stk,hp,nxt⟩) hr.hp hr.nxt hg h1 (ah nxt) (y:=t) h2 (xs:=[]) (v:=.slice none 0 0) (w:=c.w) (Below.refl _ _) o8 [] ⟨by simp,.inl ⟨rfl,rfl⟩⟩ (by simp[gz]) rfl (fun _=>rfl);have hr':=hr.did hd;have hbox':dR c'.hp id=some (.box bt cs):=by
      rw[hd.hp];simp only[eu];rw[if_neg hne];exact hbox
     obtain⟨hB,us,h3,h4,h5⟩:=hr'.ok.obj id _ hbox';have hnil: ∀ho:off<us.toList.length,us.toList[off]=.slice none 0 0:=fun ho=>by
      have:=bQ.getD h4 off;rw[hcell,Array.getD,dif_pos (by simpa using ho)]at this;simp only[bY]at this;exact this
     have hk2:(dN.box bt cs).like (c'.mu id) (.box bt (cs.set off (.slc nm 0 none))) (c'.mu id):=rfl;have hle2:=Cx.Le.put (w:=c'.w) hr'.ok hbox' hk2 (ah _) (fun _ _ _=>rfl) (fun b hb=>.inl hb) (fun b L _ hL=>⟨L,hL⟩);have hok2:=Cx.Ok.put (w:=c'.w) hr'.ok hbox' hk2 hr'.ok.bel (ah _) (fun _ _ _=>rfl) (fun b hb=>.inl hb) (fun b L _ hL=>⟨L,hL⟩) (by
      refine⟨by simp only[Cx.put,upd_same];exact hB,us,by simp only[Cx.put,upd_same];exact h3, ?_,h5⟩;exact bQ.le hle2 _ _ (bQ.setL off _ _ h4 fun ho=>by rw[hnil ho];exact hv))
     refine⟨c'.put id (.box bt (cs.set off (.slc nm 0 none))) (c'.mu id) c'.w,⟨?_,hr'.nxt,hok2,bQ.le hle2 _ _ hr'.fr,Dk.le hle2 _ _ hr'.stk, ?_, ?_⟩,hd.le.mono.trans hle2.mono,hw⟩
     ·simp only[Cx.put];rw[hd.hp]
     ·obtain⟨ds,q1,q2,q3⟩:=hr'.df;exact⟨ds,q1,q2,q3⟩
     ·exact hr'.rd
    ·cases h
  ·exact same h
 ·exact same h
theorem VT (k:Nat) (o:dN) (i:Nat): ∀h:gZ,dR (asB k o h) i=if k=i then some o else dR h i
 |[]=>by simp[asB,eu]
 |(j,p)::h=>by
  simp only[asB];rw[cond_eq_ite];split
  ·rw[eu]
  ·rename_i hb
   have hne:j≠k:=fun e=>hb (by subst e;exact by simp[Nat.ble_eq]);rw[eu,VT k o i h,eu];split
   ·rename_i e;subst e;rw[if_neg (fun e=>hne e.symm)]
   ·rfl
theorem BK (i:Nat): ∀h:gZ,dR (nT h) i=dR h i
 |[]=>rfl
 |(k,o)::h=>by simp only[nT];rw[VT,BK i h,eu]
theorem iY.sorted (hr:iY W0 b0 rd c st a ats): ∃c',iY W0 b0 rd c' {st with hp:=nT st.hp} a ats/\c.Mono c'/\c'.w=c.w:=by
 have hg: ∀i,dR (nT c.hp) i=dR c.hp i:=fun i=>BK i _;have hself: ∀(o:dN) (l:Loc),o.like l o l:=fun o l=>by
  cases o<;>simp[dN.like]
 have hle:c.Le {c with hp:=nT c.hp}:=by
  refine⟨fun b hb=>⟨⟨hb.1,fun⟨j,o,h1,h2⟩=>hb.2.1 ⟨j,o,by rw[<-hg];exact h1,h2⟩,hb.2.2⟩,rfl⟩,fun id hk=> ?_,fun id o' _ h=>⟨o',by rw[<-hg];exact h,hself _ _⟩,fun _ h=>h,fun b L h=>⟨L,h⟩,ah _,rfl⟩;rcases hk with ⟨o,h⟩|h
  ·exact .inl ⟨o,by show dR (nT c.hp) id=some o;rw[hg];exact h⟩
  ·exact .inr h
 have hok:({c with hp:=nT c.hp}:Cx).Ok W0:=by
  refine⟨hr.ok.bel,fun id o h=> ?_,fun i j o p b h1 h2=>hr.ok.inj i j o p b (by rw[<-hg];exact h1) (by rw[<-hg];exact h2),hr.ok.mks,fun b hb=>(hle.out b (hr.ok.bar b hb)).1,hr.ok.phi⟩;exact(hr.ok.obj id o (by rw[<-hg];exact h)).le hle rfl fun b _=>rfl
 exact⟨{c with hp:=nT c.hp},⟨by show nT c.hp=nT st.hp;rw[hr.hp],hr.nxt,hok,bQ.le hle _ _ hr.fr,Dk.le hle _ _ hr.stk,hr.df,hr.rd⟩,hle.mono,rfl⟩
theorem aek (hr:iY W0 b0 rd c st a ats) {id off:Nat} {t:Ty} {st':St} (h:Kv id off t st=some st'): ∃c',iY W0 b0 rd c' st' a ats/\c.Mono c'/\c'.w=c.w:=by
 simp only[Kv]at h;split at h
 ·rename_i st1 h1
  cases h;obtain⟨c1,r1,m1,w1⟩:=YJ hr h1;obtain⟨c2,r2,m2,w2⟩:=r1.sorted;exact⟨c2,r2,m1.trans m2,w2.trans w1⟩
 ·cases h
theorem aeq (hr:iY W0 b0 rd c st a ats) {s:Nat} {t:Ty} {st':St} (h:KH s t st=some st'): ∃c',iY W0 b0 rd c' st' a ats/\c.Mono c'/\c'.w=c.w:=by
 have hslot: ∀hs:s<a.tmps.toList.length,bY c (st.fr.getD s .undef) a.tmps.toList[s]:=fun hs=>by
  have:=hr.fr.getD s;rwa [Array.getD,dif_pos (by simpa using hs)]at this
 unfold KH at h;generalize hN:1000000*st.stk.length+800000+s=N at h;split at h
 ·rename_i id ver hn
  rw[hn]at hslot;rw[cond_eq_ite]at h;split at h
  ·cases h;exact hr.sorted
  ·rename_i hne
   have hne:id≠N:=fun e=>hne (by simp[e]);split at h
   ·rename_i u w xs hg
    obtain⟨hb,h⟩:=dJ h;simp only[af]at hb;obtain⟨hnx,hno⟩:=hb;cases h;obtain⟨fr,stk,hp,nxt⟩:=st;have hhp:=hr.hp;have hcn:=hr.nxt;simp only at hhp hg hno hn hnx hcn;subst hhp;subst hcn;have hnx:c.nxt<=N:=by simpa [Nat.ble_eq] using hnx
    have hno': ∀i∈oW (fr.set s .undef)++zC stk++Df (c.hp.filter fun e=> !(Nat.beq e.1 id||Nat.beq e.1 N)),i≠id/\i≠N:=fun i hi=>by
     have:=yw hno i hi;simp only[List.mem_cons,List.not_mem_nil,or_false,not_or]at this;exact this
    have hget2: ∀i,dR (nT ((N,.arr u w xs)::c.hp.filter fun e=> !(Nat.beq e.1 id||Nat.beq e.1 N))) i=if N=i then some (.arr u w xs)else if i=id then none else dR c.hp i:=fun i=>by
     rw[BK,eu];split
     ·rfl
     ·rename_i hNi
      rw[kV (fun i=> !(Nat.beq i id||Nat.beq i N))];have h1:Nat.beq i N=false:=Bool.eq_false_iff.2 fun h=>hNi (au h).symm;by_cases e:i=id
      ·simp[e]
      ·have h2:Nat.beq i id=false:=Bool.eq_false_iff.2 fun h=>e (au h);rw[h1,h2,if_neg e];rfl
    generalize hH:nT ((N,.arr u w xs)::c.hp.filter fun e=> !(Nat.beq e.1 id||Nat.beq e.1 N))=H at*;generalize hc2:({c with mu:=Go.Proofs.YtihafdllichkeaaGreatDoor.upd c.mu N (c.mu id),hp:=H}:Cx)=c2;have e_hp:c2.hp=H:=by rw[<-hc2]
    have e_w:c2.w=c.w:=by rw[<-hc2]
    have e_nxt:c2.nxt=c.nxt:=by rw[<-hc2]
    have e_mks:c2.mks=c.mks:=by rw[<-hc2]
    have e_bar:c2.bar=c.bar:=by rw[<-hc2]
    have e_muN:c2.mu N=c.mu id:=by rw[<-hc2];exact upd_same ..
    have e_mu: ∀i,i≠N->c2.mu i=c.mu i:=fun i hi=>by rw[<-hc2];simp[Go.Proofs.YtihafdllichkeaaGreatDoor.upd,hi]
    have claim: ∀b,(∃i o,dR c2.hp i=some o/\o.blk (c2.mu i)=some b)-> ∃i o,dR c.hp i=some o/\o.blk (c.mu i)=some b:=fun b ⟨i,o,h1,h2⟩=>by
     rw[e_hp,hget2]at h1;split at h1
     ·rename_i e;subst e;cases h1;rw[e_muN]at h2;exact⟨id,_,hg,h2⟩
     ·rename_i e
      split at h1
      ·cases h1
      ·rw[e_mu i (fun q=>e q.symm)]at h2;exact⟨i,o,h1,h2⟩
    have hout: ∀b,c.out b->c2.out b:=fun b hb=>⟨by rw[e_w];exact hb.1,fun h=>hb.2.1 (claim b h),by rw[e_mks];exact hb.2.2⟩;have hfree: ∀b,c.free b->c2.free b/\c2.w.heap[b]? =c.w.heap[b]? :=fun b hb=>⟨⟨by rw[e_w];exact hb.1,fun h=>hb.2.1 (claim b h),by rw[e_mks,e_bar];exact hb.2.2⟩,by rw[e_w]⟩;have keeps: ∀l:List Nat,(∀i∈l,i≠id/\i≠N)->c.Keeps c2 l:=fun l hl=>by
     refine⟨hfree,fun i hi hk=> ?_,fun i hi o' ho=> ?_⟩
     ·rcases hk with ⟨o,ho⟩|hk
      ·left;refine⟨o, ?_⟩;rw[e_hp,hget2,if_neg (fun e=>(hl i hi).2 e.symm),if_neg (hl i hi).1];exact ho
      ·right;rw[e_nxt];exact hk
     ·rw[e_hp,hget2,if_neg (fun e=>(hl i hi).2 e.symm),if_neg (hl i hi).1]at ho;refine⟨o',ho, ?_⟩;rw[e_mu i (hl i hi).2];exact o'.like_refl _
    have hmemf: ∀i o,i≠id->i≠N->dR c.hp i=some o->(i,o)∈c.hp.filter fun e=> !(Nat.beq e.1 id||Nat.beq e.1 N):=fun i o hi hi2 ho=>List.mem_filter.2 ⟨Ai _ _ _ ho,by
     have h1:Nat.beq i N=false:=Bool.eq_false_iff.2 fun h=>hi2 (au h);have h2:Nat.beq i id=false:=Bool.eq_false_iff.2 fun h=>hi (au h);show(!(Nat.beq i id||Nat.beq i N))=true;rw[h1,h2];rfl⟩
    have hok:c2.Ok W0:=by
     refine⟨by rw[e_w];exact hr.ok.bel,fun i o ho=> ?_,fun i j o q b h1 h2 h3 h4=> ?_,fun r hrm=>by rw[e_w];exact hr.ok.mks r (by rw[<-e_mks];exact hrm),fun b hb=>hout b (hr.ok.bar b (by rw[<-e_bar];exact hb)),hr.ok.phi⟩
     ·rw[e_hp,hget2]at ho;split at ho
      ·rename_i e;subst e;cases ho
       obtain⟨hpos,e,zs,hown,hL,hty⟩:=hr.ok.obj id _ hg;refine⟨hpos,e,zs, ?_, ?_,hty⟩
       ·rw[e_muN,e_w];exact hown
       ·rw[e_w];have:=gz.mono (fO.mono hfree u) _ _ hL;rwa [e_w]at this
      ·rename_i e
       split at ho
       ·cases ho
       ·rename_i e2
        have h0:=hr.ok.obj i o ho;have hm:=hmemf i o e2 (fun q=>e q.symm) ho;have hk:=fun j hj=>hno' j (List.mem_append_right _ (Gh _ _ hm j hj));have hmu:=e_mu i (fun q=>e q.symm);cases o with
        |box e cs=>
         obtain⟨h1,vs,h2,h3,h4⟩:=h0;refine⟨by rw[hmu];exact h1,vs,by rw[hmu,e_w];exact h2,bQ.keeps _ _ (keeps _ hk) h3,h4⟩
        |arr t ver xs=>
         obtain⟨h0,e,zs,h1,h2,h3⟩:=h0;refine⟨h0,e,zs,by rw[hmu,e_w];exact h1, ?_,h3⟩;have:=gz.mono (fO.mono hfree t) _ _ h2;exact this
        |lp f fr ps jC bd ky n p=>
         obtain⟨h0,h1,L,h2,h3,h4⟩:=h0;refine⟨h0,by rw[hmu];exact h1,L,by rw[hmu,e_w];exact h2,bQ.keeps _ _ (keeps _ hk) h3,h4⟩
        |dead=>trivial
        |mp kk vk es=>
         have hmp:=h0;simp only[Cx.ORel,hmu,e_w]at hmp ⊢;exact hmp
     ·rw[e_hp,hget2]at h1 h2;split at h1<;>split at h2
      ·rename_i e1 e2;exact e1.symm.trans e2
      ·rename_i e1 e2
       split at h2
       ·cases h2
       ·rename_i e3
        subst e1;cases h1;rw[e_muN]at h3;rw[e_mu j (fun q=>e2 q.symm)]at h4;exact absurd (hr.ok.inj id j _ q b hg h2 h3 h4).symm e3
      ·rename_i e1 e2
       split at h1
       ·cases h1
       ·rename_i e3
        subst e2;cases h2;rw[e_muN]at h4;rw[e_mu i (fun q=>e1 q.symm)]at h3;exact absurd (hr.ok.inj i id o _ b h1 hg h3 h4) e3
      ·rename_i e1 e2
       split at h1
       ·cases h1
       ·split at h2
        ·cases h2
        ·rw[e_mu i (fun q=>e1 q.symm)]at h3;rw[e_mu j (fun q=>e2 q.symm)]at h4;exact hr.ok.inj i j o q b h1 h2 h3 h4
    have hfr0:bQ c (fr.set s .undef) a.tmps.toList:=bQ.setL _ _ _ hr.fr fun _=>by simp[bY]
    have kl:=keeps _ hno';have hfr1:=bQ.keeps _ _ kl.left.left hfr0;have ji:=bQ.setL (z:=.slc N ver none) s _ _ hfr1 fun hs=>by
     have hv:=hslot hs;simp only[bY]at hv ⊢;refine⟨hv.1,.inl ⟨_,by rw[e_hp,hget2,if_pos rfl]⟩,fun t' u' xs' hg'=> ?_⟩;rw[e_hp,hget2,if_pos rfl]at hg';cases hg';have:=hv.2.2 _ _ _ hg;refine⟨this.1,fun e=> ?_⟩;have h2:=this.2 e;simp only[jb]at h2 ⊢;rw[e_muN];exact h2
    rw[List.set_set]at ji;exact⟨c2,⟨by rw[e_hp],e_nxt,hok,ji,Dk.keeps _ _ kl.left.right hr.stk,by rw[e_mks];exact hr.df,by rw[e_w];exact hr.rd⟩,
     ⟨fun _ h=>by rw[e_mks];exact h,fun b L h=>⟨L,by rw[e_w];exact h⟩,by rw[e_w];exact ah _,e_bar,fun b hb=>⟨hout b hb,by rw[e_w]⟩⟩,e_w⟩
   ·cases h
 ·cases ho:vJ s t st with
  |none=>rw[ho]at h;cases h
  |some st1=>
   rw[ho]at h;cases h;obtain⟨c1,hr1,hm1,hw1⟩:=Oy hr ho;obtain⟨c2,hr2,hm2,hw2⟩:=hr1.sorted;exact⟨c2,hr2,hm1.trans hm2,hw2.trans hw1⟩
theorem Vb {s:Nat} {t:Ty} {l:List (Nat×Ty)} {st st':St} (h:jL ((s,t)::l) st=some st'):(∃t' st1,Ah s t' st=some st1/\jL l st1=some st')\/(∃t' st1,Kv (s/100) (s %100) t' st=some st1/\jL l st1=some st')\/(∃t' st1,KH s t' st=some st1/\jL l st1=some st')\/ ∃st1,vJ s t st=some st1/\jL l st1=some st':=by
 have own:(match vJ s t st with|some st=>jL l st|none=>none)=some st'-> ∃st1,vJ s t st=some st1/\jL l st1=some st':=fun h=>by
  cases ho:vJ s t st with
  |none=>rw[ho]at h;cases h
  |some st1=>rw[ho]at h;exact⟨st1,rfl,h⟩
 cases t with
 |pair x y=>
  cases x with
  |unit=>
   left;simp only[jL]at h;cases ho:Ah s y st with
   |none=>rw[ho]at h;cases h
   |some st1=>rw[ho]at h;exact⟨y,st1,ho,h⟩
  |list z=>
   cases z with
   |unit=>
    right;left;simp only[jL]at h;cases ho:Kv (s/100) (s %100) y st with
    |none=>rw[ho]at h;cases h
    |some st1=>rw[ho]at h;exact⟨y,st1,ho,h⟩
   |bool=>
    right;right;left;simp only[jL]at h;cases ho:KH s y st with
    |none=>rw[ho]at h;cases h
    |some st1=>rw[ho]at h;exact⟨y,st1,ho,h⟩
   |_=>right;right;right;exact own h
  |_=>right;right;right;exact own h
 |_=>right;right;right;exact own h
theorem qY: ∀(l:List (Nat×Ty)) {c:Cx} {st:St},iY W0 b0 rd c st a ats-> ∀{st':St},jL l st=some st'-> ∃c',iY W0 b0 rd c' st' a ats/\c.Mono c'/\c'.w=c.w
 |[],c,st,hr,st',h=>by cases h;exact⟨c,hr,Cx.Mono.refl c,rfl⟩
 |(s,t)::l,c,st,hr,st',h=>by
  rcases Vb h with ⟨t',st1,h1,h2⟩|⟨t',st1,h1,h2⟩|⟨t',st1,h1,h2⟩|⟨st1,h1,h2⟩
  ·obtain⟨c1,hr1,hm1,hw1⟩:=JF hr h1;obtain⟨c2,hr2,hm2,hw2⟩:=qY l hr1 h2;exact⟨c2,hr2,hm1.trans hm2,hw2.trans hw1⟩
  ·obtain⟨c1,hr1,hm1,hw1⟩:=aek hr h1;obtain⟨c2,hr2,hm2,hw2⟩:=qY l hr1 h2;exact⟨c2,hr2,hm1.trans hm2,hw2.trans hw1⟩
  ·obtain⟨c1,hr1,hm1,hw1⟩:=aeq hr h1;obtain⟨c2,hr2,hm2,hw2⟩:=qY l hr1 h2;exact⟨c2,hr2,hm1.trans hm2,hw2.trans hw1⟩
  ·obtain⟨c1,hr1,hm1,hw1⟩:=Oy hr h1;obtain⟨c2,hr2,hm2,hw2⟩:=qY l hr1 h2;exact⟨c2,hr2,hm1.trans hm2,hw2.trans hw1⟩
theorem pX (hr:iY W0 b0 rd c st a ats) {slots:List Nat} {owns:List (Nat×Ty)} {st':St} (h:LC slots owns st=some st'): ∃c',iY W0 b0 rd c' st' a ats/\c.Mono c'/\c'.w=c.w:=by
 have hr0:iY W0 b0 rd c {st with fr:=G7 slots 0 st.fr} a ats:=⟨hr.hp,hr.nxt,hr.ok,Ak 0 _ _ hr.fr,hr.stk,hr.df,hr.rd⟩;have go: ∀{c0:Cx} {st0:St},iY W0 b0 rd c0 st0 a ats->(match jL owns st0 with
   |some st=>match gc (1000000*st.stk.length) .undef st with
    |some st=>some (Xi st)
    |none=>none
   |none=>none)=some st'-> ∃c',iY W0 b0 rd c' st' a ats/\c0.Mono c'/\c'.w=c0.w:=fun {c0 st0} hr0 h=>by
  split at h
  ·rename_i st1 h1
   obtain⟨c1,hr1,hm1,hw1⟩:=qY owns hr0 h1;split at h
   ·rename_i st2 h2
    cases h;obtain⟨c2,hr2,_,hm2,hw2,_,_⟩:=hr1.gc (v:=.undef) (u:=undef) (by simp[bY]) h2;obtain⟨c3,hr3,hm3,hw3⟩:=hr2.anew;exact⟨c3,hr3,(hm1.trans hm2).trans hm3,hw3.trans (hw2.trans hw1)⟩
   ·cases h
  ·cases h
 unfold LC at h;split at h
 ·rename_i st1 h1
  split at h1
  ·cases h1;exact go hr0 h
  ·obtain⟨c1,hr1,_,hm1,hw1,_,_⟩:=hr0.gc (v:=.undef) (u:=undef) (by simp[bY]) h1;obtain⟨c2,hr2,hm2,hw2⟩:=go hr1 h;exact⟨c2,hr2,hm1.trans hm2,hw2.trans hw1⟩
 ·cases h
theorem G6: ∀(l:List (Nat×Ty)) {c:Cx} {st:St},iY W0 b0 rd c st a ats-> ∀{st':St},Fg l st=some st'-> ∃c',iY W0 b0 rd c' st' a ats/\c.Mono c'/\c'.w=c.w
 |[],c,st,hr,st',h=>by cases h;exact⟨c,hr,Cx.Mono.refl c,rfl⟩
 |(s,t)::l,c,st,hr,st',h=>by
  simp only[Fg]at h;split at h
  ·rename_i st1 h1
   obtain⟨c1,hr1,hm1,hw1⟩:=JF hr h1;obtain⟨c2,hr2,hm2,hw2⟩:=G6 l hr1 h;exact⟨c2,hr2,hm1.trans hm2,hw2.trans hw1⟩
  ·cases h
theorem Xb (hr:iY W0 b0 rd c st a ats) {k:dZ} {st':St} (h:awx k st=some st'): ∃c',iY W0 b0 rd c' st' a ats/\c.Mono c'/\c'.w=c.w:=by
 simp only[awx]at h;split at h
 ·rename_i st1 h1
  have hr0:iY W0 b0 rd c {st with fr:=G7 k.rets 0 st.fr} a ats:=⟨hr.hp,hr.nxt,hr.ok,Ak 0 _ _ hr.fr,hr.stk,hr.df,hr.rd⟩;obtain⟨c1,hr1,hm1,hw1⟩:=G6 k.give hr0 h1;split at h
  ·rename_i st2 h2
   cases h;obtain⟨c2,hr2,_,hm2,hw2,_,_⟩:=hr1.gc (v:=.undef) (u:=undef) (by simp[bY]) h2;obtain⟨c3,hr3,hm3,hw3⟩:=hr2.anew;exact⟨c3,hr3,(hm1.trans hm2).trans hm3,hw3.trans (hw2.trans hw1)⟩
  ·cases h
 ·cases h
end
end
section
open Bool renaming and_eq_true → af, false_eq_true → aj
open List renaming mem_cons_of_mem → aA
open Nat renaming le_refl → ah, lt_or_ge → aS
open Go.RowKit
def nN {R:Type} (P:Program) (call:gK R):Prop:=
 ∀(W0:World) (b0:Nat) (rd:Option Nat) (fv:bV) (args:List bV) (dst:Option Nat) (st:St) (K:bV->St->Option R) (r:R),call fv args dst st K=some r->
  ∀(c:Cx) (a:Act) (ats:List (Array Value)) (fv':Value) (args':Array Value),iY W0 b0 rd c st a ats->bY c fv fv'->bQ c args args'.toList->
   ∃z v,K z st=some r/\bY c z v/\ ∀w',GK c w'->(∃g args'',(do let d<-Deferred.ofValue fv' args';invoke d.target d.args:Sem Next).run P w'=.ok (.enter g args'') w'/\
    Calls P g args'' w' (fun e w''=>e=.returned v/\GK c w''))\/(do let d<-Deferred.ofValue fv' args';invoke d.target d.args:Sem Next).run P w'=.ok (.value v) w'
section
variable {P:Program} {T:TT} {W0:World} {b0 n:Nat} {rd:Option Nat} {c:Cx} {R:Type} {r:R} {st:St} {a:Act} {ats:List (Array Value)}
theorem iY.ext (h:iY W0 b0 rd c st a ats) {w:World} (hw:GK c w):iY W0 b0 rd (c.at_ w) st a ats:=by
 have hle:=Cx.Le.ext hw;exact⟨h.hp,h.nxt,h.ok.ext hw,bQ.le hle _ _ h.fr,Dk.le hle _ _ h.stk,let⟨ds,h1,h2,h3⟩:=h.df;⟨ds,h1,h2,h3⟩,fun l hl=>let⟨L,hL⟩:=h.rd l hl;hle.lp l L hL⟩
theorem aei (hT:TOk P T) {cl:Bool} {call:gK R} (hcall:nN P call) {o:Oper} (hq:jS o.op=true) {K:bV->St->Option R} (h:eU T cl call o st K=some r) (hr:iY W0 b0 rd c st a ats):
  ∃z v,K z st=some r/\bY c z v/\ ∀w',GK c w'->o.quietAtIn (FW rd) n P a (GK c) w' v:=by
 by_cases hq2:iI o.op=true
 ·obtain⟨z,u,h1,h2,h3⟩:=AB hT hr.ok hq2 hr.hp hr.fr h;refine⟨z,u,h1,h2,fun w' hw'=> ?_⟩;unfold Oper.quietAtIn;rw[h3 w' hw'];exact⟨rfl,rfl⟩
 ·obtain⟨dst,op,ty,pos,after,guard⟩:=o;cases op<;>simp only[jS,aj]at hq<;>(try (exact absurd rfl hq2))
  case call cc=>
   obtain⟨callee,args,argTypes⟩:=cc;cases callee with
   |builtin b=>cases b<;>simp only[aj]at hq<;>exact absurd rfl hq2
   |invoke x m=>simp only[aj]at hq
   |value f=>
    simp only[eU]at h;obtain⟨z,v,h1,h2,h3⟩:=hcall W0 b0 rd _ _ dst st K r h c a ats (a.eval f) (args.map a.eval) hr (dQ hr.fr f) (by
     have:=bQ.map_eval (c:=c) hr.fr args.toList;simpa using this)
    refine⟨z,v,h1,h2,fun w' hw'=> ?_⟩;unfold Oper.quietAtIn;rcases h3 w' hw' with ⟨g,args'',h4,h5⟩|h4
    ·have h6:(execOp a.eval ⟨dst,.call {callee:=.value f,args:=args,argTypes:=argTypes},ty,pos,after,guard⟩).run P w'=.ok (.enter g args'') w':=h4;rw[h6];exact⟨rfl,ui rd,(callsIn_wide (n:=n-1)).2 h5⟩
    ·have h6:(execOp a.eval ⟨dst,.call {callee:=.value f,args:=args,argTypes:=argTypes},ty,pos,after,guard⟩).run P w'=.ok (.value v) w':=h4;rw[h6];exact⟨rfl,rfl⟩
theorem MR (hT:TOk P T) {cl:Bool} {call:gK R} (hcall:nN P call) (ops:Array Oper) {K:St->Option R}: ∀(l:List Oper) (st:St) (a:Act),(∀o∈l,jS o.op=true)->iF T cl call ops K l st=some r->iY W0 b0 rd c st a ats->
  wpQuietIn (FW rd) n P ops (GK c) (fun a'=> ∃st',K st'=some r/\iY W0 b0 rd c st' a' ats) l a
 |[],st,a,hq,h,hr=>by
  simp only[iF]at h;exact⟨st,h,hr⟩
 |o::l,st,a,hq,h,hr=>by
  simp only[iF]at h;have hq': ∀o∈l,jS o.op=true:=fun o' ho'=>hq o' (aA _ ho');have step: ∀(st:St) (a:Act),iY W0 b0 rd c st a ats->eU T cl call o st (fun v st=>iF T cl call ops K l (st.put o.dst v))=some r->
    o.quietIn (FW rd) n P a (GK c) (wpQuietIn (FW rd) n P ops (GK c) (fun a'=> ∃st',K st'=some r/\iY W0 b0 rd c st' a' ats) l):=fun st a hr h=>by
   obtain⟨z,v,h1,h2,h3⟩:=aei (n:=n) hT hcall (hq o (by simp)) h hr;exact⟨v,h3,MR hT hcall ops l _ _ hq' h1 (hr.put h2)⟩
  have skip: ∀(st:St),iY W0 b0 rd c st a ats->iF T cl call ops K l (st.put o.dst (.tup []))=some r->wpQuietIn (FW rd) n P ops (GK c) (fun a'=> ∃st',K st'=some r/\iY W0 b0 rd c st' a' ats) l (a.put o.dst undef):=fun st hr h=>
   MR hT hcall ops l (st.put o.dst (.tup [])) (a.put o.dst undef) hq' h (hr.put (by simp only[bY];exact⟨#[],rfl,by simp[bQ]⟩))
  simp only[wpQuietIn];refine⟨fun _ _ _ _=>trivial, ?_⟩;cases hg:o.guard with
  |none=>
   rw[hg]at h;rw[if_pos (by simp[Region.wanted,hg])];exact step st a hr h
  |some jw=>
   obtain⟨j,want⟩:=jw;rw[hg]at h;simp only at h;split at h
   ·cases h
   ·rename_i d hd
    have hy:=I4 ops j d hd a.tmps;have hsl:=hr.fr.getD d;split at h
    ·rename_i b hb
     rw[hb]at hsl;simp only[bY]at hsl;have hv:=hsl.bool_inv;have hdl:d<a.tmps.size:=by
      rcases aS d a.tmps.size with h1|h1
      ·exact h1
      ·rw[Array.getD,dif_neg (by omega)]at hv;simp[undef]at hv
     have hv2:a.tmps[d]? =some (.bool b):=by
      rw[Array.getD,dif_pos hdl]at hv;rw[Array.getElem?_eq_getElem hdl];simpa using hv
     rw[hv2]at hy;simp only at hy;have hself:a.put (some d) (.bool b)=a:=by
      simp only[Act.put];obtain⟨hh1,hh2⟩:=Array.getElem?_eq_some_iff.1 hv2;have:a.tmps.setIfInBounds d (.bool b)=a.tmps:=by
       apply Array.ext
       ·rw[Array.size_setIfInBounds]
       ·intro i h1 h2;rw[Array.getElem_setIfInBounds (by rwa [Array.size_setIfInBounds]at h1)];split
        ·rename_i hi
         subst hi;exact hh2.symm
        ·rfl
      rw[this]
     have hr2:iY W0 b0 rd c (st.put (some d) (.val .bool b)) a ats:=by
      have:=hr.put (dst:=some d) (z:=.val .bool b) (v:=.bool b) (by simp only[bY];exact VD.bool_mk);rwa [hself]at this
     cases b<;>cases want<;>(try simp only[cond_true,cond_false]at h)
     ·rw[if_pos (by simp[Region.wanted,hg,hy])];exact step _ a hr2 h
     ·rw[if_neg (by simp[Region.wanted,hg,hy])];exact skip _ hr2 h
     ·rw[if_neg (by simp[Region.wanted,hg,hy])];exact skip _ hr2 h
     ·rw[if_pos (by simp[Region.wanted,hg,hy])];exact step _ a hr2 h
    ·rename_i hb
     rw[hb]at hsl;simp only[bY]at hsl;obtain⟨vs,hv,_⟩:=hsl;have hy2:yielded ops a.tmps j=none:=by
      rw[hy];cases he:a.tmps[d]? with
      |none=>rfl
      |some x=>
       obtain⟨hh1,hh2⟩:=Array.getElem?_eq_some_iff.1 he;rw[Array.getD,dif_pos hh1]at hv;simp at hv;rw[<-hh2,hv]
     rw[if_neg (by simp[Region.wanted,hg,hy2])];exact skip st hr h
    ·cases h
section
variable {ops:Array Oper} {md:Region.Mode} {C:World->Prop} {F:Fence}
theorem UG {o:Oper} (hd:qU o.op=false) {a:Act} {K:Act->Prop} {K':Act->World->Prop} {Q':Exit->Act->World->Prop} {w:World} (hw:C w) (h: ∀a w',C w'->K a->K' a w')
  (ha:o.askedIn F P a C) (hh:o.quietIn F n P a C K):o.wpIn F n P a w K' Q':=by
 obtain⟨v,h1,h2⟩:=hh;have h3:=h1 w hw;unfold Oper.quietAtIn at h3;unfold Oper.wpIn;refine⟨ha w hw, ?_⟩;rw[xx hd];generalize (execOp a.eval o).run P w=r at*;cases r with
 |ok x w'=>
  cases x<;>simp only[Oper.quietUponIn]at h3<;>simp only[Oper.uponIn]
  case value u=>
   obtain⟨e1,e2⟩:=h3;rw[e1,e2];exact h _ _ hw h2
  case skip=>
   obtain⟨e1,e2⟩:=h3;rw[e1,<-e2];exact h _ _ hw h2
  case enter f args=>
   obtain⟨e1,hd,hc⟩:=h3;rw[e1];exact⟨hd,hc.mono fun e w'' ⟨he,hw''⟩=>by subst he;exact h _ _ hw'' h2⟩
 |halt x w'=>simp only[Oper.quietUponIn]at h3
theorem NP {i:Nat} (hd: ∀(i:Nat) (o:Oper),ops[i]? =some o->qU o.op=false) {a:Act} {K:Act->Prop} {K':Act->World->Prop} {Q':Exit->Act->World->Prop} {w:World} (hC:C w) (h: ∀a w',C w'->K a->K' a w')
  (hh:qOpIn F n P ops C i K a):wpOpIn F n P ops Q' i K' a w:=by
 unfold qOpIn at hh;unfold wpOpIn;split
 ·rename_i ho;simp only[ho]at hh;exact h _ _ hC hh
 ·rename_i o ho
  simp only[ho]at hh;obtain⟨ha,hh⟩:=hh;split
  ·rename_i hw;simp only[hw,if_true]at hh;exact UG (hd i o ho) hC h ha hh
  ·rename_i hw;simp only[hw]at hh;exact⟨ha w hC,h _ _ hC hh⟩
theorem yP {Q:Act->Prop} {Q':Exit->Act->World->Prop} (hd: ∀(i:Nat) (o:Oper),ops[i]? =some o->qU o.op=false) (hQ: ∀a w,C w->Q a->Q' .normal a w): ∀(fuel:Nat) (listed:Array Bool) (a:Act) (w:World),C w->
  wpAnyQIn F n P md ops C Q fuel listed a->wpAnyIn F n P md ops Q' fuel listed a w
 |0,_,_,_,hw,h=>⟨h.1,hQ _ _ hw h.2⟩
 |fuel+1,_,_,_,hw,h=>⟨fun h0=>hQ _ _ hw (h.1 h0),fun i hi=>NP hd hw (fun a' w' hw'=>yP hd hQ fuel _ a' w' hw') (h.2 i hi)⟩
theorem IZ {id:Nat} {Q:Exit->Act->World->Prop} {a:Act} {w:World} (hd: ∀(i:Nat) (o:Oper),ops[i]? =some o->qU o.op=false) (hm:P.follows .mixedOrders=true) (hB:Region.lexB .any ops=true) (hC:C {w with drawn:=w.drawn+1})
  (h:wpQuietIn F n P ops C (fun a'=> ∀w',C w'->Q .normal a' w') ops.toList a):(Code.region id ops true).wpIn F n P Q a w:=by
 simp only[Region.lexB,af]at hB;refine wpIn_region_any hm (yP (Q:=fun a'=> ∀w',C w'->Q .normal a' w') hd (fun _ w' hw' h=>h w' hw') _ _ _ _ hC ?_);have:=wpAnyQIn_lex (F:=F) (n:=n) (C:=C) (md:=.any) hB.1 ops.toList 0 (Array.replicate ops.size false) a (by simp) (by simpa using hB.2) h;simpa using this
end
theorem xH {F:Fence} {ops:Array Oper} {C:World->Prop} {Q Q':Act->Prop} (h: ∀a,Q a->Q' a): ∀(l:List Oper) (a:Act),wpQuietIn F n P ops C Q l a->wpQuietIn F n P ops C Q' l a
 |[],a,hh=>h a hh
 |o::l,a,hh=>by
  simp only[wpQuietIn]at hh ⊢;refine⟨hh.1, ?_⟩;have h2:=hh.2;split
  ·rename_i hw
   rw[if_pos hw]at h2;exact Oper.quietIn_mono (xH h l) h2
  ·rename_i hw
   rw[if_neg hw]at h2;exact xH h l _ h2
theorem Ve {op:Op} (h:jS op=true):qU op=false:=by cases op<;>first|rfl|(simp[jS]at h)
theorem NT (hT:TOk P T) (hm:P.follows .mixedOrders=true) {cl:Bool} {call:gK R} (hcall:nN P call) {id:Nat} {ops:Array Oper} (hok:KG ops=true) {K:St->Option R} {Q:Exit->Act->World->Prop}
  (h:iF T cl call ops K ops.toList st=some r) (hr:iY W0 b0 rd c st a ats) (hQ: ∀c' st' a',K st'=some r->iY W0 b0 rd c' st' a' ats->c.Mono c'->Q .normal a' c'.w):
  (Code.region id ops true).wpIn (FW rd) n P Q a c.w:=by
 simp only[KG,af]at hok;have hq: ∀o∈ops.toList,jS o.op=true:=List.all_eq_true.1 hok.1;refine IZ (C:=GK c) (fun i o ho=>Ve (hq o (by have:=Array.mem_of_getElem? ho;simpa using this))) hm hok.2 ⟨rfl,rfl,rfl,ah _,fun _ _=>rfl⟩ ?_;refine xH (fun a' ha' w' hw'=> ?_) _ _ (MR (n:=n) hT hcall ops ops.toList st a hq h hr);obtain⟨st',h1,h2⟩:=ha';exact hQ (c.at_ w') st' a' h1 (h2.ext hw') (Cx.Le.ext hw').mono
end
end
section
open _root_.Array renaming length_toList → bH
open Bool renaming and_eq_true → af, false_eq_true → aj
open List renaming map_cons → az, map_nil → bi
open Nat renaming le_refl → ah
open Go.RowKit
section
variable {P:Program} {T:TT} {W0:World} {b0 n:Nat} {rd:Option Nat} {c:Cx} {R:Type} {r:R} {st:St} {a:Act} {ats:List (Array Value)} {t:TypeId}
theorem azH (hT:TOk P T) (hok:c.Ok W0) {cl:Bool} {call:gK R} {o:Oper} {st:St} {a:Act} {K:bV->St->Option R} (hq:IG o.op=true) (hhp:c.hp=st.hp) (hfr:bQ c st.fr a.tmps.toList)
  (h:eU T cl call o st K=some r): ∃z u,K z st=some r/\bY c z u/\ ∀w',(execOp a.eval o).run P w'=.ok (.value u) w':=by
 have hval: ∀{s:Sem Value} {u:Value} {w':World},s.run P w'=.ok u w'->(do pure (Next.value (<-s)):Sem Next).run P w'=.ok (.value u) w':=fun hs=>by
  simp[Sem.run_bind,hs]
 obtain⟨dst,op,ty,pos,after,guard⟩:=o;simp only at hq;cases op<;>simp only[IG,aj]at hq
 case move x=>exact⟨_,_,h,dQ hfr x,fun w'=>rfl⟩
 case assign x=>exact⟨_,_,h,dQ hfr x,fun w'=>rfl⟩
 case pick x y z=>
  simp only[eU]at h;have hc:=dQ hfr x;split at h
  ·rename_i b hb
   rw[hb]at hc;simp only[bY]at hc;have hc':=hc.bool_inv;cases b
   ·exact⟨_,_,h,dQ hfr z,fun w'=>by simp[execOp,hc',asBool]⟩
   ·exact⟨_,_,h,dQ hfr y,fun w'=>by simp[execOp,hc',asBool]⟩
  ·cases h
 case nilCheck x=>
  simp only[eU]at h;have hx:=dQ hfr x;split at h
  ·rename_i id off he
   rw[he]at hx;split at h
   ·rename_i bt cs hcs
    have hx':=hx;simp only[bY]at hx;rw[<-hhp]at hcs;have hv:=hx.2.2 _ _ hcs;exact⟨_,_,h,hx',fun w'=>by simp[execOp,hv]⟩
   ·cases h
  ·rename_i y e he
   rw[he]at hx;have hx':=hx;simp only[bY]at hx;obtain⟨b,o,zs,hv,_⟩:=hx;exact⟨_,_,h,hx',fun w'=>by simp[execOp,hv]⟩
  ·rename_i id ver i off he
   rw[he]at hx;split at h
   ·rename_i e u xs harr
    replace h:=dJ h;obtain⟨h0,h⟩:=h;have h0:u=ver:=by simpa using h0
    subst h0;have hx':=hx;simp only[bY]at hx;rw[<-hhp]at harr;obtain⟨g,n,cp,_,hv⟩:=(hx.2.2 _ _ _ harr).2 rfl;exact⟨_,_,h,hx',fun w'=>by simp[execOp,hv]⟩
   ·cases h
  ·cases h
 case binOp op t x y yt=>
  simp only[eU]at h;rw[<-hhp]at h;obtain⟨z,u,h1,h2,h3⟩:=auE (P:=P) (ox:=x) (oy:=y) (K:=fun v=>K v st) hT hok h (dQ hfr x) (dQ hfr y);exact⟨z,u,h1,h2,fun w'=>hval (h3 w')⟩
 case unOp op t x=>
  simp only[eU]at h;obtain⟨z,u,h1,h2,h3⟩:=aGq (P:=P) (K:=fun v=>K v st) h (dQ hfr x);exact⟨z,u,h1,h2,fun w'=>hval (h3 w')⟩
 case slice t x lo hi mx=>
  simp only[eU]at h;rw[<-hhp]at h;obtain⟨z,u,h1,h2,h3⟩:=aj1 (P:=P) (K:=fun v=>K v st) hT hok h (dQ hfr x) (lT.map hfr lo) (lT.map hfr hi) (lT.map hfr mx);exact⟨z,u,h1,h2,fun w'=>hval (h3 w')⟩
 case fieldAddr t x f=>
  simp only[eU]at h;rw[<-hhp]at h;obtain⟨z,u,h1,h2,h3⟩:=OB (P:=P) (K:=fun v=>K v st) hT h (dQ hfr x);exact⟨z,u,h1,h2,fun w'=>hval (h3 w')⟩
 case field t x f=>
  simp only[eU]at h;obtain⟨z,u,h1,h2,h3⟩:=ajZ (P:=P) (K:=fun v=>K v st) hT h (dQ hfr x);exact⟨z,u,h1,h2,fun w'=>hval (h3 w')⟩
 case indexAddr t x i=>
  simp only[eU]at h;rw[<-hhp]at h;obtain⟨z,u,h1,h2,h3⟩:=OC (P:=P) (K:=fun v=>K v st) hT hok h (dQ hfr x) (dQ hfr i);exact⟨z,u,h1,h2,fun w'=>hval (h3 w')⟩
 case index t x i=>
  simp only[eU]at h;split at h
  ·rename_i s n hs hn
   replace h:=gJ h;obtain⟨h1,h⟩:=h;have hx:=dQ hfr x;rw[hs]at hx;obtain⟨h2,h3⟩:=aj0 (P:=P) hT hx (dQ hfr i) hn h1;exact⟨_,_,h,h2,fun w'=>hval (h3 w')⟩
  ·cases h
 case extract x n=>
  simp only[eU]at h;have hx:=dQ hfr x;split at h
  ·rename_i l hl
   rw[hl]at hx;split at h
   ·rename_i v hv
    simp only[bY]at hx;obtain⟨vs,he,hvs⟩:=hx;obtain⟨hn,hv⟩:=List.getElem?_eq_some_iff.1 hv;have hlen:=bQ.length _ _ hvs;simp at hlen;have h1:=bQ.get _ _ hvs n hn (by simp;omega);rw[hv]at h1;simp only[Array.getElem_toList]at h1;refine⟨_,_,h,h1,fun w'=>hval ?_⟩;rw[he];have:vs[n]? =some vs[n]:=Array.getElem?_eq_getElem (by omega);simp[Instr.extract,this]
   ·cases h
  ·cases h
 case call cc=>
  obtain⟨callee,args,argTypes⟩:=cc;simp only at hq;have hargs:=bQ.map_eval (c:=c) hfr args.toList;split at hq
  all_goals try (cases hq;done)
  ·
   simp only[eU,kC]at h;split at h<;>try (cases h;done)
   ·rename_i x hb hx
    split at h<;>try (cases h;done)
    rename_i t ht
    rw[<-hhp]at h;obtain⟨x0,hx0⟩: ∃x0,args= #[x0]:=by
     obtain⟨l⟩:=args
     match l,hx with
     |[x0],_=>exact⟨x0,rfl⟩
    subst hx0;obtain⟨t0⟩:=argTypes;simp only at ht;subst ht;simp only[az,bi,List.cons.injEq,and_true]at hx;subst hx;obtain⟨z,u,h1,h2,h3⟩:=q_len (P:=P) (K:=fun v=>K v st) hT hok h (dQ hfr x0) (ty:=ty);exact⟨z,u,h1,h2,fun w'=>by simp[execOp,resolve,invoke,builtin,Sem.run_bind,h3 w']⟩
   all_goals (rename_i hb _;cases hb)
  ·
   simp only[eU,kC]at h;split at h<;>try (cases h;done)
   all_goals try (rename_i hb _;cases hb;done)
   rename_i k n l hb hx
   split at h<;>try (cases h;done)
   rename_i ns hns
   rw[hx]at hargs;obtain⟨al⟩:=args;cases al with
   |nil=>simp[bQ]at hargs
   |cons x0 al=>
    simp only[az,bQ]at hargs;have h0:=hargs.1;simp only[bY]at h0;have h1:=h0.int_inv;have h2:=uk _ _ _ hns hargs.2;exact⟨_,_,h,by simp only[bY];exact VD.int_mk,fun w'=>by simp[execOp,resolve,invoke,builtin,Sem.run_bind,Builtin.min_,h1,h2,TN]⟩
  ·
   simp only[eU,kC]at h;split at h<;>try (cases h;done)
   all_goals try (rename_i hb _;cases hb;done)
   rename_i k n l hb hx
   split at h<;>try (cases h;done)
   rename_i ns hns
   rw[hx]at hargs;obtain⟨al⟩:=args;cases al with
   |nil=>simp[bQ]at hargs
   |cons x0 al=>
    simp only[az,bQ]at hargs;have h0:=hargs.1;simp only[bY]at h0;have h1:=h0.int_inv;have h2:=uk _ _ _ hns hargs.2;exact⟨_,_,h,by simp only[bY];exact VD.int_mk,fun w'=>by simp[execOp,resolve,invoke,builtin,Sem.run_bind,Builtin.max_,h1,h2,TM]⟩
def iW {α:Type} (x:Sem α):Prop:= ∀P w v w',x.run P w=.ok v w'->Below w.heap.size w w'
theorem iW.pure {α:Type} (v:α):iW (pure v:Sem α):=fun P w v w' h=>by simp_all [Below.refl]
theorem iW.looks {α:Type} {x:Sem α} (h:x.Looks):iW x:=fun P w v w' hr=>by rw[h.ok hr];exact Below.refl _ _
theorem iW.bind {α β:Type} {x:Sem α} {f:α->Sem β} (hx:iW x) (hf: ∀a,iW (f a)):iW (x>>=f):=fun P w v w' h=>by
 rw[Sem.run_bind]at h;cases hr:x.run P w with
 |halt e w1=>simp_all
 |ok u w1=>
  rw[hr,Result.andThen_ok]at h;have h1:=hx P w u w1 hr;exact h1.trans ((hf u P w1 v w' h).mono h1.size)
theorem iW.never {α:Type} {x:Sem α} (h: ∀P w v w',x.run P w≠ .ok v w'):iW x:=fun P w v w' hr=>absurd hr (h P w v w')
theorem iW.new (o:Obj):iW (newObj o):=fun P w v w' h=>by
 have e:(newObj o).run P w=.ok w.heap.size (w.alloc o):=rfl;rw[e]at h;cases h;exact(Below.refl _ _).alloc (ah _) o
theorem vz (t:TypeId):iW (underlying t):=.looks (underlying_looks t)
theorem af0 (t:TypeId):iW (typeInfo t):=.looks (typeInfo_looks t)
theorem RI (t:TypeId):iW (sizeOf t):=.looks (sizeOf_looks t)
theorem qc {α:Type} (s:String):iW (stuck s:Sem α):=.looks (stuck_looks s)
theorem G5 {α:Type} (u:Unsupported):iW (unsupported u:Sem α):=.looks (unsupported_looks u)
theorem aiH (t:TypeId):iW (isAgg t):=by
 unfold isAgg;refine(vz t).bind fun d=> ?_;split<;>exact .pure _
theorem acY (t:TypeId):iW (zeroValue t):=by
 unfold zeroValue;refine(af0 t).bind fun d=> ?_;split
 ·exact .pure _
 ·exact G5 _
theorem afZ (v:Value):iW (Instr.sureAddr v):=by
 unfold Instr.sureAddr;split
 ·exact .pure _
 ·exact qc _
theorem aob (t:TypeId) (a:Addr):iW (loadVar t a):=by
 unfold loadVar;refine(aiH t).bind fun d=> ?_;split
 ·exact(RI t).bind fun k=>(iW.looks (loadCells_looks a k)).bind fun _=>.pure _
 ·exact .looks (load_looks _ _)
theorem an9 (v:Value):iW (asIntOf v):=by
 unfold asIntOf;split
 ·exact .pure _
 ·exact G5 _
 ·exact qc _
theorem asu (v:Value):iW (asBool v):=by
 unfold asBool;split
 ·exact .pure _
 ·exact qc _
theorem SN {α β:Type} {x:Sem α} {f:α->Sem β} (hf: ∀a P w v w',(f a).run P w≠ .ok v w'): ∀P w v w',(x>>=f).run P w≠ .ok v w':=fun P w v w' h=>by
 rw[Sem.run_bind]at h;cases hr:x.run P w with
 |halt e w1=>simp_all
 |ok u w1=>simp_all
theorem U3 {α:Type} (v:Value): ∀P w u w',(goPanic v:Sem α).run P w≠ .ok u w':=fun P w u w' h=>by cases h
theorem Iw {α:Type} (e:RuntimeError): ∀P w u w',(runtimePanic e:Sem α).run P w≠ .ok u w':=by
 grind [runtimePanic,SN,U3]
theorem UV {α:Type} (k:IntKind) (x y:Int) (code:BoundsCode):iW (boundsPanic k x y code:Sem α):=by
 unfold boundsPanic;dsimp only;split<;>exact .never (SN fun _=>Iw _)
theorem acW (e:TypeId) (cs:Array Value):iW (newRow e cs):=by
 unfold newRow;exact(iW.new _).bind fun _=>.pure _
theorem aDf (t:TypeId) (cs:Array Value) (off:Nat):iW (part t cs off):=by
 unfold part;refine(aiH t).bind fun b=> ?_;split
 ·exact(RI t).bind fun _=>.pure _
 ·split
  ·exact .pure _
  ·exact qc _
theorem asw (t:TypeId) (v:Value):iW (Instr.loadAt t v):=by
 unfold Instr.loadAt;exact(afZ v).bind fun a=>aob t a
theorem aoa (t:Value) (i:Nat):iW (Instr.extract t i):=by
 unfold Instr.extract;split
 ·split
  ·exact .pure _
  ·exact qc _
 ·exact qc _
theorem axn (t:TypeId) (x i:Value):iW (Instr.index t x i):=by
 unfold Instr.index;refine(an9 i).bind fun ki=> ?_;refine(vz t).bind fun d=> ?_
 repeat' first
  |exact UV _ _ _ _
  |exact qc _
  |exact .pure _
  |exact(RI _).bind fun _=>aDf _ _ _
  |split
  |dsimp only
theorem aFX (t:TypeId) (v:Value):iW (Instr.box t v):=by
 unfold Instr.box newVar;exact(acW _ _).bind fun _=>.pure _
theorem axm (t:TypeId):iW (Instr.alloc t true (.tuple #[])):=by
 unfold Instr.alloc;refine(acY t).bind fun z=> ?_;dsimp only;unfold newVar;exact(acW _ _).bind fun _=>.pure _
theorem X8 (r:Nat):(getObj r).Looks:=fun _=>trivial
theorem acV (r:Nat):iW (getObj r):=.looks (X8 r)
theorem axo (r:Nat):iW (Go.shape r):=.looks (fun _=>trivial)
theorem asx (r:Nat):iW (viewAt r):=by
 unfold viewAt
 repeat' first
  |exact .pure _
  |exact axo _
  |exact acV _
  |(refine iW.bind ?_ fun _=> ?_)
  |split
  |dsimp only
theorem asv (t:TypeId):iW (elemOf t):=by
 unfold elemOf;refine(vz t).bind fun d=> ?_;split
 ·exact .pure _
 ·exact qc _
theorem aFY (ts:Array TypeId) (ty:TypeId) (args:Array Value):iW (Builtin.len_ ts ty args):=by
 unfold Builtin.len_
 repeat' first
  |exact .pure _
  |exact qc _
  |exact vz _
  |exact acV _
  |(refine iW.bind ?_ fun _=> ?_)
  |split
  |dsimp only
theorem acX (ts:Array TypeId) (ty:TypeId) (args:Array Value):iW (Builtin.unsafeSliceData_ ts ty args):=by
 obtain⟨l⟩:=args
 match l with
 |[]=>exact qc _
 |_::_::_=>exact qc _
 |[v]=>
  cases v with
  |slice a n c=>
   cases a with
   |none=>exact iW.pure _
   |some a=>
    have e:Builtin.unsafeSliceData_ ts ty #[.slice (some a) n c]=(do
      if c≠0 then pure (.pointer (some a))
      else if(<-viewAt a.block).isSome then pure (.pointer (some a))
      else pure (.pointer (some ⟨<-newObj (.view a (<-elemOf ty)),0,none⟩))):=rfl
    rw[e]
    repeat' first
     |exact .pure _
     |exact asx _
     |exact asv _
     |exact iW.new _
     |(refine iW.bind ?_ fun _=> ?_)
     |split
     |dsimp only
  |_=>exact qc _
theorem agf {o:Oper} (hk:O4 o.op=true) (ρ:Operand->Value) (P:Program) (w:World) (v:Next) (w':World) (h:(execOp ρ o).run P w=.ok v w'):(∃u,v=.value u)/\Below w.heap.size w w':=by
 have hv: ∀{s:Sem Value},iW s->(do pure (Next.value (<-s)):Sem Next).run P w=.ok v w'->(∃u,v=.value u)/\Below w.heap.size w w':=fun {s} hs h=>by
  rw[Sem.run_bind]at h;cases hr:s.run P w with
  |halt e w1=>simp_all
  |ok u w1=>
   rw[hr,Result.andThen_ok,Sem.run_pure]at h;cases h;exact⟨⟨u,rfl⟩,hs P w u w' hr⟩
 obtain⟨dst,op,ty,pos,after,guard⟩:=o;simp only at hk;cases op<;>simp only[O4,aj]at hk
 case move x=>cases h;exact⟨⟨_,rfl⟩,Below.refl _ _⟩
 case assign x=>cases h;exact⟨⟨_,rfl⟩,Below.refl _ _⟩
 case pick x y z=>
  have e:execOp ρ ⟨dst,.pick x y z,ty,pos,after,guard⟩=(do pure (Next.value (<-(do pure (if<-asBool (ρ x)then ρ y else ρ z):Sem Value))):Sem Next):=by
   simp[execOp,bind_assoc]
  rw[e]at h;exact hv ((asu _).bind fun _=>.pure _) h
 case load t x=>exact hv (asw t (ρ x)) h
 case index t x i=>exact hv (axn t (ρ x) (ρ i)) h
 case extract x i=>exact hv (aoa (ρ x) i) h
 case box t x=>exact hv (aFX t (ρ x)) h
 case alloc t=>exact hv (axm t) h
 case call cc=>
  obtain⟨callee,args,ts⟩:=cc;cases callee with
  |builtin b=>
   cases b<;>simp only[aj]at hk
   case len=>
    grind [execOp,builtin,resolve,invoke,aFY]
   case unsafeSliceData=>
    have e:execOp ρ ⟨dst,.call {callee:=.builtin .unsafeSliceData,args:=args,argTypes:=ts},ty,pos,after,guard⟩=(do pure (Next.value (<-Builtin.unsafeSliceData_ ts ty (args.map ρ))):Sem Next):=by
     rfl
    grind [acX]
  |_=>simp at hk
theorem oO {ops:Array Oper} (h:mQ ops=true) (i:Nat) (o:Oper) (ho:ops[i]? =some o):qU o.op=false/\ ∀cs b,o.op≠ .select cs b:=by
 have:=List.all_eq_true.1 h o (by grind)
 grind [qU]
def pY (P:Program) (ops:Array Oper) (C:World->Prop) (o:Oper) (v:Value) (a:Act):Prop:=
 (Region.wanted o (yielded ops a.tmps)=true/\ ∀w,C w->(execOp a.eval o).run P w=.ok (.value v) w)\/(Region.wanted o (yielded ops a.tmps)=false/\v=undef)
def Xf (P:Program) (C:World->Prop) (o:Oper):Prop:=(∀w,C w)\/ ∀ρ w v w',C w->(execOp ρ o).run P w=.ok v w'->(∃u,v=.value u)/\C w'
variable {ops:Array Oper} {C:World->Prop} {Q:Exit->Act->World->Prop}
theorem pY.of_same {o:Oper} {v:Value} {a a':Act} (hy:pY P ops C o v a) (he:execOp a'.eval o=execOp a.eval o)
  (hw:Region.wanted o (yielded ops a'.tmps)=Region.wanted o (yielded ops a.tmps)):pY P ops C o v a':=by
 rcases hy with ⟨h1,h2⟩|⟨h1,h2⟩
 ·exact .inl ⟨by rw[hw];exact h1,fun w hc=>by simp_all⟩
 ·exact .inr ⟨by rw[hw];exact h1,h2⟩
theorem pY.wpOpIn {i:Nat} {o:Oper} {v:Value} {a:Act} (hd:mQ ops=true) (hi:ops[i]? =some o) (hy:pY P ops C o v a) {K:Act->World->Prop} {w:World} (hw:C w) (h:K (a.put o.dst v) w):wpOpIn (FW rd) n P ops Q i K a w:=by
 unfold Go.wpOpIn;simp only[hi];rcases hy with ⟨h1,h2⟩|⟨h1,rfl⟩
 ·rw[if_pos h1];refine⟨qN o w _, ?_⟩;rw[xx (oO hd i o hi).1,h2 w hw];exact h
 ·rw[if_neg (by rw[h1];simp)]
  grind [qN]
theorem aeY {j:Nat} {oi oj:Oper} {v:Value} (hd:mQ ops=true) (hi: ∃i:Nat,ops[i]? =some oi) (hj:ops[j]? =some oj) (hap:oi.apart ops oj=true) (hkeep:Xf P C oj) (hQ: ∀c a w,¬Q (.panic c) a w) {K:Act->World->Prop} {a:Act} {w:World} (hw:C w)
  (hy:pY P ops C oi v a) (h:wpOpIn (FW rd) n P ops Q j K (a.put oi.dst v) w):wpOpIn (FW rd) n P ops Q j (fun a' w'=>C w'/\pY P ops C oi v a'/\K (a'.put oi.dst v) w') a w:=by
 obtain⟨h1,h2,h3⟩:=Oper.apart_spec hap;obtain⟨i,hi⟩:=hi;have hsi:=(oO hd i oi hi).2;obtain⟨hdj,hsj⟩:=oO hd j oj hj;have keep: ∀(a:Act),pY P ops C oi v a-> ∀u,pY P ops C oi v (a.put oj.dst u):=fun a hy u=>hy.of_same (execOp_put oi hsi a oj.dst u h3) (wanted_put oi a oj.dst u h3);unfold wpOpIn at*;simp only[hj]at*;rw[wanted_put oj a oi.dst v h1]at h;split
 ·rename_i hwt
  rw[if_pos hwt]at h;unfold Oper.wpIn at*;refine⟨qN oj w _, ?_⟩;have h:=h.2;rw[xx hdj,execOp_put oj hsj a oi.dst v h1]at h;rw[xx hdj];have hk:(∀w,C w)\/ ∀x w',(execOp a.eval oj).run P w=.ok x w'->(∃u,x=.value u)/\C w':=by
   rcases hkeep with hk|hk
   all_goals grind
  generalize (execOp a.eval oj).run P w=r at*;cases r with
  |ok x w'=>
   have hall:(∀w,C w)\/((∃u,x=.value u)/\C w'):=by
    simp_all
   cases x<;>simp only[Oper.uponIn]at h ⊢
   case value u=>
    grind [Act.put_comm]
   case skip=>
    grind [Act.put_comm]
   case defer d=>
    rcases hall with hk|hk
    ·have keepD: ∀d,pY P ops C oi v {a with defers:=d::a.defers}:=fun d=>hy.of_same rfl rfl
     grind [Act.put_comm,Act.put_defers]
    simp_all
   case enter f args=>
    grind [Act.put_comm]
   case row row args=>
    grind [Act.put_comm]
   grind [Act.put_comm]
  |halt x w'=>
   cases x<;>simp only[Oper.uponIn]at h ⊢;simp_all
 ·rename_i hwt
  rw[if_neg hwt]at h
  grind [qN,Act.put_comm]
theorem MJ {l:List Nat} {i:Nat}:V4 l i=true↔i∈l:=by
 simp_all [V4]
theorem EW {i:Nat} {oi:Oper} {v:Value} (hd:mQ ops=true) (hi:ops[i]? =some oi) (hQ: ∀c a w,¬Q (.panic c) a w) (D:List Nat) (hD: ∀j∈D,j≠i->EU ops j D=true):
  ∀(fuel:Nat) (listed:Array Bool) (a:Act) (w:World),C w->(∀j∈D,listed.getD j true=false)->
   (∀j oj,ops[j]? =some oj->j∉D->listed.getD j true=false->oi.apart ops oj=true/\Xf P C oj)->i∈D->
   i∈Region.ready .any ops listed->pY P ops C oi v a->
   wpAnyIn (FW rd) n P .any ops Q fuel (listed.setIfInBounds i true) (a.put oi.dst v) w->wpAnyIn (FW rd) n P .any ops Q (fuel+1) listed a w:=by
 have hnot: ∀(listed:Array Bool) (j:Nat),(∀j∈D,listed.getD j true=false)->j∈Region.ready .any ops listed->j≠i->j∉D:=fun listed j hl hj hji hjD=>by
  have hw:=hD j hjD hji;unfold EU at hw;obtain⟨_,oj,hoj,hall⟩:=mem_ready.1 hj;rw[hoj]at hw;obtain⟨e,he,hb⟩:=Array.any_eq_true'.1 hw;simp only[af]at hb
  grind [MJ]
 intro fuel
 induction fuel with
 |zero=>
  intro listed a w hw hl _ hiD hr hy H;refine⟨fun h=>(by simp_all),fun j hj=> ?_⟩;by_cases hji:j=i
  ·subst hji;exact hy.wpOpIn hd hi hw H
  ·have:=ready_mono hj hji;rw[H.1]at this;cases this
 |succ fuel ih=>
  intro listed a w hw hl hfree hiD hr hy H;refine⟨fun h=>(by simp_all),fun j hj=> ?_⟩;by_cases hji:j=i
  ·subst hji;exact hy.wpOpIn hd hi hw H
  ·have h1:=H.2 j (ready_mono hj hji);have hjD:=hnot listed j hl hj hji;obtain⟨hjun,oj,hoj,hall⟩:=mem_ready.1 hj;obtain⟨hap,hkp⟩:=hfree j oj hoj hjD hjun;have h2:=aeY hd ⟨i,hi⟩ hoj hap hkp hQ hw hy h1;have hl': ∀k∈D,(listed.setIfInBounds j true).getD k true=false:=fun k hk=>by
    rw[getD_set_ne true (fun e=>hjD (by rw[e];exact hk))];exact hl k hk
   have hfree': ∀k ok,ops[k]? =some ok->k∉D->(listed.setIfInBounds j true).getD k true=false->oi.apart ops ok=true/\Xf P C ok:=fun k ok hk hkD hun=>by
    refine hfree k ok hk hkD ?_;by_cases hjk:j=k
    all_goals simp_all
   refine wpOpIn_mono (fun a' w' h3=>ih (listed.setIfInBounds j true) a' w' h3.1 hl' hfree' hiD (ready_mono hr (Ne.symm hji)) h3.2.1 ?_) h2;simp_all [Array.setIfInBounds_comm]
theorem Jr {cl:Bool} {call:gK R} {K:St->Option R} (o:Oper) (l:List Oper) (st:St):iF T cl call ops K (o::l) st=iF T cl call ops (iF T cl call ops K l) [o] st:=by
 simp only[iF]
theorem aeh {cl:Bool} {call:gK R} {K:St->Option R} {o:Oper} (h:iF T cl call ops K [o] st=some r) (hr:iY W0 b0 rd c st a ats):
  (Region.wanted o (yielded ops a.tmps)=true/\ ∃st1,iY W0 b0 rd c st1 a ats/\eU T cl call o st1 (fun v st=>K (st.put o.dst v))=some r)\/
  (Region.wanted o (yielded ops a.tmps)=false/\ ∃st1,iY W0 b0 rd c st1 (a.put o.dst undef) ats/\K st1=some r):=by
 simp only[iF]at h;have skip: ∀(st:St),iY W0 b0 rd c st a ats->iY W0 b0 rd c (st.put o.dst (.tup [])) (a.put o.dst undef) ats:=fun st hr=>hr.put (by simp only[bY];exact⟨#[],rfl,by simp[bQ]⟩);cases hg:o.guard with
 |none=>
  grind [Region.wanted]
 |some jw=>
  obtain⟨j,want⟩:=jw;rw[hg]at h;simp only at h;split at h
  ·cases h
  ·rename_i d hd
   have hy:=I4 ops j d hd a.tmps;have hsl:=hr.fr.getD d;have hsz:=bQ.length _ _ hr.fr;rw[bH]at hsz;split at h
   ·rename_i b hb
    rw[hb]at hsl;simp only[bY]at hsl;have hv:=hsl.bool_inv;have hdl:d<a.tmps.size:=by
     grind
    have hv2:a.tmps[d]? =some (.bool b):=by
     simp_all
    rw[hv2]at hy;simp only at hy;have hself:a.put (some d) (.bool b)=a:=by
     simp only[Act.put];obtain⟨hh1,hh2⟩:=Array.getElem?_eq_some_iff.1 hv2;have:a.tmps.setIfInBounds d (.bool b)=a.tmps:=by
      grind
     rw[this]
    have hr2:iY W0 b0 rd c (st.put (some d) (.val .bool b)) a ats:=by
     have:=hr.put (dst:=some d) (z:=.val .bool b) (v:=.bool b) (by simp_all [bY]);rwa [hself]at this
    cases b<;>cases want<;>(try simp only[cond_true,cond_false]at h)
    ·grind [Region.wanted]
    ·grind [Region.wanted]
    ·grind [Region.wanted]
    grind [Region.wanted]
   ·rename_i hb
    rw[hb]at hsl;simp only[bY]at hsl;obtain⟨vs,hv,_⟩:=hsl;have hy2:yielded ops a.tmps j=none:=by
     rw[hy];cases he:a.tmps[d]? with
     |none=>rfl
     |some x=>
      simp_all
    grind [Region.wanted]
   ·cases h
theorem aeT {listed:Array Bool} {i:Nat} {pure:Bool} {oi:Oper} (hi:ops[i]? =some oi) (h:Ut ops listed i pure=true): ∃D:List Nat,i∈D/\(∀j∈D,listed.getD j true=false)/\(∀j∈D,j≠i->EU ops j D=true)/\
  ∀j oj,ops[j]? =some oj->j∉D->listed.getD j true=false->oi.apart ops oj=true/\(pure=true\/O4 oj.op=true):=by
 unfold Ut at h;rw[hi]at h;simp only[af]at h;obtain⟨h1,h2,h3⟩:=h;refine⟨_,MJ.1 h1,fun j hj=> ?_,fun j hj hne=> ?_,fun j oj hoj hjD hl=> ?_⟩
 ·simp_all
 ·have:=List.all_eq_true.1 h2 j hj;simp_all
 ·have:=List.all_eq_true.1 h3 j (List.mem_range.2 (Array.getElem?_eq_some_iff.1 hoj).1);simp_all [MJ]
theorem We {f:Op->Bool} {i:Nat} (h:agG ops f i=true): ∃o,ops[i]? =some o/\f o.op=true:=by
 grind [agG]
theorem ag9 {op:Op} (h:IG op=true):iI op=true:=by
 cases op<;>simp_all [IG,iI,jS]
theorem EI (hT:TOk P T) {cl:Bool} {call:gK R} (hcall:mi P W0 n call) (hd:mQ ops=true) {K:St->Option R} {Q:Act->World->Prop}:
  ∀(fuel:Nat) (listed:Array Bool) (l:List Nat) (c:Cx) (st:St) (a:Act),uG ops fuel listed=some l->iF T cl call ops K (l.filterMap fun i=>ops[i]?) st=some r->iY W0 b0 rd c st a ats->
   (∀c' st' a',K st'=some r->iY W0 b0 rd c' st' a' ats->c.Mono c'->Q a' c'.w)->wpAnyIn (FW rd) n P .any ops (fun e a w=>e=.normal/\Q a w) fuel listed a c.w
 |0,listed,l,c,st,a,hp,h,hr,hQ=>by
  simp only[uG]at hp;rw[cond_eq_ite]at hp;split at hp
  ·rename_i he
   cases hp;simp only[List.filterMap_nil,iF]at h;exact⟨by simpa using he,rfl,hQ c st a h hr (Cx.Mono.refl c)⟩
  ·cases hp
 |fuel+1,listed,l,c,st,a,hp,h,hr,hQ=>by
  have hQ0: ∀c (a:Act) (w:World),¬(Exit.panic c=.normal/\Q a w):=fun c a w h=>by cases h.1
  have take: ∀(i:Nat) (pr:Bool) (l':List Nat),i∈Region.ready .any ops listed->(if pr then agG ops IG i=true else agG ops iI i=true)->Ut ops listed i pr=true->uG ops fuel (listed.setIfInBounds i true)=some l'->
    iF T cl call ops K ((i::l').filterMap fun i=>ops[i]?) st=some r->wpAnyIn (FW rd) n P .any ops (fun e a w=>e=.normal/\Q a w) (fuel+1) listed a c.w:=fun i pr l' hir hop htk hpl h=>by
   obtain⟨oi,hoi,hq,hpure⟩: ∃oi,ops[i]? =some oi/\iI oi.op=true/\(pr=true->IG oi.op=true):=by
    grind [We,ag9]
   obtain⟨D,d1,d2,d3,d4⟩:=aeT hoi htk;simp only[List.filterMap_cons,hoi]at h;rw[Jr]at h;have hfree: ∀j oj,ops[j]? =some oj->j∉D->listed.getD j true=false->oi.apart ops oj=true/\Xf P (fun w=>pr=true\/GK c w) oj:=fun j oj hoj hjD hl=>by
    obtain⟨e1,e2⟩:=d4 j oj hoj hjD hl;refine⟨e1, ?_⟩;rcases e2 with e2|e2
    ·exact .inl fun w=>.inl e2
    ·refine .inr fun ρ w v w' hw hx=> ?_;obtain⟨hu,hb⟩:=agf e2 ρ P w v w' hx;exact⟨hu,hw.imp (fun h=>h) fun hw=>hw.trans (hb.mono hw.size)⟩
   have hcw:pr=true\/GK c c.w:=.inr (Below.refl _ _);rcases aeh h hr with ⟨hwt,st1,hr1,h1⟩|⟨hwt,st1,hr1,h1⟩
   ·have hy: ∃z u,iF T cl call ops K (l'.filterMap fun i=>ops[i]?) (st1.put oi.dst z)=some r/\bY c z u/\pY P ops (fun w=>pr=true\/GK c w) oi u a:=by
     cases pr with
     |true=>
      obtain⟨z,u,k1,k2,k3⟩:=azH hT hr1.ok (hpure rfl) hr1.hp hr1.fr h1;exact⟨z,u,k1,k2,.inl ⟨hwt,fun w _=>k3 w⟩⟩
     |false=>
      obtain⟨z,u,k1,k2,k3⟩:=AB hT hr1.ok hq hr1.hp hr1.fr h1;exact⟨z,u,k1,k2,.inl ⟨hwt,fun w hw=>k3 w (hw.resolve_left (by simp))⟩⟩
    obtain⟨z,u,k1,k2,k3⟩:=hy;exact EW hd hoi hQ0 D d3 fuel listed a c.w hcw d2 hfree d1 hir k3 (EI hT hcall hd fuel _ l' c (st1.put oi.dst z) (a.put oi.dst u) hpl k1 (hr1.put k2) hQ)
   ·exact EW hd hoi hQ0 D d3 fuel listed a c.w hcw d2 hfree d1 hir (.inr ⟨hwt,rfl⟩) (EI hT hcall hd fuel _ l' c st1 (a.put oi.dst undef) hpl h1 hr1 hQ)
  simp only[uG]at hp;split at hp
  ·rename_i hrd
   cases hp;simp only[List.filterMap_nil,iF]at h;exact⟨fun _=>⟨rfl,hQ c st a h hr (Cx.Mono.refl c)⟩,by rw[hrd];simp⟩
  ·rename_i k rs hrd
   split at hp
   ·grind
   ·split at hp
    ·grind
    ·split at hp
     ·split at hp
      ·rename_i l' hpl
       cases hp;obtain⟨_,ok,hok,_⟩:=mem_ready.1 (show k∈Region.ready .any ops listed by rw[hrd];simp);simp only[List.filterMap_cons,hok]at h;rw[Jr]at h;refine wpAnyIn_all hrd (by simp) fun j hj=> ?_;obtain rfl:j=k:=by simpa using hj
       unfold wpOpIn;simp only[hok];rcases aeh h hr with ⟨hwt,st1,hr1,h1⟩|⟨hwt,st1,hr1,h1⟩
       ·rw[if_pos hwt];exact Tc hT hcall h1 hr1 fun c' z u st' k1 k2 k3 k4=>EI hT hcall hd fuel _ l' c' (st'.put ok.dst z) (a.put ok.dst u) hpl k1 (k2.put k3) fun c'' st'' a'' q1 q2 q3=>hQ c'' st'' a'' q1 q2 (k4.trans q3)
       ·rw[if_neg (by rw[hwt];simp)];exact⟨qN ok c.w _,EI hT hcall hd fuel _ l' c st1 (a.put ok.dst undef) hpl h1 hr1 hQ⟩
      ·cases hp
     ·cases hp
theorem Vd (hT:TOk P T) (hm:P.follows .mixedOrders=true) {cl:Bool} {call:gK R} (hcall:mi P W0 n call) {id:Nat} {l:List Oper} (hp:ag5 ops=some l) {K:St->Option R} {Q:Exit->Act->World->Prop}
  (h:iF T cl call ops K l st=some r) (hr:iY W0 b0 rd c st a ats) (hQ: ∀c' st' a',K st'=some r->iY W0 b0 rd c' st' a' ats->c.Mono c'->Q .normal a' c'.w):
  (Code.region id ops true).wpIn (FW rd) n P Q a c.w:=by
 unfold ag5 at hp;rw[cond_eq_ite]at hp;split at hp
 ·rename_i hd
  split at hp
  ·rename_i l' hpl
   cases hp;have hext:GK c {c.w with drawn:=c.w.drawn+1}:=⟨rfl,rfl,rfl,ah _,fun _ _=>rfl⟩;have h2:=EI (Q:=fun a w=>Q .normal a w) hT hcall hd ops.size _ l' (c.at_ {c.w with drawn:=c.w.drawn+1}) st a hpl h (hr.ext hext) fun c' st' a' k1 k2 k3=>hQ c' st' a' k1 k2 ((Cx.Le.ext hext).mono.trans k3);exact Code.wpIn_mono (fun e a w he=>by simp_all) (wpIn_region_any hm h2)
  ·cases hp
 ·cases hp
end
end
section
open List renaming mem_cons_of_mem → aA
open Nat renaming lt_of_lt_of_le → bI
open Go.RowKit
def uY {R:Type} (P:Program) (W0:World) (ex:nH R):Prop:=
 ∀(f:FuncId) (args:List bV) (st:St) (K:bV->St->Option R) (r:R),ex (.call f args) st K=some r->
  ∀(b0:Nat) (rd:Option Nat) (c:Cx) (a:Act) (ats:List (Array Value)) (args':Array Value),iY W0 b0 rd c st a ats->bQ c args args'.toList->
   ∀Rr:Ending->World->Prop,(∀c' z u st',K z st'=some r->iY W0 b0 rd c' st' a ats->bY c' z u->c.Mono c'->Rr (.returned u) c'.w)->
    (callFunc f args').run P c.w=.ok (.enter f args') c.w/\Calls P f args' c.w Rr
section
variable {P:Program} {T:TT} {W0:World} {b0 n:Nat} {rd:Option Nat} {c:Cx} {R:Type} {r:R} {st:St} {a:Act} {ats:List (Array Value)}
def Ex.xt:Ex->Exit
 |.normal=>.normal
 |.exit i=>.exit i
 |.goto l=>.goto l
 |.ret=>.ret
section
variable {F:Fence} {b:Frame} {k:List Item} {cs:List Frame} {w:World} {Q:Exit->Act->World->Prop}
theorem qI {x:Code}:step P (lone (b.atR a (.code (.scope x)::k)) cs w)=.next (lone (b.atR a (.code x:: .inScope x::k)) cs w):=
 step_lone_go (by simp[stepG,stepG.exec,Frame.atR])
theorem Vj {x:Code}:step P (lone (b.atR a (.inScope x::k)) cs w)=.next (lone (b.atR a k) cs w):=
 step_lone_go (by simp[stepG,stepG.exec,Frame.atR])
theorem ahG {x:Code} (h:x.wpIn F n P (fun e a w=>(∀l,e≠ .goto l)/\Q e a w) a w):(Code.scope x).wpIn F n P Q a w:=by
 intro b k cs hro hb hr;have h0:(lone (b.atR a (.code (.scope x)::k)) cs w).fenced P F:=fenced_calm hb hr rfl;obtain⟨e,a₁,w₁,⟨hng,hq⟩,harr⟩:=h b (.inScope x::k) cs hro hb hr;cases e with
 |normal=>exact⟨.normal,a₁,w₁,hq,.head h0 qI (StepsIn.trans harr (.one (fenced_calm hb hr rfl) Vj))⟩
 |exit id'=>
  have hx:exitTo id' (.inScope x::k)=exitTo id' k:=by simp[exitTo]
  exact⟨.exit id',a₁,w₁,hq,fun k' hk=>.head h0 qI (harr.1 k' (by rw[hx];exact hk)),
   fun hr' hk=>let⟨k₁,h1,h2⟩:=harr.2 hr' (by rw[hx];exact hk);⟨k₁,h1,.head h0 qI h2⟩⟩
 |goto l=>exact absurd rfl (hng l)
 |ret=>exact⟨_,a₁,w₁,hq,.of_steps (.one h0 qI) harr⟩
 |panic ch=>exact⟨_,a₁,w₁,hq,.of_steps (.one h0 qI) harr⟩
 |outgrown=>exact⟨_,a₁,w₁,hq,.of_steps (.one h0 qI) harr⟩
end
theorem aud (hok:c.Ok W0):c.Le {c with w:=c.w.alloc (.deferred (some [])),mks:=c.w.heap.size::c.mks}/\({c with w:=c.w.alloc (.deferred (some [])),mks:=c.w.heap.size::c.mks}:Cx).Ok W0:=by
 have hb:=nX c.w (.deferred (some []));have hle:c.Le {c with w:=c.w.alloc (.deferred (some [])),mks:=c.w.heap.size::c.mks}:=
  ⟨fun b hf=>⟨⟨bI hf.1 hb.size,hf.2.1,by
    intro hm;rcases List.mem_cons.1 hm with e|e
    ·have:=hf.1;omega
    ·exact hf.2.2 e⟩,hb.block b hf.1⟩,fun _ h=>h,fun id o _ ho=>⟨o,ho,o.like_refl _⟩,fun r hr=>aA _ hr,fun b L hL=>⟨L,(hb.block b (Array.getElem?_eq_some_iff.1 hL).1).trans hL⟩,hb.size,rfl⟩
 refine⟨hle,⟨hok.bel.trans (hb.mono hok.size),fun id o ho=>(hok.obj id o ho).le hle rfl fun b hb'=>hb.block b ((hok.obj id o ho).lt hb').2,hok.inj,fun r hr=> ?_,fun b hb=>(hle.out b (hok.bar b hb)).1,hok.phi⟩⟩;rcases List.mem_cons.1 hr with e|e
 ·subst e;exact⟨hok.size,World.alloc_heap_new _ _⟩
 ·exact⟨(hok.mks r e).1,(hb.block r (hok.mark_lt e)).trans (hok.mks r e).2⟩
theorem aEw (hok:c.Ok W0) {st:St} (h1:c.hp=st.hp) (h2:c.nxt=st.nxt) {id n':Nat} (h3:dR st.hp id=none) (h4:st.nxt<=id) (h5:st.nxt<=n') {f:FuncId} {fr:List bV} {L:Loop} (hv:bQ c fr L.tmps.toList) (hs:L.state=.ready) (hp:L.pending=none) {ky:Option Nat} (hky: ∀k,ky=some k->rC f k=some (L.assign,L.body)):
  ∃c',Dj W0 c st c' {st with hp:=(id,.lp f fr L.params.toList L.assign L.body ky 0 none)::st.hp,nxt:=n'}/\c'.w=c.w.alloc (.loop L)/\bY c' (.yld id) (.func (.yield c.w.heap.size) #[] #[])/\c'.mks=c.mks:=by
 have hk:=Aw h1 h2 h3 h4;have hb:=nX c.w (.loop L);have hl: ∀b,dN.blk (.lp f fr L.params.toList L.assign L.body ky 0 none) ⟨c.w.heap.size,undef⟩=some b->c.w.heap.size<=b:=fun b hb=>by
  simp only[dN.blk,Option.some.injEq]at hb;omega
 have hle:=Cx.Le.push (o:=.lp f fr L.params.toList L.assign L.body ky 0 none) (l:=⟨c.w.heap.size,undef⟩) (nxt:=n') (w:=c.w.alloc (.loop L)) hk (by omega) hb.size hb.block hl;have ho:(c.push id (.lp f fr L.params.toList L.assign L.body ky 0 none) ⟨c.w.heap.size,undef⟩ n' (c.w.alloc (.loop L))).ORel W0.heap.size id (.lp f fr L.params.toList L.assign L.body ky 0 none):=by
  refine⟨hky,by simp[Cx.push,upd_same];exact hok.size,L, ?_,bQ.le hle _ _ hv,rfl,rfl,rfl,hs,hp⟩;simp only[Cx.push,upd_same];exact World.alloc_heap_new c.w _
 refine⟨_,⟨?_,rfl,rfl,rfl,hok.push hk (by omega) hb hl ho,hle⟩,rfl, ?_,rfl⟩
 ·simp[Cx.push,h1]
 ·simp only[bY];refine⟨rfl,.inl ⟨_,by simp[Cx.push,eu];rfl⟩,fun _ _ _ _ _ _ _ _ _=>by simp[Cx.push,upd_same]⟩
theorem IP (hok:c.Ok W0) {id:Nat} {f:FuncId} {fr:List bV} {ps:List Nat} {jC bd:Code} {ky:Option Nat} {k:Nat} {p:Option Ex} (hg:dR c.hp id=some (.lp f fr ps jC bd ky k p)) {L:Loop} (hL:c.w.heap[(c.mu id).blk]? =some (.loop L)) (L':Loop)
  {o':dN} (ho':o'=.dead\/(∃k' p',o'=.lp f fr ps jC bd ky k' p'/\ap1 k' p' L'/\L'.tmps=L.tmps/\L'.params=L.params/\L'.assign=L.assign/\L'.body=L.body)):
  ∃c',c'.hp=ji c.hp id o'/\c'.nxt=c.nxt/\c.Le c'/\c'.Ok W0/\c'.w=c.w.putObj (c.mu id).blk (.loop L')/\c'.mks=c.mks:=by
 have hlt:(c.mu id).blk<c.w.heap.size:=(Array.getElem?_eq_some_iff.1 hL).1;obtain⟨hky,hB,L0,hL0,hv,e1,e2,e3,e4⟩:=hok.obj id _ hg;rw[hL]at hL0;have eL:L0=L:=by cases hL0;rfl
 subst eL;have hk:(dN.lp f fr ps jC bd ky k p).like (c.mu id) o' (c.mu id):=by
  rcases ho' with rfl|⟨k',p',rfl,_⟩<;>simp[dN.like]
 have hs:c.w.heap.size<=(c.w.putObj (c.mu id).blk (.loop L')).heap.size:=by simp
 have hb: ∀b,b<c.w.heap.size->(dN.lp f fr ps jC bd ky k p).blk (c.mu id)≠some b->(c.w.putObj (c.mu id).blk (.loop L')).heap[b]? =c.w.heap[b]? :=fun b _ hne=>
  World.putObj_heap_other fun e=>hne (by rw[e];rfl)
 have hl: ∀b,o'.blk (c.mu id)=some b->(dN.lp f fr ps jC bd ky k p).blk (c.mu id)=some b\/c.w.heap.size<=b:=fun b hb=>by
  rcases ho' with rfl|⟨k',p',rfl,_⟩
  ·cases hb
  ·exact .inl hb
 have hlp: ∀(b:Nat) (L1:Loop),(dN.lp f fr ps jC bd ky k p).blk (c.mu id)=some b->c.w.heap[b]? =some (Obj.loop L1)-> ∃L2:Loop,(c.w.putObj (c.mu id).blk (.loop L')).heap[b]? =some (Obj.loop L2):=fun b L1 hb _=>by
  simp only[dN.blk,Option.some.injEq]at hb;subst hb;exact⟨L',World.putObj_heap_same hlt⟩
 have hw:Below W0.heap.size W0 (c.w.putObj (c.mu id).blk (.loop L')):=
  ⟨hok.bel.os,hok.bel.tape,hok.bel.output,by simpa using hok.bel.size,fun j hj=>(World.putObj_heap_other (by omega)).trans (hok.bel.block j hj)⟩
 have hle:=Cx.Le.put hok hg hk hs hb hl hlp;refine⟨c.put id o' (c.mu id) (c.w.putObj (c.mu id).blk (.loop L')),rfl,rfl,hle,Cx.Ok.put hok hg hk hw hs hb hl hlp ?_,rfl,rfl⟩;rcases ho' with rfl|⟨k',p',rfl,h1,h2,h3,h4,h5⟩
 ·trivial
 ·refine⟨hky,by simp only[Cx.put,upd_same];exact hB,L', ?_,bQ.le hle _ _ (by rw[h2];exact hv),by rw[h3];exact e1,by rw[h4];exact e2,by rw[h5];exact e3,h1⟩;simp only[Cx.put,upd_same];exact World.putObj_heap_same hlt
end
end
section
open Go.RowKit
section
variable {T:TT} {cl:Bool} {R:Type} {r:R} {sg:FuncId->Option Sum}
theorem zY {dst:Option Nat} {o:dN} {st:St} {K:Nat->St->Option R} (h:alloc cl dst o st K=some r): ∃i st',K i st'=some r:=by
 unfold alloc at h;split at h
 ·cases h
 ·replace h:=dJ h;exact⟨_,_,h.2⟩
theorem aDb {op:BinOp} {t:TypeId} {x y:bV} {K:bV->Option R} (h:acp T op t x y K=some r): ∃z,K z=some r:=by
 unfold acp at h;simp only[mP,cond_eq_ite]at h
 repeat' split at h
 all_goals first|cases h;done|exact⟨_,h⟩
theorem aw7 {hp:gZ} {op:BinOp} {t:TypeId} {x y:bV} {K:bV->Option R} (h:Rj T hp op t x y K=some r): ∃z,K z=some r:=by
 unfold Rj at h;simp only[cond_eq_ite]at h
 repeat' split at h
 all_goals first|cases h;done|exact⟨_,h⟩|exact aDb h
theorem aFV {op:UnOp} {x:bV} {K:bV->Option R} (h:arN op x K=some r): ∃z,K z=some r:=by
 unfold arN at h
 repeat' split at h
 all_goals first|cases h;done|exact⟨_,h⟩
theorem aw8 {hp:gZ} {t:TypeId} {a:bV} {K:bV->Option R} (h:LV T hp t a K=some r): ∃z,K z=some r:=by
 unfold LV at h;simp only[cond_eq_ite]at h
 repeat' split at h
 all_goals first|cases h;done|exact⟨_,h⟩
theorem aDc {old:gZ} {st:St} {a v:bV} {K:St->Option R} (h:acr old st a v K=some r): ∃z,K z=some r:=by
 unfold acr at h;simp only[cond_eq_ite]at h
 repeat' split at h
 all_goals first|cases h;done|exact⟨_,h⟩
theorem arQ {st:St} {t:TypeId} {a v:bV} {K:St->Option R} (h:Jq T st t a v K=some r): ∃z,K z=some r:=by
 unfold Jq at h;simp only[cond_eq_ite]at h
 repeat' split at h
 all_goals first|cases h;done|exact⟨_,h⟩
theorem afR {s d:TypeId} {x:bV} {hp:gZ} {K:bV->Option R} (h:zX T s d x hp K=some r): ∃z,K z=some r:=by
 unfold zX at h;simp only[mP,cond_eq_ite]at h
 repeat' split at h
 all_goals first|cases h;done|exact⟨_,h⟩
theorem arP {hp:gZ} {t:TypeId} {x:bV} {lo hi mx:Option bV} {K:bV->Option R} (h:Jp T hp t x lo hi mx K=some r): ∃z,K z=some r:=by
 unfold Jp at h;simp only[mP,cond_eq_ite]at h
 repeat' split at h
 all_goals first|cases h;done|exact⟨_,h⟩
theorem XK {hp:gZ} {t:TypeId} {x:bV} {f:Nat} {K:bV->Option R} (h:uy T hp t x f K=some r): ∃z,K z=some r:=by
 unfold uy at h;simp only[cond_eq_ite]at h
 repeat' split at h
 all_goals first|cases h;done|exact⟨_,h⟩
theorem arO {t:TypeId} {x:bV} {f:Nat} {K:bV->Option R} (h:Jn T t x f K=some r): ∃z,K z=some r:=by
 unfold Jn at h
 repeat' split at h
 all_goals first|cases h;done|exact⟨_,h⟩
theorem XL {hp:gZ} {t:TypeId} {x i:bV} {K:bV->Option R} (h:uz T hp t x i K=some r): ∃z,K z=some r:=by
 unfold uz at h;simp only[mP,cond_eq_ite]at h
 repeat' split at h
 all_goals first|cases h;done|exact⟨_,h⟩
theorem aDd {hp:gZ} {t:TypeId} {x:bV} {K:bV->Option R} (h:acs T hp t x K=some r): ∃z,K z=some r:=by
 unfold acs at h;simp only[mP,cond_eq_ite]at h
 repeat' split at h
 all_goals first|cases h;done|exact⟨_,h⟩
theorem an2 {dst:Option Nat} {t:TypeId} {s x:bV} {st:St} {K:bV->St->Option R} (h:Jl T cl dst t s x st K=some r): ∃z st',K z st'=some r:=by
 unfold Jl at h;simp only[mP,cond_eq_ite]at h
 repeat' split at h
 all_goals first|cases h;done|exact⟨_,_,h⟩|(obtain⟨_,_,h⟩:=zY h;exact⟨_,_,h⟩)
theorem afP {dst:Option Nat} {t t':TypeId} {s x:bV} {st:St} {K:bV->St->Option R} (h:zW T cl dst t t' s x st K=some r): ∃z st',K z st'=some r:=by
 unfold zW at h;simp only[mP,cond_eq_ite]at h
 repeat' split at h
 all_goals first|cases h;done|exact⟨_,_,h⟩|(obtain⟨_,_,h⟩:=zY h;exact⟨_,_,h⟩)
theorem afQ {o:Oper} {b:Builtin} {ts:List TypeId} {args:List bV} {st:St} {K:bV->St->Option R} (h:kC T cl o b ts args st K=some r): ∃z st',K z st'=some r:=by
 unfold kC at h;simp only[mP,cond_eq_ite]at h
 repeat' split at h
 all_goals first|cases h;done|exact⟨_,_,h⟩|(obtain⟨_,h⟩:=aDd h;exact⟨_,_,h⟩)|exact an2 h|exact afP h
def xK (sg:FuncId->Option Sum) (call:gK R):Prop:= ∀g s args dst st (K:bV->St->Option R) r,sg g=some s->call (.fn g []) args dst st K=some r-> ∃z st',K z st'=some r
theorem arR {s:Sum} {args:List bV} {dst:Option Nat} {st:St} {K:bV->St->Option R} (h:s.call cl args dst st K=some r): ∃z st',K z st'=some r:=by
 unfold Sum.call at h;simp only[cond_eq_ite]at h;split at h
 ·split at h
  ·rename_i x hx
   cases hf:s.f x with
   |none=>rw[hf]at h;simp[bM]at h
   |some y=>
    rw[hf]at h;simp only[bM]at h
    repeat' split at h
    all_goals first|cases h;done|exact⟨_,_,h⟩|(obtain⟨_,_,h⟩:=zY h;exact⟨_,_,h⟩)
  ·cases h
 ·cases h
theorem ah2 {call:gK R} (hx:xK sg call) {o:Oper} {st:St} {K:bV->St->Option R} (hp:wu sg o.op=true) (h:eU T cl call o st K=some r): ∃z st',K z st'=some r:=by
 obtain⟨dst,op,ty,pos,after,guard⟩:=o;cases op with
 |call c=>
  simp only[eU]at h;simp only[wu]at hp;split at h
  ·exact afQ h
  ·rename_i f hf
   rw[hf]at hp;cases f with
   |func g=>
    simp only at hp;cases hs:sg g with
    |none=>rw[hs]at hp;cases hp
    |some s=>exact hx g s _ _ _ _ _ hs h
   |_=>simp at hp
  ·cases h
 |store t x y=>
  simp only[eU]at h;obtain⟨_,h⟩:=arQ h;obtain⟨_,h⟩:=aDc h;exact⟨_,_,h⟩
 |_=>
  simp only[eU,mP,cond_eq_ite]at h
  repeat' split at h
  all_goals first
   |cases h;done
   |exact⟨_,_,h⟩
   |(obtain⟨_,_,h⟩:=zY h;exact⟨_,_,h⟩)
   |(obtain⟨_,_,h⟩:=zY h;obtain⟨_,_,h⟩:=zY h;exact⟨_,_,h⟩)
   |(obtain⟨_,h⟩:=aw8 h;exact⟨_,_,h⟩)
   |(obtain⟨_,h⟩:=aw7 h;exact⟨_,_,h⟩)
   |(obtain⟨_,h⟩:=aFV h;exact⟨_,_,h⟩)
   |(obtain⟨_,h⟩:=afR h;exact⟨_,_,h⟩)
   |(obtain⟨_,h⟩:=arP h;exact⟨_,_,h⟩)
   |(obtain⟨_,h⟩:=XK h;exact⟨_,_,h⟩)
   |(obtain⟨_,h⟩:=arO h;exact⟨_,_,h⟩)
   |(obtain⟨_,h⟩:=XL h;exact⟨_,_,h⟩)
theorem Xt {E:Env} {ex:nH R}:xK E.sg (wQ E ex):=fun g s args dst st K r hs h=>by
 simp only[wQ,hs]at h;exact arR h
theorem aE7:xK (R:=R) sg (GR sg cl):=fun g s args dst st K r hs h=>by
 simp only[GR,hs]at h;exact arR (dJ h).2
theorem aov {o:Op} (h:iI o=true):wu sg o=true:=by
 cases o with
 |call c=>
  simp only[iI]at h;simp only[wu];split at h<;>simp_all
 |_=>rfl
theorem Ih {call:gK R} (hx:xK sg call) {ops:Array Oper} {old:List bV}: ∀(l:List Nat) {st:St} {K:St->Option R},yC T cl call ops old l st K=some r-> ∃st',K st'=some r
 |[],st,K,h=>⟨st,h⟩
 |i::l,st,K,h=>by
  simp only[yC]at h;split at h
  ·rw[cond_eq_ite]at h;split at h
   ·rename_i hq
    obtain⟨_,_,h⟩:=ah2 hx (aov hq) h;exact Ih hx l (dJ h).2
   ·exact Ih hx l (dJ h).2
  ·cases h
theorem XM {call:gK R} (hx:xK sg call) {ops:Array Oper} (hp: ∀o∈ops.toList,wu sg o.op=true) {j:Nat} {log:List Nat} {st:St} {K:St->Option R} (h:uC T cl call ops j log st K=some r): ∃st',K st'=some r:=by
 unfold uC at h;split at h
 ·rename_i oj hoj
  obtain⟨_,_,h⟩:=ah2 hx (hp oj (by have:=Array.mem_of_getElem? hoj;simpa using this)) (dJ h).2;split at h
  ·exact Ih hx _ h
  ·cases h
 ·cases h
theorem U4 {α β:Type} {o:Option α} {k:α->Option β} {y:β} (h:bM o k=some y): ∃x,o=some x/\k x=some y:=by
 cases o with
 |none=>simp[bM]at h
 |some x=>exact⟨x,rfl,h⟩
theorem yO {k:Option R} {r:R}: ∀(l:List (Option Unit)),Qu l k=some r->k=some r/\ ∀x∈l,x=some ()
 |[],h=>⟨h,fun _ hx=>by cases hx⟩
 |o::l,h=>by
  simp only[Qu]at h;obtain⟨⟨⟩,h1,h2⟩:=U4 h;obtain⟨h3,h4⟩:=yO l h2;exact⟨h3,fun x hx=>by
   rcases List.mem_cons.1 hx with rfl|hx
   ·exact h1
   ·exact h4 x hx⟩
theorem Rk {ops:Array Oper} (hp: ∀o∈ops.toList,wu sg o.op=true) {callS:gK St} {callU:gK Unit} (hxS:xK sg callS) (hxU:xK sg callU): ∀(n:Nat) {R:Type} {r:R} {call:gK R},xK sg call-> ∀(listed:Array Bool) (log:List Nat) (st:St) (K:St->Option R),
  mD T cl sg callS callU ops n call listed log st K=some r-> ∃st',K st'=some r
 |0,R,r,call,hx,listed,log,st,K,h=>by simp[mD]at h
 |n+1,R,r,call,hx,listed,log,st,K,h=>by
  have hpi: ∀{i:Nat} {oi:Oper},ops[i]? =some oi->wu sg oi.op=true:=fun {i oi} hoi=>hp oi (by have:=Array.mem_of_getElem? hoi;simpa using this);simp only[mD]at h;split at h
  ·exact⟨st,h⟩
  ·split at h
   ·split at h
    ·rename_i hoi
     obtain⟨_,_,h⟩:=ah2 hx (hpi hoi) (dJ h).2;exact Rk hp hxS hxU n hx _ _ _ _ h
    ·cases h
   ·split at h
    ·split at h
     ·rename_i hoi
      obtain⟨_,_,h⟩:=ah2 (aE7 (sg:=sg)) (hpi hoi) (dJ h).2;exact Rk hp hxS hxU n hx _ _ _ _ h
     ·cases h
    ·split at h
     ·obtain⟨_,h⟩:=XM hx hp h;exact Rk hp hxS hxU n hx _ _ _ _ h
     ·rw[cond_eq_ite]at h;split at h
      ·split at h
       ·exact⟨_,h⟩
       ·cases h
      ·obtain⟨_,h⟩:=XM hx hp h;obtain⟨_,h⟩:=Rk hp hxS hxU n hx _ _ _ _ h;replace h:=(dJ h).2;split at h
       ·exact⟨_,(yO _ h).1⟩
       ·cases h
end
end
section
open _root_.Array renaming length_toList → bH
open Bool renaming and_eq_true → af, false_eq_true → aj, and_true → ax, not_false → aG, true_and → aU, not_eq_true → bD
open List renaming length_map → ay, map_cons → az, mem_cons_of_mem → aA, mem_cons_self → aZ, all_cons → bg
open Nat renaming le_refl → ah, eq_of_beq_eq_true → au
open Go.RowKit
section
variable {P:Program} {T:TT} {W0:World} {b0 n:Nat} {rd:Option Nat} {c:Cx} {st:St} {a:Act} {sg:FuncId->Option Sum} {cl:Bool} {ats:List (Array Value)} {ops:Array Oper}
def rQ:(t:Ty)->t.den->List Value
 |.unit,_=>[]
 |.bool,x=>[.bool x]
 |.int k,x=>[.int k x]
 |.str,x=>[.string ⟨x.toArray⟩]
 |.list _,_=>[]
 |.pair a b,x=>rQ a x.1++rQ b x.2
theorem qG {w:World} {fr:Nat->Prop}: ∀(t:Ty) (x:t.den),t.rigid=true-> ∀cs,fO w fr t x cs↔cs=rQ t x
 |.unit,x,_,cs=>by rfl
 |.bool,x,_,cs=>by rfl
 |.int k,x,_,cs=>by rfl
 |.str,x,_,cs=>by rfl
 |.list t,x,h,cs=>by simp[Ty.rigid]at h
 |.pair a b,x,h,cs=>by
  simp only[Ty.rigid,af]at h;simp only[fO,rQ,qG a x.1 h.1,qG b x.2 h.2];simp
def Jj (t:Ty) (x:t.den):Value:=if t.isAgg then .agg (rQ t x).toArray else(rQ t x).headD undef
theorem VD.rigid {t:Ty} {x:t.den} (h:t.rigid=true) (v:Value):VD c t x v↔v=Jj t x:=by
 cases ha:t.isAgg with
 |true=>
  rw[VD.agg ha];simp only[Jj,ha,if_true,qG t x h];constructor
  ·rintro ⟨cs,rfl,h2⟩;rw[<-h2]
  simp_all
 |false=>
  rw[VD.leaf ha,qG t x h];have: ∃u,rQ t x=[u]:=by cases t<;>first|exact⟨_,rfl⟩|(simp[Ty.rigid]at h;done)|grind [Ty.isAgg]
  grind [Jj]
def rv1:bV->Value
 |.val t x=>Jj t x
 |_=>undef
def rv:bV->Value
 |.tup l=>.tuple (l.map rv1).toArray
 |v=>rv1 v
theorem aj8 {v:bV} (h:v.rigid=true) (u:Value):bY c v u↔u=rv1 v:=by
 cases v<;>simp only[bV.rigid,aj]at h;simp_all [bY,rv1,VD.rigid]
theorem aj9: ∀(l:List bV),l.all bV.rigid=true-> ∀us,bQ c l us↔us=l.map rv1
 |[],_,[]=>by simp[bQ]
 |[],_,u::us=>by simp[bQ]
 |v::l,_,[]=>by simp[bQ]
 |v::l,h,u::us=>by
  simp only[bg,af]at h;simp only[bQ,aj8 h.1,aj9 l h.2,az,List.cons.injEq]
theorem IM {v:bV} (h:v.rigidR=true) (u:Value):bY c v u↔u=rv v:=by
 cases v with
 |tup l=>
  simp only[bV.rigidR]at h;simp only[bY,rv,aj9 l h];constructor
  ·rintro ⟨vs,rfl,h2⟩;rw[<-h2]
  simp_all
 |val t x=>exact aj8 (v:=.val t x) h u
 |_=>simp[bV.rigidR,bV.rigid]at h
theorem IX (id:Nat): ∀(rs:List (Ty×Bool)) y,(rs.all fun r=> !r.2&&r.1.rigid)=true->(nM id rs y).all bV.rigid=true
 |[],_,_=>rfl
 |(t,true)::rs,y,h=>by simp at h
 |(t,false)::rs,y,h=>by
  simp only[bg,aG,aU,af]at h;simp only[nM,bg,bV.rigid,h.1,aU];exact IX id rs y.2 h.2
theorem TL: ∀(l:List bV),l.all bV.rigid=true->(KI l).rigidR=true
 |[],_=>rfl
 |[v],h=>by
  simp only[bg,List.all_nil,ax]at h;cases v<;>simp only[bV.rigid,aj]at h;exact h
 |v::v2::l,h=>h
theorem bQ.mk {c:Cx}: ∀(l:List bV) (xs:List Value),l.length=xs.length->(∀(i:Nat) (h:i<l.length) (h':i<xs.length),bY c l[i] xs[i])->bQ c l xs
 |[],[],_,_=>by simp[bQ]
 |[],_::_,h,_=>by simp at h
 |_::_,[],h,_=>by simp at h
 |v::l,x::xs,h,hh=>by
  simp only[bQ];exact⟨hh 0 (by simp) (by simp),bQ.mk l xs (by simpa using h) fun i h1 h2=>by
   have:=hh (i+1) (by simp;omega) (by simp;omega);simpa using this⟩
def uS (ops:Array Oper) (k:Nat):Option Nat:=(ops[k]?).bind (·.dst)
def gG (ops:Array Oper) (a:Act):List (Nat×Value)->Act
 |[]=>a
 |(k,v)::l=>(gG ops a l).put (uS ops k) v
theorem zA (a:Act): ∀(q l:List (Nat×Value)),gG ops a (q++l)=gG ops (gG ops a l) q
 |[],l=>rfl
 |(k,v)::q,l=>by simp only[List.cons_append,gG];rw[zA a q l]
theorem zB (a:Act): ∀l,(gG ops a l).defers=a.defers
 |[]=>rfl
 |(k,v)::l=>by rw[gG,put_defers,zB a l]
theorem uH (a:Act): ∀l,(gG ops a l).tmps.size=a.tmps.size
 |[]=>rfl
 |(k,v)::l=>by
  rw[gG];cases uS ops k with
  |none=>exact uH a l
  |some d=>simp only[Act.put,Array.size_setIfInBounds];exact uH a l
def apX (ops:Array Oper) (x y:Oper):Prop:= ∀d,y.dst=some d->d∉x.looksAt ops/\x.dst≠some d
theorem L8 {x y:Oper} (h:Fp ops x y=true):apX ops x y:=fun d hd=>by
 simp_all [Fp]
theorem xw (a:Act) {d:Option Nat} {v:Value}: ∀(l:List (Nat×Value)),(∀m∈l.map (·.1),∀e,uS ops m=some e->d≠some e)->gG ops (a.put d v) l=(gG ops a l).put d v
 |[],_=>rfl
 |(k,u)::l,h=>by
  rw[gG,gG,xw a l fun m hm=>h m (aA _ hm)];simp_all [Act.put_comm]
theorem DJ (a:Act) {o:Oper} (hs: ∀cs b,o.op≠ .select cs b): ∀(l:List (Nat×Value)),(∀m∈l.map (·.1),∀e,uS ops m=some e->e∉o.looksAt ops)->execOp (gG ops a l).eval o=execOp a.eval o
 |[],_=>rfl
 |(k,u)::l,h=>by
  rw[gG,execOp_put (ops:=ops) o hs _ _ _ (h k aZ)];exact DJ a hs l fun m hm=>h m (aA _ hm)
def iP (ops:Array Oper) (lA:Array Bool) (log:List Nat):List Nat->Prop
 |[]=>True
 |k::l=>iP ops lA log l/\lA.getD k true=false/\k∈log/\k∉l/\ ∃ok,ops[k]? =some ok/\jS ok.op=true/\ok.guard=none/\(∀d,ok.dst=some d->d∉ok.looksAt ops)/\
   (∀e∈ok.after,Region.binds .any e=true->lA.getD e.on false=true\/e.on∈l)/\
   (∀m∈l,∃om,ops[m]? =some om/\apX ops om ok/\(ug ops k m=false->om.apart ops ok=true))
def H5 (rd:Option Nat) (n:Nat) (P:Program) (c:Cx) (a:Act) (o:Oper) (v:Value):Prop:= ∀w',GK c w'->o.quietAtIn (FW rd) n P a (GK (c.at_ w')) w' v
theorem H5.congr {a a':Act} {o:Oper} {v:Value} (h:execOp a'.eval o=execOp a.eval o) (hq:H5 rd n P c a o v):H5 rd n P c a' o v:=fun w' hw=>by
 have:=hq w' hw;simp_all [Oper.quietAtIn]
theorem H5.of_run {a:Act} {o:Oper} {v:Value} (h: ∀w',GK c w'->(execOp a.eval o).run P w'=.ok (.value v) w'):H5 rd n P c a o v:=fun w' hw=>by
 unfold Oper.quietAtIn;rw[h w' hw];exact⟨rfl,rfl⟩
theorem H5.ext {a:Act} {o:Oper} {v:Value} {w:World} (hw:GK c w) (h:H5 rd n P c a o v):H5 rd n P (c.at_ w) a o v:=fun w' hw'=>h w' (Below.trans hw (hw'.mono hw.size))
theorem H5.wpOp {a:Act} {i:Nat} {o:Oper} {v:Value} (hd:mQ ops=true) (hi:ops[i]? =some o) (hg:o.guard=none) (h:H5 rd n P c a o v) {Q:Exit->Act->World->Prop} {K:Act->World->Prop} (hK: ∀w',GK c w'->K (a.put o.dst v) w'):wpOpIn (FW rd) n P ops Q i K a c.w:=by
 unfold Go.wpOpIn;simp only[hi];rw[if_pos (by simp[Region.wanted,hg])];refine⟨qN o c.w _, ?_⟩;rw[xx (oO hd i o hi).1];have h1:=h c.w (Below.refl _ _);unfold Oper.quietAtIn at h1;generalize (execOp a.eval o).run P c.w=x at h1 ⊢
 match x,h1 with
 |.ok (.value u) w',h1=>
  obtain⟨e1,e2⟩:=h1;subst e1 e2;exact hK _ (Below.refl _ _)
 |.ok .skip w',h1=>
  obtain⟨e1,e2⟩:=h1;subst e1 e2;exact hK _ (Below.refl _ _)
 |.ok (.enter f args) w',h1=>
  obtain⟨e1,e2,e3⟩:=h1;subst e1;refine⟨e2,CallsIn.mono e3 fun e w'' he=> ?_⟩;obtain⟨e4,e5⟩:=he;subst e4;exact hK _ e5
def kK (rd:Option Nat) (n:Nat) (P:Program) (ops:Array Oper) (c:Cx) (a:Act):List (Nat×Value)->Prop
 |[]=>True
 |(k,v)::l=>kK rd n P ops c a l/\ ∃ok,ops[k]? =some ok/\H5 rd n P c (gG ops a l) ok v
theorem kK.ext {w:World} (hw:GK c w) {a:Act}: ∀{l:List (Nat×Value)},kK rd n P ops c a l->kK rd n P ops (c.at_ w) a l
 |[],_=>trivial
 |(k,v)::l,h=>⟨kK.ext hw h.1,let⟨ok,h1,h2⟩:=h.2;⟨ok,h1,h2.ext hw⟩⟩
def uj (sg:FuncId->Option Sum) (cl:Bool) (o:Oper) (fr:List bV) (z:bV):Prop:=
 jS o.op=true/\(∃cc fo,o.op=.call cc/\cc.callee=.value fo)/\z.rigidR=true/\(∀d,o.dst=some d->z=fr.getD d .undef)/\
  ∃fv args,jK o fr=fv::args/\ ∀(dst:Option Nat) (st':St) (K:bV->St->Option Unit),GR sg cl fv args dst st' K=K z st'
theorem Qv (hT:TOk P T) (hq:nN (R:=Unit) P (GR sg cl)) {o:Oper} {z:bV} {fr':List bV} (hfit:uj sg cl o fr' z) (he:jK o fr'=jK o st.fr) {a:Act} (hr:iY W0 b0 rd c st a ats):bY c z (rv z)/\H5 rd n P c a o (rv z):=by
 obtain⟨h1,⟨cc,fo,h2,h3⟩,h4,_,fv,args,h5,h6⟩:=hfit;rw[he]at h5;refine⟨(IM h4 _).2 rfl,fun w' hw=> ?_⟩
 classical
 have h:eU T cl (GR sg cl) o st (fun z' _=>if z'=z then some ()else none)=some ():=by
  simp_all [jK,eU]
 obtain⟨z',v,g1,g2,g3⟩:=aei (n:=n) hT hq h1 h (hr.ext hw);have hz:z'=z:=by
  simp_all
 rw[hz]at g2;rw[<-(IM h4 v).1 g2];exact g3 w' (Below.refl _ _)
def LD (sg:FuncId->Option Sum) (cl:Bool) (ops:Array Oper) (fr:List bV) (l:List Nat):Prop:= ∀k∈l,∀ok,ops[k]? =some ok->iI ok.op=false-> ∃z,uj sg cl ok fr z
theorem Me {l:Array Bool} {m:Nat} (h1:l.getD m false=true) (h2:l.getD m true=false):False:=by
 grind
theorem aeX {lA:Array Bool} {j m:Nat} (hj:j∈Region.ready .any ops lA) (hm:lA.getD m true=false):ug ops j m=false:=by
 obtain⟨_,oj,hoj,hall⟩:=mem_ready.1 hj;unfold ug;rw[hoj];cases hb:oj.after.any fun e=>Region.binds .any e&&Nat.beq e.on m with
 |false=>exact hb
 |true=>
  obtain⟨e,he,hb⟩:=Array.any_eq_true'.1 hb;simp only[af]at hb
  grind [au]
theorem iP.un {lA:Array Bool} {log:List Nat}: ∀{l:List Nat},iP ops lA log l-> ∀k∈l,lA.getD k true=false
 |k::l,h,m,hm=>by
  rcases List.mem_cons.1 hm with e|hm
  ·rw[e];exact h.2.1
  ·exact iP.un h.1 m hm
theorem iP.log {lA:Array Bool} {log:List Nat}: ∀{l:List Nat},iP ops lA log l-> ∀k∈l,k∈log
 |k::l,h,m,hm=>by
  rcases List.mem_cons.1 hm with e|hm
  ·rw[e];exact h.2.2.1
  ·exact iP.log h.1 m hm
theorem iP.mono {lA:Array Bool} {log log':List Nat} (hl: ∀k∈log,k∈log'): ∀{l:List Nat},iP ops lA log l->iP ops lA log' l
 |[],_=>trivial
 |k::l,h=>⟨iP.mono hl h.1,h.2.1,hl _ h.2.2.1,h.2.2.2⟩
theorem iP.set {lA:Array Bool} {log:List Nat} {j:Nat}: ∀{l:List Nat},iP ops lA log l->j∉l->iP ops (lA.setIfInBounds j true) log l
 |[],_,_=>trivial
 |k::l,h,hj=>by
  obtain⟨h1,h2,h3,h4,ok,h5,h6,h7,h8,h9,h10⟩:=h;refine⟨iP.set h1 fun h=>hj (aA _ h), ?_,h3,h4,ok,h5,h6,h7,h8,fun e he hb=> ?_,h10⟩
  ·rw[getD_set_ne true (fun e=>hj (by rw[e];exact aZ))];exact h2
  ·exact(h9 e he hb).imp getD_set_true fun h=>h
theorem xy {lA:Array Bool} {j:Nat} (hj:j<lA.size):(lA.setIfInBounds j true).getD j false=true:=by simp[hj]
theorem iP.take {lA:Array Bool} {log:List Nat} {k:Nat} (hk:k<lA.size): ∀{l:List Nat},iP ops lA log l->k∈l->iP ops (lA.setIfInBounds k true) log (l.erase k)
 |m::l,h,hm=>by
  obtain⟨h1,h2,h3,h4,ok,h5,h6,h7,h8,h9,h10⟩:=h;by_cases e:m=k
  ·simp_all [iP.set]
  ·rw[List.erase_cons_tail (by simpa using e)];have hkl:k∈l:=(List.mem_cons.1 hm).resolve_left fun h=>e h.symm;refine⟨iP.take hk h1 hkl, ?_,h3,fun h=>h4 (List.mem_of_mem_erase h),ok,h5,h6,h7,h8,fun e' he hb=> ?_,fun x hx=>h10 x (List.mem_of_mem_erase hx)⟩
   ·rw[getD_set_ne true (fun h=>e h.symm)];exact h2
   grind [getD_set_true,xy]
theorem uw {k:Nat} {o:Oper} (h:ops[k]? =some o):uS ops k=o.dst:=by simp[uS,h]
theorem kK.put {a:Act} {c:Cx} (hd:mQ ops=true) {d:Option Nat} {v:Value}: ∀{l:List (Nat×Value)},kK rd n P ops c a l->
  (∀m∈l.map (·.1),∃om,ops[m]? =some om/\(∀e,om.dst=some e->d≠some e)/\(∀e,d=some e->e∉om.looksAt ops))->kK rd n P ops c (a.put d v) l
 |[],_,_=>trivial
 |(k,u)::l,h,hh=>by
  obtain⟨h1,ok,h2,h3⟩:=h;refine⟨kK.put hd h1 fun m hm=>hh m (aA _ hm),ok,h2,h3.congr ?_⟩;obtain⟨om,g1,g2,g3⟩:=hh k aZ;rw[h2]at g1;cases g1;rw[xw a l fun m hm e he=> ?_,execOp_put (ops:=ops) ok (oO hd k ok h2).2 _ _ _ g3]
  grind [uw]
theorem Wp {a:Act} {c:Cx} (hd:mQ ops=true) {lA:Array Bool} {log:List Nat} {k:Nat} {ok:Oper} (hok:ops[k]? =some ok) (hk:k∈Region.ready .any ops lA):
  ∀{l:List (Nat×Value)},iP ops lA log (l.map (·.1))->kK rd n P ops c a l->k∈l.map (·.1)->
   ∃v l',H5 rd n P c a ok v/\l'.map (·.1)=(l.map (·.1)).erase k/\kK rd n P ops c (a.put ok.dst v) l'/\gG ops (a.put ok.dst v) l'=gG ops a l
 |(m,u)::l,hs,hr,hm=>by
  obtain⟨s1,s2,s3,s4,om,s5,s6,s7,s8,s9,s10⟩:=hs;obtain⟨r1,om',r2,r3⟩:=hr;rw[s5]at r2;cases r2;by_cases e:m=k
  ·subst e;rw[hok]at s5;cases s5;have hap: ∀x∈l.map (·.1),∃ox,ops[x]? =some ox/\ox.apart ops ok=true:=fun x hx=>by
    grind [aeX,iP.un]
   refine⟨u,l,r3.congr ?_,by simp,kK.put hd r1 fun x hx=> ?_, ?_⟩
   ·grind [DJ,oO,Oper.apart_spec,uw]
   ·grind [Oper.apart_spec]
   grind [gG,uw,xw,Oper.apart_spec]
  ·have hkl:k∈l.map (·.1):=(List.mem_cons.1 hm).resolve_left fun h=>e h.symm;obtain⟨v,l',h1,h2,h3,h4⟩:=Wp hd hok hk s1 r1 hkl;refine⟨v,(m,u)::l',h1, ?_,⟨h3,om,s5,by rw[h4];exact r3⟩,by rw[gG,gG,h4]⟩;simp_all
theorem zV {α:Type} {f:α->α->Bool} (hf: ∀x y,f x y=true->x=y): ∀(a b:List α),wU f a b=true->a=b
 |[],[],_=>rfl
 |[],_::_,h=>by simp[wU]at h
 |_::_,[],h=>by simp[wU]at h
 |x::l,y::m,h=>by
  simp only[wU,af]at h;rw[hf x y h.1,zV hf l m h.2]
theorem LU: ∀(t:Ty) (x y:t.den),XJ t x y=true->x=y
 |.unit,(),(),_=>rfl
 |.bool,x,y,h=>by simpa [XJ] using h
 |.int _,x,y,h=>by simpa [XJ,bW] using h
 |.str,x,y,h=>by simpa [XJ,iq] using h
 |.list t,x,y,h=>zV (LU t) x y h
 |.pair a b,x,y,h=>by
  simp only[XJ,af]at h;exact Prod.ext (LU a _ _ h.1) (LU b _ _ h.2)
theorem arH {t u:Ty} {x:t.den} {y:u.den} (h:(match kF t y with|some y=>XJ t x y|none=>false)=true): ∃e:u=t,x=cast (congrArg Ty.den e) y:=by
 grind [mf,LU]
theorem anY {a b:Option (Int×Int)} (h:afO a b=true):a=b:=by
 cases a<;>cases b<;>simp_all [afO,bW,Prod.ext_iff]
theorem kJ {a b:Nat} (h:Nat.beq a b=true):a=b:=au h
mutual
theorem arL: ∀(a b:bV),UI a b=true->a=b
 |.undef,b,h=>by grind [UI]
 |.val t x,b,h=>by
  cases b<;>simp only[UI,aj]at h;obtain⟨e,h⟩:=arH h;simp_all
 |.nils,b,h=>by grind [UI]
 |.nilp,b,h=>by grind [UI]
 |.nilfn,b,h=>by grind [UI]
 |.emp,b,h=>by grind [UI]
 |.tup l,b,h=>by
  cases b<;>simp only[UI,aj]at h;rw[qP l _ h]
 |.agg l,b,h=>by
  cases b<;>simp only[UI,aj]at h;rw[qP l _ h]
 |.cellp t x,b,h=>by
  cases b<;>simp only[UI,aj]at h;obtain⟨e,h⟩:=arH h;simp_all
 |.lst t x n,b,h=>by
  cases b<;>simp only[UI,aj,af]at h;obtain⟨h1,h2⟩:=h;split at h2
  ·rename_i z hz
   obtain⟨e,h3⟩:=mf hz;have h4:=LU (.list t) x z h2
   grind
  ·cases h2
 |.ptr i o,b,h=>by
  cases b<;>simp only[UI,aj,af]at h;simp_all
 |.slc i v w,b,h=>by
  cases b<;>simp only[UI,aj,af]at h
  grind [kJ,anY]
 |.ep i v m o,b,h=>by
  cases b<;>simp only[UI,aj,af]at h;rw[kJ h.1,kJ h.2.1,kJ h.2.2.1,kJ h.2.2.2]
 |.fn f l,b,h=>by
  cases b<;>simp only[UI,aj,af]at h;rw[kJ h.1,qP l _ h.2]
 |.mfn f l,b,h=>by
  cases b<;>simp only[UI,aj,af]at h;rw[kJ h.1,qP l _ h.2]
 |.mpv i,b,h=>by
  cases b<;>simp only[UI,aj]at h;rw[kJ h]
 |.yld i,b,h=>by
  cases b<;>simp only[UI,aj]at h;rw[kJ h]
 |.slf i,b,h=>by
  cases b<;>simp only[UI,aj]at h;rw[kJ h]
 |.sd i v,b,h=>by
  cases b<;>simp only[UI,aj,af]at h;simp_all
theorem qP: ∀(a b:List bV),Ig a b=true->a=b
 |[],[],_=>rfl
 |[],_::_,h=>by simp[Ig]at h
 |_::_,[],h=>by simp[Ig]at h
 |a::l,b::m,h=>by
  simp only[Ig,af]at h;rw[arL a b h.1,qP l m h.2]
end
theorem pG: ∀(B:List Nat) (fr:List bV),(o5 ops B fr).length=fr.length
 |[],_=>rfl
 |i::B,fr=>by
  simp only[o5];split
  ·rw[List.length_set];exact pG B fr
  ·exact pG B fr
theorem ace {k d:Nat} {B:List Nat} {fr:List bV} (h:uS ops k=some d):o5 ops (k::B) fr=(o5 ops B fr).set d .undef:=by
 have h':(ops[k]?).bind (·.dst)=some d:=h;simp only[o5,h']
theorem acd {k:Nat} {B:List Nat} {fr:List bV} (h:uS ops k=none):o5 ops (k::B) fr=o5 ops B fr:=by
 have h':(ops[k]?).bind (·.dst)=none:=h;simp only[o5,h']
theorem Vu: ∀(B:List Nat) (fr:List bV) (i:Nat) (h:i<fr.length) (h':i<(o5 ops B fr).length),(o5 ops B fr)[i]=.undef\/((o5 ops B fr)[i]=fr[i]/\ ∀k∈B,uS ops k≠some i)
 |[],fr,i,h,h'=>.inr ⟨rfl,fun k hk=>by cases hk⟩
 |k::B,fr,i,h,h'=>by
  have hl:=pG (ops:=ops) B fr;have ih:=Vu B fr i h (by rw[hl];exact h);cases hd:uS ops k with
  |some d=>
   simp only[ace hd]
   grind
  |none=>
   simp_all [acd]
theorem aET (X:Act) (d:Option Nat) (v:Value) (i:Nat) (hne:d≠some i) (h:i<(X.put d v).tmps.size) (h':i<X.tmps.size):(X.put d v).tmps[i]=X.tmps[i]:=by
 cases d with
 |none=>rfl
 |some d=>
  simp_all [Act.put]
theorem Ws (a:Act) (i:Nat): ∀(l:List (Nat×Value)),(∀k∈l.map (·.1),uS ops k≠some i)-> ∀(h:i<(gG ops a l).tmps.size) (h':i<a.tmps.size),(gG ops a l).tmps[i]=a.tmps[i]
 |[],_,h,h'=>rfl
 |(k,v)::l,hk,h,h'=>by
  have h2:i<(gG ops a l).tmps.size:=by rw[uH];exact h'
  rw[<-Ws a i l (fun m hm=>hk m (aA _ hm)) h2 h'];exact aET _ _ _ _ (hk k aZ) h h2
theorem alu {c:Cx} {fr:List bV} {l:List (Nat×Value)} {B:List Nat} (h:bQ c fr (gG ops a l).tmps.toList) (hB: ∀k∈l.map (·.1),k∈B):bQ c (o5 ops B fr) a.tmps.toList:=by
 have hlen:=bQ.length _ _ h;rw[bH (xs:=(gG ops a l).tmps),uH]at hlen;refine bQ.mk _ _ (by simp_all [pG]) fun i h1 h2=> ?_;rw[pG]at h1;have h2:i<a.tmps.size:=by simpa using h2
 rcases Vu (ops:=ops) B fr i h1 (by assumption)with e|⟨e,hk⟩
 ·rw[e];simp[bY]
 ·rw[e];have:=bQ.get _ _ h i h1 (by simp_all [uH])
  grind [Ws]
theorem OD {o:Oper} (h:jS o.op=true): ∀cs b,o.op≠ .select cs b:=fun cs b e=>by simp_all [jS]
theorem aow {op:Op} (h:iI op=true):jS op=true:=by
 cases op<;>first|exact h|skip
 rename_i cc
 obtain⟨callee,args,ts⟩:=cc;cases callee with
 |builtin b=>cases b<;>first|exact h|(simp[iI]at h)
 |value v=>rfl
 |invoke x m=>simp[iI]at h
def apU (T:TT) (cl:Bool) {R:Type} (call:gK R) (ops:Array Oper) (old:List bV) (st:St) (k:Nat):Prop:=
 ∃ok,ops[k]? =some ok/\((iI ok.op=true/\ ∃(r:R) (K:St->Option R),(eU T cl call ok st fun z s=>bif sameAt ok.dst z st then K s else none)=some r)\/
  (iI ok.op=false/\jK ok old=jK ok st.fr/\zG ok.dst old=zG ok.dst st.fr))
theorem CB {R:Type} {r:R} (hT:TOk P T) {call:gK R} {old:List bV} {K:St->Option R} (hr:iY W0 b0 rd c st a ats): ∀(B:List Nat),
  yC T cl call ops old B st K=some r->K st=some r/\ ∀k∈B,apU T cl call ops old st k
 |[],h=>⟨h,fun k hk=>by cases hk⟩
 |k::B,h=>by
  simp only[yC]at h;split at h
  ·rename_i ok h1
   cases hq:iI ok.op with
   |true=>
    rw[hq]at h;simp only[cond_true]at h;have h0:=h;obtain⟨z,u,g1,g2,g3⟩:=AB hT hr.ok hq hr.hp hr.fr h;replace g1:=dJ g1;obtain⟨g4,g5⟩:=CB hT hr B g1.2;refine⟨g4,fun m hm=> ?_⟩;rcases List.mem_cons.1 hm with e|hm
    ·exact⟨ok,by rw[e];exact h1,.inl ⟨hq,r,fun _=>yC T cl call ops old B st K,h0⟩⟩
    ·exact g5 m hm
   |false=>
    rw[hq]at h;simp only[cond_false]at h;replace h:=dJ h;obtain⟨h2,h⟩:=h;simp only[af]at h2;obtain⟨g4,g5⟩:=CB hT hr B h;refine⟨g4,fun m hm=> ?_⟩;rcases List.mem_cons.1 hm with e|hm
    ·exact⟨ok,by rw[e];exact h1,.inr ⟨hq,qP _ _ h2.1,qP _ _ h2.2⟩⟩
    ·exact g5 m hm
  ·cases h
theorem uj.same {o:Oper} {fr fr':List bV} {z:bV} (h:uj sg cl o fr z) (h1:jK o fr=jK o fr') (h2:zG o.dst fr=zG o.dst fr'):uj sg cl o fr' z:=by
 obtain⟨a1,a2,a3,a4,fv,args,a5,a6⟩:=h;refine⟨a1,a2,a3,fun d hd=> ?_,fv,args,by simp_all,a6⟩;simp_all [zG]
theorem aen {d:Nat} {z:bV} (h:z=st.fr.getD d .undef):st.put (some d) z=st:=by
 obtain⟨fr,stk,hp,nxt⟩:=st;simp only[St.put];have:fr.set d z=fr:=by
  subst h;apply List.ext_getElem
  all_goals grind
 rw[this]
theorem azI (X:Act) (d:Option Nat) (v u:Value):(X.put d v).put d u=X.put d u:=by
 cases d with
 |none=>rfl
 |some d=>simp[Act.put]
theorem Vq (hT:TOk P T) (hd:mQ ops=true) (hsq:nN (R:=Unit) P (GR sg cl)) {R:Type} {call:gK R} {old:List bV} {lA:Array Bool} {log:List Nat}: ∀(l q:List (Nat×Value)),iP ops lA log (l.map (·.1))->iY W0 b0 rd c st (gG ops (gG ops a l) q) ats->
  (∀k∈l.map (·.1),apU T cl call ops old st k)->LD sg cl ops st.fr (l.map (·.1))->(∀m∈q.map (·.1),∃om,ops[m]? =some om/\ ∀k∈l.map (·.1),∃ok,ops[k]? =some ok/\apX ops ok om)->
  ∃l',l'.map (·.1)=l.map (·.1)/\iY W0 b0 rd c st (gG ops (gG ops a l') q) ats/\kK rd n P ops c a l'
 |[],q,_,hr,_,_,_=>⟨[],rfl,hr,trivial⟩
 |(k,v)::l,q,hs,hr,hA,hF,hq=>by
  obtain⟨s1,s2,s3,s4,ok,s5,s6,s7,s8,s9,s10⟩:=hs;have hq2: ∀m∈(q++[(k,v)]).map (·.1),∃om,ops[m]? =some om/\ ∀x∈l.map (·.1),∃ox,ops[x]? =some ox/\apX ops ox om:=fun m hm=>by
   grind
  obtain⟨l',e1,hr2,hrun⟩:=Vq hT hd hsq l (q++[(k,v)]) s1 (by rw[zA];exact hr) (fun m hm=>hA m (aA _ hm)) (fun m hm=>hF m (aA _ hm)) hq2;rw[zA]at hr2;have hX:gG ops (gG ops a l') [(k,v)]=(gG ops a l').put (uS ops k) v:=rfl;rw[hX]at hr2;have hdk:=uw s5;have hsee:execOp (gG ops ((gG ops a l').put (uS ops k) v) q).eval ok=execOp (gG ops a l').eval ok:=by
   rw[DJ _ (OD s6) q fun m hm e he=> ?_,execOp_put (ops:=ops) ok (OD s6) _ _ _ (by rw[hdk];exact s8)];obtain⟨om,h1,h2⟩:=hq m hm;obtain⟨ok',h3,h4⟩:=h2 k aZ;rw[s5]at h3;cases h3;exact(h4 e (by grind [uw])).1
  have hcomm: ∀u,gG ops ((gG ops a l').put (uS ops k) u) q=(gG ops (gG ops a l') q).put (uS ops k) u:=fun u=>xw _ q fun m hm e he h=>by
   obtain⟨om,h1,h2⟩:=hq m hm;obtain⟨ok',h3,h4⟩:=h2 k aZ;rw[s5]at h3;cases h3;exact(h4 e (by grind [uw])).2 (by simp_all)
  have fin: ∀(z:bV) (u:Value),bY c z u->st.put ok.dst z=st->H5 rd n P c (gG ops ((gG ops a l').put (uS ops k) v) q) ok u->
    ∃l2,l2.map (·.1)=((k,v)::l).map (·.1)/\iY W0 b0 rd c st (gG ops (gG ops a l2) q) ats/\kK rd n P ops c a l2:=fun z u g2 hself g3=>by
   refine⟨(k,u)::l',by simp[e1], ?_,hrun,ok,s5,g3.congr hsee.symm⟩;have:=hr2.put (dst:=ok.dst) g2;rw[hself,hcomm v,hdk,azI,<-hdk,<-hcomm u]at this;exact this
  obtain⟨ok',a1,a2⟩:=hA k aZ;rw[s5]at a1;cases a1;rcases a2 with ⟨b1,r,K,a3⟩|⟨b1,_,_⟩
  ·obtain⟨z,u,g1,g2,g3⟩:=AB hT hr2.ok b1 hr2.hp hr2.fr a3;rw[cond_eq_ite]at g1;split at g1
   ·rename_i hz
    refine fin z u g2 ?_ (.of_run g3);cases hdst:ok.dst with
    |none=>rfl
    |some d=>
     rw[hdst]at hz;exact aen (arL _ _ hz)
   ·cases g1
  ·obtain⟨z,hz⟩:=hF k aZ ok s5 b1;obtain⟨g2,g3⟩:=Qv (n:=n) hT hsq hz rfl hr2;refine fin z _ g2 ?_ g3;cases hdst:ok.dst with
   |none=>rfl
   |some d=>exact aen (hz.2.2.2.1 d hdst)
theorem Fv (hT:TOk P T) (hd:mQ ops=true) (hsq:nN (R:=Unit) P (GR sg cl)) {R:Type} {r:R} {call:gK R} (hcall:mi P W0 n call) {lA:Array Bool} {log:List Nat} {l:List (Nat×Value)} {j:Nat} {K:St->Option R}
  (hF:LD sg cl ops st.fr (l.map (·.1))) (hj:j∈Region.ready .any ops lA) (hs:iP ops lA log (l.map (·.1))) (hjl:j∉l.map (·.1)) (hr:iY W0 b0 rd c st (gG ops a l) ats)
  (h:uC T cl call ops j log st K=some r) {next:Act->World->Prop} {Q:Exit->Act->World->Prop}
  (hn: ∀c' st' a' l',K st'=some r->l'.map (·.1)=l.map (·.1)->iY W0 b0 rd c' st' (gG ops a' l') ats->kK rd n P ops c' a' l'->LD sg cl ops st'.fr (l.map (·.1))->c.Mono c'->next a' c'.w):wpOpIn (FW rd) n P ops Q j next a c.w:=by
 unfold uC at h;split at h
 ·rename_i oj hoj
  replace h:=dJ h;obtain⟨hg,h⟩:=h;simp only[af]at hg;have hguard:oj.guard=none:=by simpa using hg.1
  unfold wpOpIn;simp only[hoj];rw[if_pos (by simp[Region.wanted,hguard])];have hB: ∀k∈l.map (·.1),k∈log.filter fun i=> !ug ops j i:=fun k hk=>List.mem_filter.2 ⟨iP.log hs k hk,by grind [aeX,iP.un]⟩;have hap: ∀k∈l.map (·.1),∃ok,ops[k]? =some ok/\ok.apart ops oj=true:=fun k hk=>by
   have h2:=hg.2;unfold aur at h2
   grind
  have hrun:iY W0 b0 rd c {st with fr:=o5 ops (log.filter fun i=> !ug ops j i) st.fr,stk:=st.fr::st.stk} a ((gG ops a l).tmps::ats):=
   ⟨hr.hp,hr.nxt,hr.ok,alu hr.fr hB,⟨hr.fr,hr.stk⟩,by have:=hr.df;rwa [zB]at this,hr.rd⟩
  refine Tc hT hcall h hrun fun c' z u st1 k1 k2 k3 k4=> ?_;split at k1
  ·rename_i fr stk hst
   have hstk:=k2.stk;rw[hst]at hstk;simp only[Dk]at hstk;have hr1:iY W0 b0 rd c' {st1 with fr:=fr,stk:=stk} (gG ops a l) ats:=
    ⟨k2.hp,k2.nxt,k2.ok,hstk.1,hstk.2,by rw[zB];exact k2.df,k2.rd⟩
   have hr2:=hr1.put (dst:=oj.dst) k3;have hcm:(gG ops a l).put oj.dst u=gG ops (a.put oj.dst u) l:=(xw a l fun m hm e he hh=>by
    grind [Oper.apart_spec,uw]).symm
   rw[hcm]at hr2;obtain⟨g1,g2⟩:=CB hT hr2 _ k1;have hA: ∀k∈l.map (·.1),apU T cl call ops st.fr _ k:=fun k hk=>g2 k (List.mem_reverse.2 (hB k hk));have hF2:LD sg cl ops _ (l.map (·.1)):=fun k hk ok hok hq=>by
    obtain⟨z,hz⟩:=hF k hk ok hok hq;obtain⟨ok',b1,b2⟩:=hA k hk;rw[hok]at b1;cases b1;rcases b2 with ⟨b3,_⟩|⟨_,b4,b5⟩
    ·rw[hq]at b3;cases b3
    ·exact⟨z,hz.same b4 b5⟩
   obtain⟨l',e1,e2,e3⟩:=Vq (n:=n) hT hd hsq l [] hs hr2 hA hF2 (fun m hm=>by cases hm);exact hn c' _ _ l' g1 e1 e2 e3 hF2 k4
  ·cases k1
 ·cases h
def WfH (h:gZ):Prop:= ∀id f fr ps jC bd k n p,dR h id=some (.lp f fr ps jC bd (some k) n p)->rC f k=some (jC,bd)
theorem iY.tidy {c:Cx} {st:St} {a:Act} (cl:Bool) (hr:iY W0 b0 rd c st a ats): ∃c',iY W0 b0 rd c' (tidy cl st) a ats/\c.Mono c'/\c'.w=c.w:=by
 cases cl with
 |true=>exact⟨c,hr,Cx.Mono.refl c,rfl⟩
 |false=>
  have hg: ∀i,dR (nT c.hp) i=dR c.hp i:=fun i=>BK i _;have hself: ∀(o:dN) (l:Loc),o.like l o l:=fun o l=>by
   cases o<;>simp[dN.like]
  have hle:c.Le {c with hp:=nT c.hp}:=by
   refine⟨fun b hb=>⟨⟨hb.1,fun⟨j,o,h1,h2⟩=>hb.2.1 ⟨j,o,by simp_all,h2⟩,hb.2.2⟩,rfl⟩,fun id hk=> ?_,fun id o' _ h=>⟨o',by rw[<-hg];exact h,hself _ _⟩,fun _ h=>h,fun b L h=>⟨L,h⟩,ah _,rfl⟩;rcases hk with ⟨o,h⟩|h
   ·exact .inl ⟨o,by simp_all⟩
   ·exact .inr h
  have hok:({c with hp:=nT c.hp}:Cx).Ok W0:=by
   refine⟨hr.ok.bel,fun id o h=> ?_,fun i j o p b h1 h2=>hr.ok.inj i j o p b (by simp_all) (by simp_all),hr.ok.mks,fun b hb=>(hle.out b (hr.ok.bar b hb)).1,hr.ok.phi⟩;exact(hr.ok.obj id o (by rw[<-hg];exact h)).le hle rfl fun b _=>rfl
  exact⟨{c with hp:=nT c.hp},⟨by show nT c.hp=nT st.hp;rw[hr.hp],hr.nxt,hok,bQ.le hle _ _ hr.fr,Dk.le hle _ _ hr.stk,hr.df,hr.rd⟩,hle.mono,rfl⟩
theorem iY.wf {c:Cx} {st:St} {a:Act} (hr:iY W0 b0 rd c st a ats):WfH st.hp:=fun id f fr ps jC bd k n p h=>by
 rw[<-hr.hp]at h;exact(hr.ok.obj id _ h).1 k rfl
def WfO:dN->Prop
 |.lp f _ _ jC bd (some k) _ _=>rC f k=some (jC,bd)
 |_=>True
theorem NM: ∀(h:gZ),tH h=true->WfH h-> ∀e∈h,WfO e.2
 |[],_,_,e,he=>by simp at he
 |(k,o)::h,hn,hw,e,he=>by
  simp only[tH,af,Bool.not_eq_true']at hn;rcases List.mem_cons.1 he with rfl|he
  ·cases o with
   |lp f fr ps jC bd ky n p=>
    cases ky with
    |none=>trivial
    |some q=>exact hw k f fr ps jC bd q n p (by simp[eu])
   |_=>trivial
  ·refine NM h hn.2 (fun id f fr ps jC bd q n p hg=>hw id f fr ps jC bd q n p ?_) e he;rw[eu];by_cases hk:k=id
   ·subst hk;have:=Ai _ _ _ hg;have hany:=hn.1;rw[List.any_eq_false]at hany;exact absurd (by simp:Nat.beq k k=true) (hany _ this)
   simp_all
theorem aw4 {a b:Ex} (h:aC8 a b=true):a=b:=by
 cases a<;>cases b<;>simp only[aC8,aj]at h<;>first|rfl|rw[kJ h]
theorem arJ {a b:Option Ex} (h:arI a b=true):a=b:=by
 cases a<;>cases b<;>simp only[arI,aj]at h
 ·rfl
 ·rw[aw4 h]
theorem awu {old:gZ} {i:Nat} {a b x:dN} (hw:WfH old) (hb:WfO b) (he:eqO a b=true) (h:Uz old i a=some x):x=b:=by
 cases a with
 |box t l=>
  cases b<;>simp only[eqO,aj,af]at he;cases h;rw[kJ he.1,qP _ _ he.2]
 |arr t v y=>
  cases b<;>simp only[eqO,aj,af]at he;cases h
  grind [mf,LU,kJ]
 |dead=>
  cases b<;>simp only[eqO,aj]at he;cases h;rfl
 |mp k v l=>
  cases b<;>simp only[eqO,aj,af,decide_eq_true_eq]at he;obtain⟨rfl,rfl,rfl⟩:=he;cases h;rfl
 |lp f fr ps jC bd ky n p=>
  cases b<;>simp only[eqO,aj,af]at he
  rename_i g fs qs asg' bd' kz m q
  obtain⟨h1,h2,h3,h4,h5,h6⟩:=he;split at h4
  ·rename_i k k'
   have e1:=kJ h1;have e4:=kJ h4;subst e1 e4;simp only[Uz]at h;split at h
   ·rename_i hg
    replace h:=dJ h;obtain⟨h7,h⟩:=h;simp only[af]at h7
    rename_i g2 _ _ asg2 bd2 k2 _ _
    have e5:=kJ h7.1;have e6:=kJ h7.2;subst e5 e6;have w1:=hw _ _ _ _ _ _ _ _ _ hg
    grind [WfO,qP,zV,kJ,arJ]
   ·cases h
  ·cases h4
theorem Ux {old:gZ} (hw:WfH old): ∀(a b x:gZ),(∀e∈b,WfO e.2)->eqH a b=true->Uw old a=some x->x=b
 |[],b,x,_,he,h=>by
  cases b with
  |nil=>cases h;rfl
  |cons _ _=>simp[eqH]at he
 |(i,o)::a,b,x,hb,he,h=>by
  cases b with
  |nil=>simp[eqH]at he
  |cons e b=>
   obtain⟨j,o'⟩:=e;simp only[eqH,af]at he;simp only[Uw]at h;split at h
   ·rename_i y hy
    split at h
    ·rename_i z hz
     cases h;rw[awu hw (hb _ aZ) he.2.1 hy,Ux hw a b z (fun e he=>hb e (aA _ he)) he.2.2 hz,kJ he.1]
    ·cases h
   ·cases h
theorem aoC {old:gZ} {a b m:St} (h:settle old a=some m) (hw:WfH old) (h2:arK a b=true) (hn:tH b.hp=true) (hb:WfH b.hp):m=b:=by
 unfold settle at h;split at h
 ·rename_i hp hh
  cases h;unfold arK at h2;simp only[af]at h2;obtain⟨e1,e2,e3,e4⟩:=h2;have e5:=Ux hw _ _ _ (NM _ hn hb) e3 hh;obtain⟨f1,s1,p1,n1⟩:=a;obtain⟨f2,s2,p2,n2⟩:=b
  grind [qP,zV,kJ]
 ·cases h
theorem ahE {old:gZ} {i:Nat} {a x:dN} (hw:WfH old) (ha:WfO a) (h:Uz old i a=some x):x=a:=by
 cases a with
 |lp f fr ps jC bd ky n p=>
  cases ky with
  |none=>simp[Uz]at h
  |some k=>
   simp only[Uz]at h;split at h
   ·rename_i hg
    replace h:=dJ h;obtain⟨h7,h⟩:=h;simp only[af]at h7;have e5:=kJ h7.1;have e6:=kJ h7.2;subst e5 e6;have w1:=hw _ _ _ _ _ _ _ _ _ hg;simp_all [WfO]
   ·cases h
 |_=>simp_all [Uz]
theorem Uy {old:gZ} (hw:WfH old): ∀(a x:gZ),(∀e∈a,WfO e.2)->Uw old a=some x->x=a
 |[],x,_,h=>by cases h;rfl
 |(i,o)::a,x,ha,h=>by
  simp only[Uw]at h;split at h
  ·rename_i y hy
   split at h
   ·rename_i z hz
    cases h;rw[ahE hw (ha _ aZ) hy,Uy hw a z (fun e he=>ha e (aA _ he)) hz]
   ·cases h
  ·cases h
theorem aeI {old:gZ} {a m:St} (h:settle old a=some m) (hw:WfH old) (hn:tH a.hp=true) (ha:WfH a.hp):m=a:=by
 unfold settle at h;split at h
 ·rename_i hp hh
  cases h;rw[Uy hw _ _ (NM _ hn ha) hh]
 ·cases h
theorem adZ {old:gZ} {L:List (Option St)} {m:St} (h:SI old L=some m) (hw:WfH old): ∀x∈L,∃b,x=some b/\(WfH b.hp->m=b):=by
 unfold SI at h;split at h
 ·rename_i a l
  replace h:=dJ h;obtain⟨h1,h⟩:=h;split at h
  ·rename_i hp hh
   cases h;intro x hx;have h2:=List.all_eq_true.1 h1 x hx;cases x with
   |none=>simp at h2
   |some b=>
    simp only[af]at h2;refine⟨b,rfl,fun hb=> ?_⟩;obtain⟨h2,hn⟩:=h2;unfold arK at h2;simp only[af]at h2;obtain⟨e1,e2,e3,e4⟩:=h2;have e5:=Ux hw _ _ _ (NM _ hn hb) e3 hh;obtain⟨f1,s1,p1,n1⟩:=a;obtain⟨f2,s2,p2,n2⟩:=b
    grind [qP,zV,kJ]
  ·cases h
 ·cases h
def acj (ops:Array Oper) (lA:Array Bool):Nat:=((List.range ops.size).filter fun i=> !lA.getD i true).length
theorem filter_lt {α:Type} {p q:α->Bool}: ∀(l:List α),(∀x∈l,q x=true->p x=true)->(∃x∈l,p x=true/\q x=false)->(l.filter q).length<(l.filter p).length
 |[],_,h=>by simp_all
 |y::l,h,hx=>by
  have hle:(l.filter q).length<=(l.filter p).length:=by
   clear hx
   induction l with
   |nil=>simp
   |cons z l ih=>
    grind
  obtain⟨x,hx,h1,h2⟩:=hx;simp only[List.filter_cons];rcases List.mem_cons.1 hx with e|hx
  ·grind
  ·have ih:=filter_lt l (fun x hx=>h x (aA _ hx)) ⟨x,hx,h1,h2⟩
   grind
theorem Jh {lA:Array Bool} {j:Nat} (hs:lA.size=ops.size) (hj:j∈Region.ready .any ops lA):acj ops (lA.setIfInBounds j true)<acj ops lA:=by
 obtain⟨h1,oj,h2,_⟩:=mem_ready.1 hj;have hlt:j<ops.size:=(Array.getElem?_eq_some_iff.1 h2).1;refine filter_lt _ (fun x hx h=> ?_) ⟨j,List.mem_range.2 hlt,by rw[h1];rfl, ?_⟩
 ·by_cases e:j=x
  all_goals simp_all
 simp
theorem alx {lA:Array Bool} (h:acj ops lA=0):Region.ready .any ops lA=[]:=by
 simp_all [acj,Region.ready]
theorem iP.oldest {lA:Array Bool} {log:List Nat}: ∀{l:List Nat},iP ops lA log l->l≠[]-> ∃k∈l,k∈Region.ready .any ops lA
 |[],_,h=>absurd rfl h
 |[k],h,_=>by
  obtain⟨_,h2,_,_,ok,h5,_,_,_,h9,_⟩:=h;simp_all [mem_ready]
 |k::m::l,h,_=>by
  obtain⟨x,hx,hr⟩:=iP.oldest h.1 (by simp);exact⟨x,aA _ hx,hr⟩
structure Lag (n:Nat) (sg:FuncId->Option Sum) (cl:Bool) (P:Program) (W0:World) (b0:Nat) (rd:Option Nat) (ats:List (Array Value)) (ops:Array Oper) (c:Cx) (st:St) (lE:Array Bool) (log:List Nat) (a:Act) (lA:Array Bool) (l:List (Nat×Value)):Prop where
 rel:iY W0 b0 rd c st (gG ops a l) ats
 pst:iP ops lA log (l.map (·.1))
 run:kK rd n P ops c a l
 sA:lA.size=ops.size
 sE:lE.size=ops.size
 sub: ∀j,lA.getD j false=true->lE.getD j false=true
 cov: ∀j,lE.getD j false=true->lA.getD j false=true\/j∈l.map (·.1)
 hE: ∀k∈l.map (·.1),lE.getD k false=true
 fit:LD sg cl ops st.fr (l.map (·.1))
theorem X7 {l:Array Bool} {j:Nat} (h:j<l.size):l.getD j true=l.getD j false:=by simp[h]
theorem Lag.ready {lE:Array Bool} {log:List Nat} {lA:Array Bool} {l:List (Nat×Value)} (h:Lag n sg cl P W0 b0 rd ats ops c st lE log a lA l) {j:Nat} (hj:j∈Region.ready .any ops lA) (hjl:j∉l.map (·.1)):j∈Region.ready .any ops lE:=by
 obtain⟨h1,oj,h2,h3⟩:=mem_ready.1 hj;have hlt:j<ops.size:=(Array.getElem?_eq_some_iff.1 h2).1;refine mem_ready.2 ⟨?_,oj,h2,fun e he hb=>h.sub _ (h3 e he hb)⟩;cases hg:lE.getD j true with
 |false=>rfl
 |true=>
  rw[X7 (by rw[h.sE];exact hlt)]at hg;rcases h.cov j hg with h4|h4
  all_goals grind
theorem O5 (hd:mQ ops=true) {lE:Array Bool} {log:List Nat} {Q:Act->World->Prop}
  (hfin:Region.ready .any ops lE=[]-> ∀w,GK c w-> ∀a,iY W0 b0 rd (c.at_ w) st a ats->Q a w)
  (hstep: ∀(w:World),GK c w-> ∀(fA:Nat) (a:Act) (lA:Array Bool) (l:List (Nat×Value)) (j:Nat),Lag n sg cl P W0 b0 rd ats ops (c.at_ w) st lE log a lA l->acj ops lA<=fA+1->j∈Region.ready .any ops lA->j∉l.map (·.1)->j∈Region.ready .any ops lE->
   wpOpIn (FW rd) n P ops (fun e a w=>e=.normal/\Q a w) j (wpAnyIn (FW rd) n P .any ops (fun e a w=>e=.normal/\Q a w) fA (lA.setIfInBounds j true)) a w):
  ∀(m fA:Nat) (w:World),GK c w-> ∀(a:Act) (lA:Array Bool) (l:List (Nat×Value)),l.length=m->Lag n sg cl P W0 b0 rd ats ops (c.at_ w) st lE log a lA l->acj ops lA<=fA->
   wpAnyIn (FW rd) n P .any ops (fun e a w=>e=.normal/\Q a w) fA lA a w:=by
 have done: ∀(w:World),GK c w-> ∀(a:Act) (lA:Array Bool) (l:List (Nat×Value)),Lag n sg cl P W0 b0 rd ats ops (c.at_ w) st lE log a lA l->Region.ready .any ops lA=[]->Q a w:=fun w hw a lA l h hr=>by
  have hl:l=[]:=by
   cases l with
   |nil=>rfl
   |cons x l=>
    obtain⟨k,_,hk⟩:=iP.oldest h.pst (by simp);simp_all
  subst hl;refine hfin ?_ w hw a h.rel;cases hrE:Region.ready .any ops lE with
  |nil=>rfl
  |cons j rs=>
   obtain⟨h1,oj,h2,h3⟩:=mem_ready.1 (show j∈Region.ready .any ops lE by rw[hrE];simp);have hlt:j<ops.size:=(Array.getElem?_eq_some_iff.1 h2).1;have:j∈Region.ready .any ops lA:=mem_ready.2 ⟨by
    cases hg:lA.getD j true with
    |false=>rfl
    |true=>
     rw[X7 (by rw[h.sA];exact hlt)]at hg;exact(Me (h.sub j hg) h1).elim,oj,h2,fun e he hb=>(h.cov _ (h3 e he hb)).resolve_right (by simp)⟩
   simp_all
 intro m
 induction m using Nat.strongRecOn with
 |ind m ih=>
  intro fA w hw a lA l hm h hc;cases fA with
  |zero=>
   have hr:=alx (ops:=ops) (lA:=lA) (by omega);exact⟨hr,rfl,done w hw a lA l h hr⟩
  |succ fA=>
   refine⟨fun hr=>⟨rfl,done w hw a lA l h hr⟩,fun j hj=> ?_⟩;by_cases hjl:j∈l.map (·.1)
   ·obtain⟨hun,oj,hoj,hdeps⟩:=mem_ready.1 hj;obtain⟨v,l',g1,g2,g3,g4⟩:=Wp hd hoj hj h.pst h.run hjl;have hlt:j<ops.size:=(Array.getElem?_eq_some_iff.1 hoj).1;have hguard:oj.guard=none:=by
     have: ∀(l:List Nat),iP ops lA log l->j∈l->oj.guard=none:=fun l=>by
      induction l with
      |nil=>intro _ h;cases h
      |cons k l ih=>
       intro hp hm;rcases List.mem_cons.1 hm with e|hm
       ·subst e;obtain⟨_,_,_,_,ok,h5,_,h7,_⟩:=hp;simp_all
       ·exact ih hp.1 hm
     exact this _ h.pst hjl
    have hlen:l'.length<m:=by
     grind [ay]
    refine g1.wpOp (c:=c.at_ w) hd hoj hguard fun w' hw'=> ?_;have hw2:GK c w':=Below.trans hw (hw'.mono hw.size);refine ih l'.length hlen fA w' hw2 _ _ l' rfl ⟨by rw[g4];exact h.rel.ext hw',by rw[g2];exact iP.take (by rw[h.sA];exact hlt) h.pst hjl,kK.ext hw' g3,by simpa using h.sA,h.sE,fun k hk=> ?_,fun k hk=> ?_,fun k hk=>h.hE k (by grind),fun k hk=>h.fit k (by grind)⟩ (by have:=Jh h.sA hj;omega)
    ·by_cases e:j=k
     ·subst e;exact h.hE j hjl
     ·rw[getD_set_ne false e]at hk;exact h.sub k hk
    ·rcases h.cov k hk with h1|h1
     ·exact .inl (getD_set_true h1)
     grind [xy]
   ·exact hstep w hw fA a lA l j h hc hj hjl (h.ready hj hjl)
theorem an0 {fr:List bV} {d:Nat} {z:bV} {x:Operand} (h:x≠ .tmp d):iD (fr.set d z) x=iD fr x:=by
 cases x with
 |tmp t=>
  grind [iD]
 |_=>rfl
theorem Bz {o:Oper} {dst:Option Nat} {z:bV} (h: ∀d,dst=some d->d∉o.looksAt ops):jK o (st.put dst z).fr=jK o st.fr:=by
 cases dst with
 |none=>rfl
 |some d=>
  have hx: ∀x∈o.op.operands,x≠ .tmp d:=fun x hx e=>h d rfl (by
   subst e;exact List.mem_append_left _ (List.mem_filterMap.2 ⟨.tmp d,by simpa using hx,rfl⟩))
  grind [jK,St.put,an0,Op.operands,Call.operands,List.map_congr_left]
theorem ahf {o:Oper} {dst:Option Nat} {z:bV} (h: ∀d,dst=some d->o.dst≠some d):zG o.dst (st.put dst z).fr=zG o.dst st.fr:=by
 cases dst with
 |none=>rfl
 |some d=>
  cases ho:o.dst with
  |none=>rfl
  |some e=>
   have hne:d≠e:=fun x=>h d rfl (by rw[ho,x]);simp_all [zG,St.put]
theorem V7: ∀(rs:List (Ty×Bool)) y,(rs.all fun r=> !r.2&&r.1.rigid)=true->yu rs y=none/\news rs=0/\(rs.all fun r=>r.1.rigid||(r.2&&r.1.elem.rigid))=true
 |[],_,_=>⟨rfl,rfl,rfl⟩
 |(t,true)::rs,y,h=>by simp at h
 |(t,false)::rs,y,h=>by
  simp only[bg,aG,aU,af]at h;obtain⟨h1,h2,h3⟩:=V7 rs y.2 h.2;simp_all [yu,news]
theorem Vr {hp hp':gZ}: ∀(ps:List Ty) (args:List bV),args.all bV.rigid=true->zO hp ps args=zO hp' ps args
 |[],[],_=>rfl
 |[],_::_,_=>rfl
 |_::_,[],_=>rfl
 |t::ps,v::args,h=>by
  simp only[bg,af]at h;have e:v.as hp t=v.as hp' t:=by cases v<;>simp only[bV.rigid,aj]at h<;>first|rfl|simp_all
  have ih:=Vr (hp:=hp) (hp':=hp') ps args h.2;simp only[zO,e,ih]
theorem ahc {R:Type} {r:R} {i:Nat} {oi:Oper} {X:bV->St->Option R} (hi:Yd sg ops st.fr i=true) (hoi:ops[i]? =some oi) (hself: ∀d,oi.dst=some d->d∉oi.looksAt ops)
  (h:eU T cl (GR sg cl) oi st X=some r): ∃z,X z st=some r/\jS oi.op=true/\uj sg cl oi (st.put oi.dst z).fr z:=by
 unfold Yd at hi;rw[hoi]at hi;simp only at hi;split at hi
 ·rename_i g args hca
  split at hi
  ·rename_i s hs
   simp only[af]at hi;obtain⟨⟨h1,h2⟩,h3⟩:=hi;obtain⟨odst,op,ty,pos,after,guard⟩:=oi;cases op with
   |call c=>
    obtain⟨callee,as',ts⟩:=c;cases callee with
    |value v=>
     have hca0:=hca;simp only[jK,List.cons.injEq]at hca;simp only[eU]at h;rw[hca.1,hca.2]at h;have key: ∀{R:Type} (dst:Option Nat) (st':St) (K:bV->St->Option R),GR sg cl (.fn g []) args dst st' K=match zO [] s.ps args with
       |some x=>bM (s.f x) fun y=>K (KI (nM 0 s.rs y)) st'
       |none=>none:=fun {R} dst st' K=>by
      simp only[GR,hs,h1,h2,Bool.and_self,cond_true,Sum.call];have hall:=h1;unfold KL at hall;rw[Vr (hp:=st'.hp) (hp':=[]) _ _ h2];cases zO [] s.ps args with
      |none=>simp
      |some x=>
       simp only;cases hf:s.f x with
       |none=>simp[bM]
       |some y=>
        obtain⟨n1,n2,n3⟩:=V7 s.rs y hall;simp[bM,n1,n2,n3]
     rw[key]at h;split at h
     ·rename_i x hx
      cases hf:s.f x with
      |none=>rw[hf]at h;cases h
      |some y=>
       rw[hf]at h;refine⟨_,h,rfl,rfl,⟨_,v,rfl,rfl⟩,TL _ (IX 0 s.rs y h1),fun d hd=> ?_,.fn g [],args, ?_,fun dst st' K=> ?_⟩
       ·simp_all [OY,St.put]
       ·rw[Bz (ops:=ops) hself];exact hca0
       simp_all [bM]
     ·cases h
    |_=>simp[jK]at hca
   |_=>simp[jK]at hca
  ·cases hi
 ·cases hi
theorem wC (hT:TOk P T) (hd:mQ ops=true) (hsq: ∀R:Type,nN (R:=R) P (GR sg cl)) {callS:gK St} (hS:mi P W0 n callS) {callU:gK Unit} (hU:mi P W0 n callU) (hxS:xK sg callS) (hxU:xK sg callU): ∀(nE:Nat) {R:Type} {r:R} {call:gK R} (hcall:mi P W0 n call) (hx:xK sg call) {K:St->Option R} {Q:Act->World->Prop}
  (lE:Array Bool) (log:List Nat) (c:Cx) (st:St),mD T cl sg callS callU ops nE call lE log st K=some r->
  (∀c' st' a',K st'=some r->iY W0 b0 rd c' st' a' ats->c.Mono c'->Q a' c'.w)-> ∀(fA:Nat) (a:Act) (lA:Array Bool) (l:List (Nat×Value)),Lag n sg cl P W0 b0 rd ats ops c st lE log a lA l->acj ops lA<=fA->
   wpAnyIn (FW rd) n P .any ops (fun e a w=>e=.normal/\Q a w) fA lA a c.w
 |0,R,r,call,hcall,hx,K,Q,lE,log,c,st,h,hQ,fA,a,lA,l,hl,hc=>by simp[mD]at h
 |nE+1,R,r,call,hcall,hx,K,Q,lE,log,c,st,h,hQ,fA,a,lA,l,hl,hc=>by
  have after: ∀(w:World) (a':Act) (lA:Array Bool) (l l':List (Nat×Value)) (j:Nat) (c':Cx) (st':St) (a:Act),Lag n sg cl P W0 b0 rd ats ops (c.at_ w) st lE log a lA l->j∈Region.ready .any ops lA->j∉l.map (·.1)->l'.map (·.1)=l.map (·.1)->
    iY W0 b0 rd c' st' (gG ops a' l') ats->kK rd n P ops c' a' l'->LD sg cl ops st'.fr (l.map (·.1))->Lag n sg cl P W0 b0 rd ats ops c' st' (lE.setIfInBounds j true) log a' (lA.setIfInBounds j true) l':=fun w a' lA l l' j c' st' a hl hj hjl e1 e2 e3 e4=>by
   obtain⟨_,oj,hoj,_⟩:=mem_ready.1 hj;have hlt:j<ops.size:=(Array.getElem?_eq_some_iff.1 hoj).1;refine⟨e2,by rw[e1];exact iP.set hl.pst hjl,e3,by simpa using hl.sA,by simpa using hl.sE,fun k hk=> ?_,fun k hk=> ?_,fun k hk=>getD_set_true (hl.hE k (by simp_all)),by rw[e1];exact e4⟩
   ·by_cases e:j=k
    ·subst e;exact xy (by rw[hl.sE];exact hlt)
    ·rw[getD_set_ne false e]at hk ⊢;exact hl.sub k hk
   ·by_cases e:j=k
    ·grind [xy]
    ·rw[getD_set_ne false e]at hk ⊢;rw[e1];exact hl.cov k hk
  have adv: ∀(i:Nat) (oi:Oper) (z:bV) (u:Value),i∈Region.ready .any ops lE->ops[i]? =some oi->jS oi.op=true->oi.guard=none->MP ops log i=true->
    mD T cl sg callS callU ops nE call (lE.setIfInBounds i true) (i::log) (st.put oi.dst z) K=some r->bY c z u->H5 rd n P c (gG ops a l) oi u->
    (iI oi.op=false-> ∃z,uj sg cl oi (st.put oi.dst z).fr z/\True)->(iI oi.op=false->uj sg cl oi (st.put oi.dst z).fr z)->
    wpAnyIn (FW rd) n P .any ops (fun e a w=>e=.normal/\Q a w) fA lA a c.w:=fun i oi z u hi2 hoi hq hguard hlate g1 g2 g3 _ g4=>by
   obtain⟨hun,oi',hoi',hdeps⟩:=mem_ready.1 hi2;rw[hoi]at hoi';cases hoi';have hlt:i<ops.size:=(Array.getElem?_eq_some_iff.1 hoi).1;have hil:i∉l.map (·.1):=fun hm=>Me (hl.hE i hm) hun;have hunA:lA.getD i true=false:=by
    cases hga:lA.getD i true with
    |false=>rfl
    |true=>
     rw[X7 (by rw[hl.sA];exact hlt)]at hga;exact(Me (hl.sub i hga) hun).elim
   have hpair:=hlate;unfold MP at hpair;rw[hoi]at hpair;simp only[af]at hpair;obtain⟨hself,hpair⟩:=hpair;have hpr: ∀m∈l.map (·.1),∃om,ops[m]? =some om/\apX ops om oi/\(ug ops i m=false->om.apart ops oi=true):=fun m hm=>by
    have h3:=List.all_eq_true.1 hpair m (iP.log hl.pst m hm);split at h3
    ·rename_i om hom
     simp only[af,Bool.or_eq_true]at h3
     grind [L8]
    ·cases h3
   refine wC hT hd hsq hS hU hxS hxU nE hcall hx (Q:=Q) (lE.setIfInBounds i true) (i::log) c (st.put oi.dst z) g1 hQ fA a lA ((i,u)::l) ⟨?_, ?_,⟨hl.run,oi,hoi,g3⟩,hl.sA,by simpa using hl.sE,fun k hk=> ?_,fun k hk=> ?_,fun k hk=> ?_,fun k hk ok hok hnq=> ?_⟩ hc
   ·have:=hl.rel.put (dst:=oi.dst) g2;simp_all [gG,uw]
   ·exact⟨iP.mono (fun k hk=>aA _ hk) hl.pst,hunA,aZ,hil,oi,hoi,hq,hguard,fun d hd'=>(L8 hself d hd').1,fun e he hb=>hl.cov _ (hdeps e he hb),hpr⟩
   ·by_cases e:i=k
    ·grind
    ·rw[getD_set_ne false e];exact hl.sub k hk
   ·by_cases e:i=k
    ·simp_all
    ·rw[getD_set_ne false e]at hk;exact(hl.cov k hk).imp (fun h=>h) fun h=>aA _ h
   ·rcases List.mem_cons.1 hk with e|hk
    ·grind [xy]
    ·exact getD_set_true (hl.hE k hk)
   ·rcases List.mem_cons.1 hk with e|hk
    ·grind
    ·obtain⟨z',hz'⟩:=hl.fit k hk ok hok hnq;obtain⟨om,h1,h2,_⟩:=hpr k hk;rw[hok]at h1;cases h1;exact⟨z',hz'.same (Bz (ops:=ops) fun d hd'=>(h2 d hd').1).symm (ahf fun d hd'=>(h2 d hd').2).symm⟩
  simp only[mD]at h;split at h
  ·rename_i hrd
   exact O5 (n:=n) (sg:=sg) (cl:=cl) hd (fun _ w hw a hr=>hQ (c.at_ w) st a h hr (Cx.Le.ext hw).mono) (fun w hw fA a lA l j _ _ _ _ hj=>by simp_all) _ fA c.w (Below.refl _ _) a lA l rfl hl hc
  ·rename_i k rs hrd
   split at h
   ·rename_i i hf
    have hi1:=List.find?_some hf;simp only[af]at hi1;replace hi1:=hi1.1;have hi2:=List.mem_of_find?_eq_some hf;rw[<-hrd]at hi2;split at h
    ·rename_i oi hoi
     replace h:=dJ h;obtain⟨hg,h⟩:=h;simp only[af]at hg;obtain⟨hg,hlate⟩:=hg;have hq:iI oi.op=true:=by
      grind [We]
     obtain⟨z,u,g1,g2,g3⟩:=AB hT hl.rel.ok hq hl.rel.hp hl.rel.fr h;exact adv i oi z u hi2 hoi (aow hq) (by simpa using hg) hlate g1 g2 (.of_run g3) (fun h0=>by simp_all) (fun h0=>by simp_all)
    ·cases h
   ·split at h
    ·rename_i i hf
     have hi1:=List.find?_some hf;have hi2:=List.mem_of_find?_eq_some hf;rw[<-hrd]at hi2;split at h
     ·rename_i oi hoi
      replace h:=dJ h;obtain⟨hg,h⟩:=h;simp only[af]at hg;obtain⟨hg,hlate⟩:=hg;have hself: ∀d,oi.dst=some d->d∉oi.looksAt ops:=by
       have hpair:=hlate;unfold MP at hpair;rw[hoi]at hpair;simp only[af]at hpair;exact fun d hd'=>(L8 hpair.1 d hd').1
      obtain⟨z,g1,g2,g3⟩:=ahc hi1 hoi hself h;obtain⟨g4,g5⟩:=Qv (n:=n) hT (hsq Unit) g3 (Bz (ops:=ops) hself) hl.rel;exact adv i oi z _ hi2 hoi g2 (by simpa using hg) hlate g1 g4 g5 (fun _=>⟨z,g3,trivial⟩) (fun _=>g3)
     ·cases h
    ·split at h
     ·refine O5 (n:=n) (sg:=sg) (cl:=cl) hd (fun hr=>by simp_all) (fun w hw fA a lA l j hl hc hj hjl hjE=> ?_) _ fA c.w (Below.refl _ _) a lA l rfl hl hc;rw[hrd]at hjE;obtain rfl:j=k:=by simpa using hjE
      refine Fv (c:=c.at_ w) hT hd (hsq Unit) hcall hl.fit hj hl.pst hjl hl.rel h fun c' st' a' l' k1 e1 k2 k3 k5 k4=> ?_;exact wC hT hd hsq hS hU hxS hxU nE hcall hx (Q:=Q) _ log c' st' k1 (fun c'' st'' a'' q1 q2 q3=>hQ c'' st'' a'' q1 q2 ((Cx.Le.ext hw).mono.trans (k4.trans q3))) fA a' _ l' (after w a' lA l l' j c' st' a hl hj hjl e1 k2 k3 k5) (by have:=Jh hl.sA hj;omega)
     ·rw[cond_eq_ite]at h;split at h
      rotate_left
      ·rename_i hcp
       simp only[Bool.or_eq_true,Bool.not_eq_true',not_or,bD,Bool.not_eq_false]at hcp;have hp: ∀o∈ops.toList,wu sg o.op=true:=fun o ho=>List.all_eq_true.1 hcp.2 o ho;refine O5 (n:=n) (sg:=sg) (cl:=cl) hd (fun hr=>by simp_all) (fun w hw fA a lA l j hl hc hj hjl hjE=> ?_) _ fA c.w (Below.refl _ _) a lA l rfl hl hc;rw[hrd]at hjE;rcases List.mem_cons.1 hjE with rfl|hjR
       ·refine Fv (c:=c.at_ w) hT hd (hsq Unit) hcall hl.fit hj hl.pst hjl hl.rel h fun c' st' a' l' k1 e1 k2 k3 k5 k4=> ?_;exact wC hT hd hsq hS hU hxS hxU nE hcall hx (Q:=Q) _ log c' st' k1 (fun c'' st'' a'' q1 q2 q3=>by
         replace q1:=dJ q1;obtain⟨q0,q1⟩:=q1;obtain⟨c3,r3,m3,w3⟩:=q2.tidy cl;split at q1
         ·rename_i m hm
          replace q1:=(yO _ q1).1;have:=aeI hm hl.rel.wf q0 r3.wf;subst this;rw[<-w3];exact hQ c3 _ a'' q1 r3 ((Cx.Le.ext hw).mono.trans (k4.trans (q3.trans m3)))
         ·cases q1) fA a' _ l' (after w a' lA l l' j c' st' a hl hj hjl e1 k2 k3 k5) (by have:=Jh hl.sA hj;omega)
       ·obtain⟨_,h1⟩:=XM hx hp h;obtain⟨st1,h1⟩:=Rk hp hxS hxU nE hx _ _ _ _ h1;replace h1:=(dJ h1).2;split at h1
        ·rename_i m hm
         obtain⟨hK,hua⟩:=yO _ h1;have hju:=hua _ (List.mem_map.2 ⟨j,hjR,rfl⟩);refine Fv (c:=c.at_ w) hT hd (hsq Unit) hU hl.fit hj hl.pst hjl hl.rel hju fun c' st' a' l' k1 e1 k2 k3 k5 k4=> ?_;exact wC hT hd hsq hS hU hxS hxU nE hU hxU (Q:=Q) _ log c' st' k1 (fun c'' st'' a'' q1 q2 q3=>by
          replace q1:=(dJ q1).1;simp only[af]at q1;obtain⟨c3,r3,m3,w3⟩:=q2.tidy cl;have:=aoC hm hl.rel.wf q1.1 q1.2 r3.wf;subst this;rw[<-w3];exact hQ c3 _ a'' hK r3 ((Cx.Le.ext hw).mono.trans (k4.trans (q3.trans m3)))) fA a' _ l' (after w a' lA l l' j c' st' a hl hj hjl e1 k2 k3 k5) (by have:=Jh hl.sA hj;omega)
        ·cases h1
      split at h
      ·rename_i stm hmg
       refine O5 (n:=n) (sg:=sg) (cl:=cl) hd (fun hr=>by simp_all) (fun w hw fA a lA l j hl hc hj hjl hjE=> ?_) _ fA c.w (Below.refl _ _) a lA l rfl hl hc;rw[hrd]at hjE;obtain⟨b,hb1,hb2⟩:=adZ hmg hl.rel.wf _ (List.mem_map.2 ⟨j,hjE,rfl⟩);refine Fv (c:=c.at_ w) hT hd (hsq Unit) hS hl.fit hj hl.pst hjl hl.rel hb1 fun c' st' a' l' k1 e1 k2 k3 k5 k4=> ?_;exact wC hT hd hsq hS hU hxS hxU nE hS hxS (Q:=Q) _ log c' st' k1 (fun c'' st'' a'' q1 q2 q3=>by
        cases q1;obtain⟨c3,r3,m3,w3⟩:=q2.tidy cl;have:=hb2 r3.wf;subst this;rw[<-w3];exact hQ c3 _ a'' h r3 ((Cx.Le.ext hw).mono.trans (k4.trans (q3.trans m3)))) fA a' _ l' (after w a' lA l l' j c' st' a hl hj hjl e1 k2 k3 k5) (by have:=Jh hl.sA hj;omega)
      ·cases h
theorem agi (hT:TOk P T) (hm:P.follows .mixedOrders=true) (hd:mQ ops=true) (hsq: ∀R:Type,nN (R:=R) P (GR sg cl)) {callS:gK St} (hS:mi P W0 n callS) {callU:gK Unit} (hU:mi P W0 n callU) (hxS:xK sg callS) (hxU:xK sg callU) {R:Type} {r:R} {call:gK R} (hcall:mi P W0 n call) (hx:xK sg call) {id nE:Nat} {K:St->Option R} {Q:Exit->Act->World->Prop}
  (h:mD T cl sg callS callU ops nE call (Array.replicate ops.size false) [] st K=some r) (hr:iY W0 b0 rd c st a ats) (hQ: ∀c' st' a',K st'=some r->iY W0 b0 rd c' st' a' ats->c.Mono c'->Q .normal a' c'.w):
  (Code.region id ops true).wpIn (FW rd) n P Q a c.w:=by
 have hext:GK c {c.w with drawn:=c.w.drawn+1}:=⟨rfl,rfl,rfl,ah _,fun _ _=>rfl⟩;have hr2:=hr.ext hext;have h2:=wC (Q:=fun a w=>Q .normal a w) hT hd hsq hS hU hxS hxU nE hcall hx _ [] (c.at_ {c.w with drawn:=c.w.drawn+1}) st h (fun c' st' a' k1 k2 k3=>hQ c' st' a' k1 k2 ((Cx.Le.ext hext).mono.trans k3)) ops.size a
  (Array.replicate ops.size false) [] ⟨hr2,trivial,trivial,by simp,by simp,fun j hj=>hj,fun j hj=>.inl hj,(fun k hk=>by cases hk),(fun k hk=>by cases hk)⟩ (by
   grind [acj])
 exact Code.wpIn_mono (fun e a w he=>by simp_all) (wpIn_region_any hm h2)
end
end
section
open Bool renaming and_eq_true → af
open List renaming mem_cons_of_mem → aA, nil_append → aH
open Nat renaming le_trans → aW
open Go.RowKit
section
variable {P:Program} {T:TT} {W0:World} {b0:Nat} {rd:Option Nat} {R:Type} {r:R} {ats:List (Array Value)}
theorem apR {F:Fence} {n:Nat} {Q:Exit->Act->World->Prop} {a:Act} {w:World} {e:Ex} {cd:Code} (he:e.code=some cd) (h:Q e.xt a w):cd.wpIn F n P Q a w:=by
 cases e<;>simp only[Ex.code,Option.some.injEq,reduceCtorEq]at he<;>subst he
 ·exact wpIn_exit h
 ·exact wpIn_goto h
 ·exact wpIn_ret h
theorem RU {n:Nat} {F:St->(Ex->St->Option R)->Option R} {K:Ex->St->Option R} {Q:Exit->Act->World->Prop} {code:Code} {kp:Option dZ}
  (hF: ∀(K':Ex->St->Option R) (Q':Exit->Act->World->Prop) (c:Cx) (st:St) (a:Act),F st K'=some r->iY W0 b0 rd c st a ats->b0<=c.w.heap.size->(∀e c' st' a',K' e st'=some r->iY W0 b0 rd c' st' a' ats->c.Mono c'->Q' e.xt a' c'.w)->code.wpIn (FW rd) n P Q' a c.w)
  {c:Cx} {st:St} {a:Act} (m:Nat) (h:iter kp F m st K=some r) (hr:iY W0 b0 rd c st a ats) (hb:b0<=c.w.heap.size) (hQ: ∀e c' st' a',K e st'=some r->iY W0 b0 rd c' st' a' ats->c.Mono c'->Q e.xt a' c'.w):
  (Code.loop code).wpIn (FW rd) n P Q a c.w:=by
 refine wpIn_loop_ghost (fun m a w=> ∃c' st',iter kp F m st' K=some r/\iY W0 b0 rd c' st' a ats/\c.Mono c'/\c'.w=w) m ⟨c,st,h,hr,Cx.Mono.refl c,rfl⟩ ?_;rintro m a w ⟨c1,st1,h1,hr1,hm1,rfl⟩;cases m with
 |zero=>simp[iter]at h1
 |succ m=>
  simp only[iter]at h1;refine hF _ _ c1 st1 a h1 hr1 (aW hb hm1.size) fun e c2 st2 a2 h2 hr2 hm2=> ?_;cases e with
  |normal=>
   simp only at h2;simp only[Ex.xt,Exit.then];cases kp with
   |none=>exact⟨m,Nat.lt_succ_self m,c2,st2,h2,hr2,hm1.trans hm2,rfl⟩
   |some k=>
    simp only at h2;split at h2
    ·rename_i st3 h3
     obtain⟨c3,hr3,hm3,hw3⟩:=pX hr2 h3;exact⟨m,Nat.lt_succ_self m,c3,st3,h2,hr3,(hm1.trans hm2).trans hm3,hw3⟩
    ·cases h2
  |ret=>
   simp only at h2;simp only[Ex.xt,Exit.then];cases kp with
   |none=>exact hQ .ret c2 st2 a2 h2 hr2 (hm1.trans hm2)
   |some k=>
    simp only at h2;split at h2
    ·rename_i st3 h3
     obtain⟨c3,hr3,hm3,hw3⟩:=Xb hr2 h3;rw[<-hw3];exact hQ .ret c3 st3 a2 h2 hr3 ((hm1.trans hm2).trans hm3)
    ·cases h2
  |exit id=>
   simp only at h2;simp only[Ex.xt,Exit.then];cases kp with
   |none=>exact hQ (.exit id) c2 st2 a2 h2 hr2 (hm1.trans hm2)
   |some k=>
    simp only at h2;split at h2
    ·rename_i st3 h3
     obtain⟨c3,hr3,hm3,hw3⟩:=pX hr2 h3;rw[<-hw3];exact hQ (.exit id) c3 st3 a2 h2 hr3 ((hm1.trans hm2).trans hm3)
    ·cases h2
  |goto l=>
   simp only at h2;simp only[Ex.xt,Exit.then];cases kp with
   |none=>exact hQ (.goto l) c2 st2 a2 h2 hr2 (hm1.trans hm2)
   |some k=>
    simp only at h2;split at h2
    ·rename_i st3 h3
     obtain⟨c3,hr3,hm3,hw3⟩:=pX hr2 h3;rw[<-hw3];exact hQ (.goto l) c3 st3 a2 h2 hr3 ((hm1.trans hm2).trans hm3)
    ·cases h2
theorem Vz {n:Nat} {F:St->(Ex->St->Option R)->Option R} {K:Ex->St->Option R} {Q:Exit->Act->World->Prop} {code:Code} {kp:Option dZ}
  (hF: ∀(K':Ex->St->Option R) (Q':Exit->Act->World->Prop) (c:Cx) (st:St) (a:Act),F st K'=some r->iY W0 b0 rd c st a ats->b0<=c.w.heap.size->(∀e c' st' a',K' e st'=some r->iY W0 b0 rd c' st' a' ats->c.Mono c'->Q' e.xt a' c'.w)->code.wpIn (FW rd) n P Q' a c.w)
  {c:Cx} {st:St} {a:Act} (m:Nat) (h:iter kp (Dz F) m st (uP 999999 K)=some r) (hr:iY W0 b0 rd c st a ats) (hb:b0<=c.w.heap.size) (hQ: ∀e c' st' a',K e st'=some r->iY W0 b0 rd c' st' a' ats->c.Mono c'->Q e.xt a' c'.w):
  code.wpIn (FW rd) n P Q a c.w:=by
 cases m with
 |zero=>simp[iter]at h
 |succ m=>
  simp only[iter,Dz]at h;refine hF _ _ c st a h hr hb fun e c2 st2 a2 h2 hr2 hm2=> ?_;cases e with
  |normal=>
   simp only at h2;cases kp with
   |none=>
    simp only[uP,beq_self_eq_true,cond_true]at h2;exact hQ .normal c2 st2 a2 h2 hr2 hm2
   |some k=>
    simp only at h2;split at h2
    ·rename_i st3 h3
     obtain⟨c3,hr3,hm3,hw3⟩:=pX hr2 h3;simp only[uP,beq_self_eq_true,cond_true]at h2;rw[<-hw3];exact hQ .normal c3 st3 a2 h2 hr3 (hm2.trans hm3)
    ·cases h2
  |ret=>
   simp only at h2;cases kp with
   |none=>exact hQ .ret c2 st2 a2 h2 hr2 hm2
   |some k=>
    simp only at h2;split at h2
    ·rename_i st3 h3
     obtain⟨c3,hr3,hm3,hw3⟩:=Xb hr2 h3;rw[<-hw3];exact hQ .ret c3 st3 a2 h2 hr3 (hm2.trans hm3)
    ·cases h2
  |exit id=>
   simp only at h2;rw[cond_eq_ite]at h2;split at h2
   ·cases h2
   ·rename_i hid
    have hne:(id==999999)=false:=by
     cases hh:(id==999999)with
     |false=>rfl
     |true=>exact absurd (by rw[beq_iff_eq]at hh;rw[hh];rfl) hid
    cases kp with
    |none=>
     simp only[uP,hne,cond_false]at h2;exact hQ (.exit id) c2 st2 a2 h2 hr2 hm2
    |some k=>
     simp only at h2;split at h2
     ·rename_i st3 h3
      obtain⟨c3,hr3,hm3,hw3⟩:=pX hr2 h3;simp only[uP,hne,cond_false]at h2;rw[<-hw3];exact hQ (.exit id) c3 st3 a2 h2 hr3 (hm2.trans hm3)
     ·cases h2
  |goto l=>
   simp only at h2;cases kp with
   |none=>exact hQ (.goto l) c2 st2 a2 h2 hr2 hm2
   |some k=>
    simp only at h2;split at h2
    ·rename_i st3 h3
     obtain⟨c3,hr3,hm3,hw3⟩:=pX hr2 h3;rw[<-hw3];exact hQ (.goto l) c3 st3 a2 h2 hr3 (hm2.trans hm3)
    ·cases h2
theorem zT {n:Nat} {f:FuncId} {args:Array Value} {w:World} {Rr:Ending->World->Prop} (h:Calls P f args w Rr):CallsIn (FW rd) n P f args w Rr:=(callsIn_wide (n:=n)).2 h
theorem aeo {n:Nat} {f:FuncId} {cl:Bool} {ex:nH R} (hex:uY P W0 ex) {fv:Operand} {ps:Array Tmp} {jC bd:Code} {K:Ex->St->Option R} {Q:Exit->Act->World->Prop} {c:Cx} {st:St} {a:Act} {g:FuncId} {caps:List bV}
  (hgv:bY c (.fn g caps) (a.eval fv))
  {ky:Option Nat} (hky: ∀k,ky=some k->rC f k=some (jC,bd))
  (h:alloc cl (some (700000+ps.toList.headD 0)) (.lp f st.fr ps.toList jC bd ky 0 none) st (fun id st=>
    ex (.call g (.yld id::caps)) {st with stk:=[.yld id]::st.stk} fun _ st=>match st.stk with
     |[.yld id]::stk=>match dR st.hp id with
      |some (.lp _ _ _ _ _ _ 0 none)=>K .normal {st with stk:=stk,hp:=ji st.hp id .dead}
      |some (.lp _ _ _ _ _ _ 1 (some e))=>K e {st with stk:=stk,hp:=ji st.hp id .dead}
      |_=>none
     |_=>none)=some r)
  (hr:iY W0 b0 rd c st a ats) (hb:b0<=c.w.heap.size) (hQ: ∀e c' st' a',K e st'=some r->iY W0 b0 rd c' st' a' ats->c.Mono c'->Q e.xt a' c'.w):
  (Code.rangeFunc fv ps jC bd).wpIn (FW rd) n P Q a c.w:=by
 obtain⟨id,n',h3,h4,h5,h⟩:=jk h;simp only[bY]at hgv;obtain⟨vs,hgv,hcaps⟩:=hgv;refine wpIn_rangeFunc fun fn _=> ?_;obtain⟨mark,c1,hc1,hr1,hm1,hle01,hen⟩: ∃(mark:List Deferred) (c1:Cx),c1.hp=c.hp/\iY W0 b0 rd c1 st {a with defers:=mark++a.defers} ats/\c.Mono c1/\c.Le0 c1/\
   ∃L:Loop,L.tmps=a.tmps/\L.params=ps/\L.assign=jC/\L.body=bd/\L.state=.ready/\L.pending=none/\(Instr.enterLoop fn a.tmps ps jC bd rd).run P c.w=.ok (c1.w.heap.size,mark) (c1.w.alloc (.loop L)):=by
  cases rd with
  |none=>
   obtain⟨hle,hok⟩:=aud hr.ok;refine⟨[mkD c.w.heap.size],{c with w:=c.w.alloc (.deferred (some [])),mks:=c.w.heap.size::c.mks},rfl,⟨hr.hp,hr.nxt,hok,bQ.le hle _ _ hr.fr,Dk.le hle _ _ hr.stk, ?_,fun l hl=>by cases hl⟩,hle.mono,hle.le0,{state:=.ready,pending:=none,fn,tmps:=a.tmps,params:=ps,assign:=jC,body:=bd,defers:=c.w.heap.size},rfl,rfl,rfl,rfl,rfl,rfl, ?_⟩
   ·obtain⟨ds,e1,e2,e3⟩:=hr.df;refine⟨c.w.heap.size::ds,by simp[e1],List.nodup_cons.2 ⟨fun hm=> ?_,e2⟩,fun x hx=> ?_⟩
    ·have:=hr.ok.mark_lt (e3 _ hm).1;omega
    ·rcases List.mem_cons.1 hx with e|e
     ·subst e;exact⟨by simp,hb⟩
     ·exact⟨aA _ (e3 x e).1,(e3 x e).2⟩
   ·have:=run_enterLoop_outer (P:=P) (w:=c.w) fn a.tmps ps jC bd;rw[this,World.size_alloc];rfl
  |some l0=>
   obtain⟨L0,hL0⟩:=hr.rd l0 rfl;exact⟨[],c,rfl,hr,Cx.Mono.refl c,(Cx.Le.refl c).le0,{state:=.ready,pending:=none,fn,tmps:=a.tmps,params:=ps,assign:=jC,body:=bd,defers:=L0.defers},rfl,rfl,rfl,rfl,rfl,rfl,run_enterLoop_inner hL0 fn a.tmps ps jC bd⟩
 obtain⟨L,q1,q2,q3,q4,q5,q6,q7⟩:=hen;subst q2 q3 q4;obtain⟨c2,hd,hw2,hy,_⟩:=aEw hr1.ok (st:=st) hr1.hp hr1.nxt h3 h4 h5 (f:=f) (fr:=st.fr) (L:=L) (by rw[q1];exact hr1.fr) q5 q6 hky;have hr2:=hr1.did hd;have hm2:c.Mono c2:=hm1.trans hd.le.mono;have hr2':iY W0 b0 rd c2 {st with stk:=[.yld id]::st.stk,hp:=(id,.lp f st.fr L.params.toList L.assign L.body ky 0 none)::st.hp,nxt:=n'} {a with defers:=mark++a.defers} (#[.func (.yield c1.w.heap.size) #[] #[]]::ats):=
  ⟨hr2.hp,hr2.nxt,hr2.ok,hr2.fr,⟨by simpa [bQ] using hy,hr2.stk⟩,hr2.df,hr2.rd⟩
 have hcaps2:bQ c2 caps vs.toList:=bQ.le hd.le _ _ (bQ.le0 hle01 _ _ hcaps);have hcall:=hex g (.yld id::caps) _ _ r h b0 rd c2 {a with defers:=mark++a.defers} (#[.func (.yield c1.w.heap.size) #[] #[]]::ats) (#[.func (.yield c1.w.heap.size) #[] #[]]++vs) hr2' (by simp only[Array.toList_append,List.cons_append,aH,bQ];exact⟨hy,hcaps2⟩)
  (rangePost (FW rd) n P c1.w.heap.size Q {a with defers:=mark++a.defers}) (by
   intro c3 z u st3 hK hr3 _ hm3;have hstk:=hr3.stk;split at hK
   ·rename_i id3 stk3 hs3
    rw[hs3]at hstk;obtain⟨hy3,hstk⟩:=hstk;simp only[bQ,and_true]at hy3;have hget3: ∀{o},dR st3.hp id3=some o->dR c3.hp id3=some o:=fun {o} ho=>by rw[hr3.hp];exact ho
    simp only[bY]at hy3;split at hK
    ·rename_i f3 fr3 ps3 asg3 bd3 ky3 hg3
     obtain⟨_,hB,L3,hL3,hv3,e1,e2,e3,e4,e5⟩:=hr3.ok.obj id3 _ (hget3 hg3);have hblk:=hy3.2.2 _ _ _ _ _ _ _ _ (hget3 hg3);have hblk:c1.w.heap.size=(c3.mu id3).blk:=by simpa using hblk
     obtain⟨c4,p1,p2,p3,p4,p5,p6⟩:=IP hr3.ok (hget3 hg3) hL3 {L3 with state:=.exhausted,pending:=none} (o':=.dead) (.inl rfl);refine⟨_,_,(by rw[hblk];exact run_endLoop hL3 (by rw[e4];decide)), ?_⟩;rw[e5];simp only;rw[<-p5];refine hQ .normal c4 _ _ hK ⟨by rw[p1,hr3.hp],by rw[p2,hr3.nxt],p4,bQ.le p3 _ _ hr3.fr,Dk.le p3 _ _ hstk, ?_, ?_⟩ ((hm2.trans hm3).trans p3.mono)
     ·obtain⟨ds,w1,w2,w3⟩:=hr3.df;exact⟨ds,w1,w2,fun x hx=>⟨by rw[p6];exact(w3 x hx).1,(w3 x hx).2⟩⟩
     ·intro l hl;obtain⟨Ll,hLl⟩:=hr3.rd l hl;exact p3.lp l Ll hLl
    ·rename_i f3 fr3 ps3 asg3 bd3 ky3 e0 hg3
     obtain⟨_,hB,L3,hL3,hv3,e1,e2,e3,e4,e5,e6⟩:=hr3.ok.obj id3 _ (hget3 hg3);have hblk:=hy3.2.2 _ _ _ _ _ _ _ _ (hget3 hg3);have hblk:c1.w.heap.size=(c3.mu id3).blk:=by simpa using hblk
     refine⟨_,_,(by rw[hblk];exact run_endLoop hL3 (by rw[e4];decide)), ?_⟩;rw[e5];cases he0:e0.code with
     |none=>exact absurd he0 e6
     |some cd=>
      obtain⟨c4,p1,p2,p3,p4,p5,p6⟩:=IP hr3.ok (hget3 hg3) hL3 {L3 with state:=.exhausted,pending:=some cd} (o':=.dead) (.inl rfl);simp only;refine apR he0 ?_;rw[<-p5];refine hQ e0 c4 _ _ hK ⟨by rw[p1,hr3.hp],by rw[p2,hr3.nxt],p4,bQ.le p3 _ _ hr3.fr,Dk.le p3 _ _ hstk, ?_, ?_⟩ ((hm2.trans hm3).trans p3.mono)
      ·obtain⟨ds,w1,w2,w3⟩:=hr3.df;exact⟨ds,w1,w2,fun x hx=>⟨by rw[p6];exact(w3 x hx).1,(w3 x hx).2⟩⟩
      ·intro l hl;obtain⟨Ll,hLl⟩:=hr3.rd l hl;exact p3.lp l Ll hLl
    ·cases hK
   ·cases hK)
 refine⟨c1.w.heap.size,mark,c1.w.alloc (.loop L),{target:=.fn (.func g) vs,args:= #[.func (.yield c1.w.heap.size) #[] #[]]},c1.w.alloc (.loop L),g,#[.func (.yield c1.w.heap.size) #[] #[]]++vs,c1.w.alloc (.loop L),q7, ?_,fun _ _=>trivial, ?_,ui rd, ?_⟩
 ·have hev:a.eval (.const (.func (.yield c1.w.heap.size) #[] #[]))=.func (.yield c1.w.heap.size) #[] #[]:=rfl;simp only[resolve,hgv];simp[go_sem,hev]
 ·have:=hcall.1;rw[hw2]at this;simp only[invoke];exact this
 ·have:=hcall.2;rw[hw2]at this;exact zT this
def Xg {R:Type} (E:Env) (ex:nH R) (exd:Xh) (f:FuncId) (c:Code) (L:dI):Prop:=
 ∀(r:R) (st:St) (v:L.V) (K:Ex->St->Option R),(∀slots owns st1,LC slots owns st=some st1->WfH st1.hp)->L.get st=some v->
  (bM (L.spec v) fun o=>dV o (fun a=>K (L.exA v) (L.stA st v a)) fun b=>K (L.exB v) (L.stB st v b))=some r->
  ∃m st1,(match E.kp f (dH c)with|none=>st1=st|some k=>LC k.slots k.owns st=some st1)/\iter (E.kp f (dH c)) (run E ex exd f c) m st1 K=some r
def ae2 {R:Type} (E:Env) (ex:nH R) (exd:Xh) (f:FuncId) (c:Code) (L:dI):Prop:=
 ∀(r:R) (st:St) (v:L.V) (K:Ex->St->Option R),(∀slots owns st1,LC slots owns st=some st1->WfH st1.hp)->L.get st=some v->
  (bM (L.spec v) fun o=>dV o (fun a=>K (L.exA v) (L.stA st v a)) fun b=>K (L.exB v) (L.stB st v b))=some r->
  ∃m st1,(match E.kp f (800000+dH c)with|none=>st1=st|some k=>LC k.slots k.owns st=some st1)/\iter (E.kp f (800000+dH c)) (Dz (run E ex exd f c)) m st1 K=some r
def jA {R:Type} (E:Env) (ex:nH R) (exd:Xh) (f:FuncId):Code->Prop
 |.seq a b=>(jA E ex exd f a/\ ∀L,E.lp f (800000+dH b)=some L->L.dep.ble E.dp=true->ae2 E ex exd f b L)/\jA E ex exd f b
 |.cond _ a b=>jA E ex exd f a/\jA E ex exd f b
 |.block _ c=>jA E ex exd f c
 |.scope c=>jA E ex exd f c
 |.loop c=>jA E ex exd f c/\ ∀L,E.lp f (dH c)=some L->L.dep.ble E.dp=true->Xg E ex exd f c L
 |.rangeFunc _ _ jC bd=>jA E ex exd f jC/\jA E ex exd f bd/\(E.rf f (dH bd)=true->rC f (dH bd)=some (jC,bd))
 |_=>True
theorem iR {E:Env} {ex:nH R} {exd:Xh} {f:FuncId} (h: ∀id,E.lp f id=none) (h2: ∀id,E.rf f id=false): ∀c:Code,jA E ex exd f c
 |.seq a b=>⟨⟨iR h h2 a,fun L hL=>by rw[h]at hL;cases hL⟩,iR h h2 b⟩
 |.cond _ a b=>⟨iR h h2 a,iR h h2 b⟩
 |.block _ c=>iR (E:=E) h h2 c
 |.scope c=>iR (E:=E) h h2 c
 |.loop c=>⟨iR h h2 c,fun L hL=>by rw[h]at hL;cases hL⟩
 |.rangeFunc _ _ a b=>⟨iR h h2 a,iR h h2 b,fun h3=>by rw[h2]at h3;cases h3⟩
 |.skip|.label _|.region _ _ _|.exit _|.goto _|.ret|.refuse _=>trivial
def VE (E:Env) (n:Nat):Xh:=⟨fun j st=>exec E n (R:=bV) j st fun v _=>some v,exec E n,exec E n⟩
def dX (E:Env) (f:FuncId) (c:Code) (L:dI):Prop:=
 ∀(R:Type) (m:Nat),Xg (R:=R) (E.at (m+L.dep)) (exec E (m+L.dep)) (VE E (m+L.dep)) f c L
def zM (E:Env) (f:FuncId) (c:Code) (L:dI):Prop:=
 ∀(R:Type) (m:Nat),ae2 (R:=R) (E.at (m+L.dep)) (exec E (m+L.dep)) (VE E (m+L.dep)) f c L
def dU (E:Env) (f:FuncId) (c:Code):Prop:= ∀(R:Type) (m:Nat),jA (R:=R) (E.at m) (exec E m) (VE E m) f c
theorem jU {E:Env} {f:FuncId} (h: ∀id,E.lp f id=none) (h2: ∀id,E.rf f id=false) (c:Code):dU E f c:=fun R m=>iR (E:=E.at m) h h2 c
theorem Nj (hT:TOk P T) (hm:P.follows .mixedOrders=true) {n:Nat} {E:Env} (hET:E.T=T) {f:FuncId} {ex:nH R} {exd:Xh} (hcall:mi P W0 n (wQ E ex)) (hq:nN (R:=R) P (QV E exd.q)) (hex:uY P W0 ex) (hS:mi P W0 n (wQ E exd.s)) (hU:mi P W0 n (wQ E exd.u)) (hsq: ∀R:Type,nN (R:=R) P (GR E.sg E.cl)):
  ∀(code:Code),jA E ex exd f code-> ∀(K:Ex->St->Option R) (Q:Exit->Act->World->Prop) (c:Cx) (st:St) (a:Act),run E ex exd f code st K=some r->iY W0 b0 rd c st a ats->b0<=c.w.heap.size->
   (∀e c' st' a',K e st'=some r->iY W0 b0 rd c' st' a' ats->c.Mono c'->Q e.xt a' c'.w)->code.wpIn (FW rd) n P Q a c.w:=by
 subst hET;intro code
 induction code with
 |skip=>intro _ K Q c st a h hr hb hQ;exact wpIn_skip (hQ .normal c st a h hr (Cx.Mono.refl c))
 |label l=>intro _ K Q c st a h hr hb hQ;exact wpIn_label (hQ .normal c st a h hr (Cx.Mono.refl c))
 |region id ops draw=>
  intro _ K Q c st a h hr hb hQ;simp only[run]at h;have htrim: ∃fr',Gg (E.kp f (600000+id)) st={st with fr:=fr'}/\bQ c fr' a.tmps.toList:=by
   cases E.kp f (600000+id)with
   |none=>exact⟨st.fr,rfl,hr.fr⟩
   |some k=>exact⟨_,rfl,Ak _ _ _ hr.fr⟩
  obtain⟨fr',e1,e2⟩:=htrim;rw[e1]at h;replace hr:iY W0 b0 rd c {st with fr:=fr'} a ats:=⟨hr.hp,hr.nxt,hr.ok,e2,hr.stk,hr.df,hr.rd⟩;generalize ({st with fr:=fr'}:St)=st at h hr;cases draw with
  |true=>
   simp only[cond_true]at h;rw[cond_eq_ite]at h;split at h
   ·rename_i hok
    simp only[af]at hok;exact NT hT hm hq hok.1 h hr fun c' st' a' h'=>hQ .normal c' st' a' h'
   ·split at h
    ·rename_i l hpl
     exact Vd hT hm hcall hpl h hr fun c' st' a' h'=>hQ .normal c' st' a' h'
    ·rw[cond_eq_ite]at h;split at h
     ·rename_i hok
      simp only[af]at hok;exact NT hT hm hq hok.1 h hr fun c' st' a' h'=>hQ .normal c' st' a' h'
     replace h:=dJ h;exact agi hT hm h.1 hsq hS hU Xt Xt hcall Xt h.2 hr fun c' st' a' h'=>hQ .normal c' st' a' h'
  |false=>
   simp only[cond_false]at h;exact wpIn_region_list (MS hT hcall ops ops.toList c st a h hr fun c' st' a' h'=>hQ .normal c' st' a' h')
 |seq x y ihx ihy=>
  intro hl K Q c st a h hr hb hQ;replace ihx:=ihx hl.1.1;replace ihy:=ihy hl.2;simp only[run]at h;refine wpIn_seq (ihx _ _ c st a h hr hb fun e c' st' a' h' hr' hm'=> ?_);cases e with
  |normal=>
   have hb':=aW hb hm'.size;have hQ': ∀e c'' st'' a'',K e st''=some r->iY W0 b0 rd c'' st'' a'' ats->c'.Mono c''->Q e.xt a'' c''.w:=fun e c'' st'' a'' h'' hr'' hm''=>hQ e c'' st'' a'' h'' hr'' (hm'.trans hm'');have fin: ∀(kp:Option dZ) (m:Nat) (st1:St),(match kp with|none=>st1=st'|some k=>LC k.slots k.owns st'=some st1)->iter kp (Dz (run E ex exd f y)) m st1 (uP 999999 K)=some r->y.wpIn (FW rd) n P Q a' c'.w:=by
    intro kp m st1 h1 h2;cases kp with
    |none=>simp only at h1;rw[h1]at h2;exact Vz ihy m h2 hr' hb' hQ'
    |some k=>
     obtain⟨c1,hr1,hm1,hw1⟩:=pX hr' h1;rw[<-hw1];exact Vz ihy m h2 hr1 (aW hb' hm1.size) fun e c'' st'' a'' h'' hr'' hm''=>hQ' e c'' st'' a'' h'' hr'' (hm1.trans hm'')
   simp only[aF3,cutAt]at h';split at h'
   ·rename_i L hL
    replace h':=dJ h';obtain⟨hdp,h'⟩:=h';split at h'
    ·rename_i v hv
     obtain⟨m,st1,h1,h2⟩:=hl.1.2 L hL hdp r st' v (uP 999999 K) (fun slots owns st1 ht=>let⟨c1,hr1,_,_⟩:=pX hr' ht;hr1.wf) hv h';exact fin _ m st1 h1 h2
    ·cases h'
   ·split at h'
    ·exact ihy _ _ c' st' a' h' hr' hb' hQ'
    ·rename_i k hk
     split at h'
     ·rename_i st1 h1
      exact fin (some k) bU st1 h1 h'
     ·cases h'
  |exit id=>exact hQ (.exit id) c' st' a' h' hr' hm'
  |goto l=>exact hQ (.goto l) c' st' a' h' hr' hm'
  |ret=>exact hQ .ret c' st' a' h' hr' hm'
 |cond cnd x y ihx ihy=>
  intro hl K Q c st a h hr hb hQ;replace ihx:=ihx hl.1;replace ihy:=ihy hl.2;simp only[run]at h;have hv:=dQ hr.fr cnd;split at h
  ·rename_i b hb'
   rw[hb']at hv;simp only[bY]at hv;have hv:=hv.bool_inv;cases b with
   |true=>exact wpIn_cond_true hv (ihx _ _ c st a h hr hb hQ)
   |false=>exact wpIn_cond_false hv (ihy _ _ c st a h hr hb hQ)
  ·cases h
 |block id x ih=>
  intro hl K Q c st a h hr hb hQ;replace ih:=ih hl;simp only[run]at h;refine wpIn_block (ih _ _ c st a h hr hb fun e c' st' a' h' hr' hm'=> ?_);cases e with
  |normal=>exact hQ .normal c' st' a' h' hr' hm'
  |exit i=>
   simp only[uP]at h';simp only[Ex.xt,Exit.inBlock];rw[cond_eq_ite]at h';split at h'
   ·rename_i hi
    have hi:i=id:=by simpa using hi
    rw[if_pos hi];exact hQ .normal c' st' a' h' hr' hm'
   ·rename_i hi
    have hi:i≠id:=by simpa using hi
    rw[if_neg hi];exact hQ (.exit i) c' st' a' h' hr' hm'
  |goto l=>exact hQ (.goto l) c' st' a' h' hr' hm'
  |ret=>exact hQ .ret c' st' a' h' hr' hm'
 |loop x ih=>
  intro hl K Q c st a h hr hb hQ;replace ih:=ih hl.1;have fin: ∀(kp:Option dZ) (m:Nat) (st1:St),(match kp with|none=>st1=st|some k=>LC k.slots k.owns st=some st1)->iter kp (run E ex exd f x) m st1 K=some r->(Code.loop x).wpIn (FW rd) n P Q a c.w:=by
   intro kp m st1 h1 h2;cases kp with
   |none=>simp only at h1;rw[h1]at h2;exact RU ih m h2 hr hb hQ
   |some k=>
    obtain⟨c1,hr1,hm1,hw1⟩:=pX hr h1;rw[<-hw1];exact RU ih m h2 hr1 (aW hb hm1.size) fun e c' st' a' h' hr' hm'=>hQ e c' st' a' h' hr' (hm1.trans hm')
  simp only[run]at h;split at h
  ·rename_i L hL
   replace h:=dJ h;obtain⟨hdp,h⟩:=h;split at h
   ·rename_i v hv
    obtain⟨m,st1,h1,h2⟩:=hl.2 L hL hdp r st v K (fun slots owns st1 ht=>let⟨c1,hr1,_,_⟩:=pX hr ht;hr1.wf) hv h;exact fin _ m st1 h1 h2
   ·cases h
  ·split at h
   ·exact fin none bU st rfl h
   ·rename_i k hk
    split at h
    ·rename_i st1 h1
     exact fin (some k) bU st1 h1 h
    ·cases h
 |exit id=>intro _ K Q c st a h hr hb hQ;exact wpIn_exit (hQ (.exit id) c st a h hr (Cx.Mono.refl c))
 |goto l=>intro _ K Q c st a h hr hb hQ;exact wpIn_goto (hQ (.goto l) c st a h hr (Cx.Mono.refl c))
 |ret=>intro _ K Q c st a h hr hb hQ;exact wpIn_ret (hQ .ret c st a h hr (Cx.Mono.refl c))
 |scope x ih=>
  intro hl K Q c st a h hr hb hQ;replace ih:=ih hl;simp only[run]at h;refine ahG (ih _ _ c st a h hr hb fun e c' st' a' h' hr' hm'=> ?_);cases e with
  |normal=>exact⟨(fun l e=>by cases e),hQ .normal c' st' a' h' hr' hm'⟩
  |exit i=>exact⟨(fun l e=>by cases e),hQ (.exit i) c' st' a' h' hr' hm'⟩
  |goto l=>simp[aty]at h'
  |ret=>exact⟨(fun l e=>by cases e),hQ .ret c' st' a' h' hr' hm'⟩
 |rangeFunc fv ps jC bd _ _=>
  intro hl K Q c st a h hr hb hQ;simp only[run]at h;split at h
  ·rename_i g caps hfv
   have hky: ∀k,(bif E.rf f (dH bd)then some (dH bd)else none)=some k->rC f k=some (jC,bd):=fun k hk=>by
    cases hrf:E.rf f (dH bd)with
    |false=>rw[hrf]at hk;cases hk
    |true=>rw[hrf]at hk;cases hk;exact hl.2.2 hrf
   have htrim: ∃fr',Gg (E.kp f (500000+dH bd)) st={st with fr:=fr'}/\bQ c fr' a.tmps.toList:=by
    cases E.kp f (500000+dH bd)with
    |none=>exact⟨st.fr,rfl,hr.fr⟩
    |some k=>exact⟨_,rfl,Ak _ _ _ hr.fr⟩
   obtain⟨fr',e1,e2⟩:=htrim;rw[e1]at h;have hgv:=dQ hr.fr fv;rw[hfv]at hgv;exact aeo (st:={st with fr:=fr'}) hex hgv hky h ⟨hr.hp,hr.nxt,hr.ok,e2,hr.stk,hr.df,hr.rd⟩ hb hQ
  ·cases h
 |refuse s=>intro _ K Q c st a h hr hb hQ;simp[run]at h
end
end
section
open Nat renaming le_refl → ah
open Go.RowKit
section
variable {P:Program} {T:TT} {W0:World} {b0:Nat} {rd:Option Nat} {R:Type} {r:R} {c:Cx} {ats:List (Array Value)}
theorem abb (hok:c.Ok W0) {x:bV} {e:Ty} {ys:List e.den} {u:Value} (h:x.as c.hp (.list e)=some ys) (hx:bY c x u) {a:Option Addr} {m cp:Nat} (hu:u=.slice a m cp):m<=cp:=by
 subst hu;cases x with
 |val t' z=>
  simp only[bV.as]at h;have e:=iM h;subst e;simp only[bY]at hx;obtain⟨a',n,zs,h1,h2,h3,h4⟩:=pK hx;cases h1;exact h2
 |nils=>
  simp only[bY]at hx;cases hx;omega
 |lst t' z b=>
  simp only[bV.as]at h;have e:=iM h;cases e;simp only[bY]at hx;obtain⟨a',n,zs,h1,h2,h3,h4⟩:=pK hx.1;cases h1;exact h2
 |emp=>
  simp only[bY]at hx;obtain⟨a2,h2⟩:=hx;cases h2;omega
 |slc id ver vw=>
  simp only[bV.as,BC]at h;split at h
  ·rename_i t' v xs harr
   replace h:=dJ h;obtain⟨hv,h⟩:=h;have hv:v=ver:=by simpa using hv
   subst hv;simp only[bY]at hx;have hx1:=(hx.2.2 _ _ _ harr).2 rfl;obtain⟨_,e',zs,hown,hL,hty⟩:=hok.obj id _ harr;obtain⟨a0,cp0,hv,hn,hcell⟩:=rD hown;cases vw with
   |none=>
    simp only[jb]at hx1;rw[hv]at hx1;cases hx1;exact hn
   |some p=>
    obtain⟨lo,hi⟩:=p;simp only[jb]at hx1;obtain⟨a',m',cp',hv',p1,p2,p3,hx1⟩:=hx1;rw[hv]at hv';cases hv';cases hx1;omega
  ·cases h
 |agg l=>simp[bV.as,Ty.isAgg]at h
 |_=>simp[bV.as]at h
def ap3 (c cb:Cx):Prop:= ∀b,b<c.w.heap.size->cb.free b/\cb.w.heap[b]? =c.w.heap[b]?
theorem Fz (hok:c.Ok W0) {cb:Cx} (hs:ap3 c cb) {x:bV} {e:Ty} {ys:List e.den} {u:Value} (h:x.as c.hp (.list e)=some ys) (hx:bY c x u):VD cb (.list e) ys u:=by
 obtain⟨a,cp,zs,h1,h2,h3⟩:=abd hok h hx;have h4:=abb hok h hx h1;refine(VD.leaf rfl).2 ⟨a,cp,zs,by rw[h1],h4,gz.mono (fO.mono (fun b hb=>hs b hb.1) e) _ _ h2,h3.imp id fun⟨b,off,q1,q2,q3⟩=>⟨b,off,q1,(hs b q2).1,q3.of_block (hs b q2).2⟩⟩
theorem alo (hok:c.Ok W0) {cb:Cx} (hs:ap3 c cb) {v v':bV} {u:Value} (h:Vs c.hp v=some v') (hv:bY c v u):bY cb v' u:=by
 cases v with
 |val t x=>
  simp only[Vs,Option.some.injEq]at h;subst h;simp only[bY]at hv ⊢;exact⟨fun e=>let⟨cs,h1,h2⟩:=hv.1 e;⟨cs,h1,fO.mono (fun b hb=>hs b hb.1) t x _ h2⟩,fun e=>fO.mono (fun b hb=>hs b hb.1) t x _ (hv.2 e)⟩
 |nils=>
  simp only[Vs,Option.some.injEq]at h;subst h;simpa only[bY] using hv
 |slc id ver vw=>
  simp only[Vs]at h;split at h
  ·rename_i t w xs hg
   rw[cond_eq_ite]at h;split at h
   ·rename_i hver
    cases h;simp only[bY];refine Fz hok hs (x:=.slc id ver vw) ?_ hv;simp only[bV.as,BC,hg,hver,cond_true,gW]
   ·cases h
  ·cases h
 |_=>simp[Vs]at h
theorem QA (hok:c.Ok W0) {cb:Cx} (hs:ap3 c cb): ∀(l l':List bV) (us:List Value),Qz c.hp l=some l'->bQ c l us->bQ cb l' us
 |[],l',[],h,_=>by simp only[Qz,Option.some.injEq]at h;subst h;simp[bQ]
 |v::l,l',u::us,h,hv=>by
  simp only[Qz]at h;split at h
  ·rename_i v1 h1
   split at h
   ·rename_i l1 h2
    cases h;simp only[bQ]at hv ⊢;exact⟨alo hok hs h1 hv.1,QA hok hs l l1 us h2 hv.2⟩
   ·cases h
  ·cases h
 |[],_,_::_,_,hv=>by simp[bQ]at hv
 |_::_,_,[],_,hv=>by simp[bQ]at hv
def Cx.base (c:Cx) (w:World) (bar:Nat->Prop):Cx:=⟨c.mu,[],c.nxt,w,[],bar⟩
theorem awS {w:World} {bar:Nat->Prop} (hphi:Phi w) (hb: ∀b,bar b->b<w.heap.size):(c.base w bar).Ok w:=
 ⟨Below.refl _ _,fun id o h=>by simp[Cx.base,dR]at h,fun i j o p b h=>by simp[Cx.base,dR]at h,fun r hr=>by simp[Cx.base]at hr,fun b h=>⟨hb b h,(by rintro ⟨i,o,h,_⟩;simp[Cx.base,dR]at h),by simp[Cx.base]⟩,hphi⟩
theorem als {w:World} {bar:Nat->Prop} {b:Nat}:(c.base w bar).free b↔b<w.heap.size/\ ¬bar b:=by
 constructor
 ·intro h;exact⟨h.1,h.2.2.2⟩
 ·rintro ⟨h1,h2⟩;exact⟨h1,(by rintro ⟨i,o,h,_⟩;simp[Cx.base,dR]at h),by simp[Cx.base],h2⟩
theorem aqa {w:World} {bar:Nat->Prop} (hphi:Phi w) (hb: ∀b,bar b->b<w.heap.size) {nx:Nat} (hn:nx=c.nxt):iY w 0 none (c.base w bar) ⟨[],[],[],nx⟩ ⟨#[],[]⟩ []:=
 ⟨rfl,hn.symm,awS hphi hb,by simp[bQ],trivial,⟨[],rfl,List.nodup_nil,fun r hr=>by simp at hr⟩,fun l hl=>by cases hl⟩
theorem ORel.le0 {B:Nat} {c c':Cx} {id:Nat} {o:dN} (h:c.ORel B id o) (hl:c.Le0 c') (hm:c'.mu id=c.mu id) (hb: ∀b,o.blk (c.mu id)=some b->c'.w.heap[b]? =c.w.heap[b]?):c'.ORel B id o:=by
 cases o with
 |box e cs=>
  obtain⟨h1,vs,h2,h3,h4⟩:=h;refine⟨by rw[hm];exact h1,vs,by rw[hm,hb _ rfl];exact h2,bQ.le0 hl _ _ h3,h4⟩
 |arr t ver xs=>
  obtain⟨h0,e,zs,h1,h2,h3⟩:=h;refine⟨h0,e,zs, ?_,gz.mono (fO.mono hl.free t) _ _ h2,h3⟩;rw[hm];exact AA h1 fun b hb'=>hb b hb'
 |lp f fr ps jC bd ky n p=>
  obtain⟨h0,h1,L,h2,h3,h4⟩:=h;exact⟨h0,by rw[hm];exact h1,L,by rw[hm,hb _ rfl];exact h2,bQ.le0 hl _ _ h3,h4⟩
 |dead=>trivial
 |mp kk vk es=>
  obtain⟨h1,ms,cl,h2,h3⟩:=h;exact⟨by rw[hm];exact h1,ms,cl,by rw[hm,hb _ rfl];exact h2,h3⟩
theorem Cx.Le0.trans {a b c:Cx} (h:a.Le0 b) (k:b.Le0 c):a.Le0 c:=
 ⟨fun x hx=>⟨(k.out x (h.out x hx).1).1,(k.out x (h.out x hx).1).2.trans (h.out x hx).2⟩,fun i hi=>k.ref i (h.ref i hi),fun i o hi ho=>by
  obtain⟨o1,h1,h2⟩:=k.obj i o (h.ref i hi) ho;obtain⟨o2,h3,h4⟩:=h.obj i o1 hi h1;exact⟨o2,h3,dN.like_trans h4 h2⟩,k.bar.trans h.bar⟩
theorem Uu {n:Nat} {fn:Func} {tmps:Array Value} {Rr:Ending->World->Prop}: ∀(ds:List Nat) (c:Cx),c.Ok W0->ds.Nodup->(∀r∈ds,r∈c.mks)->
  ∃c',c'.hp=c.hp/\c'.nxt=c.nxt/\c.Le0 c'/\c'.Ok W0/\(∀r∈c.mks,r∉ds->r∈c'.mks)/\(∀(b:Nat) (L:Loop),c.w.heap[b]? =some (Obj.loop L)-> ∃L':Loop,c'.w.heap[b]? =some (Obj.loop L'))/\c.w.heap.size<=c'.w.heap.size/\c'.bar=c.bar/\
   (LeavesIn (FW none) n P fn tmps Rr [] .returning c'.w->LeavesInM (FW none) n P fn tmps Rr (ds.map mkD) .returning c.w)
 |[],c,hok,_,_=>⟨c,rfl,rfl,(Cx.Le.refl c).le0,hok,fun r hr _=>hr,fun b L hL=>⟨L,hL⟩,ah _,rfl,fun h=>h⟩
 |d::ds,c,hok,hnd,hmem=>by
  obtain⟨hnd1,hnd2⟩:=List.nodup_cons.1 hnd;have hd:=hmem d (by simp);have hdk:=hok.mks d hd;have hlt:=hok.mark_lt hd
  let c1:Cx:={c with w:=c.w.putObj d (.deferred none),mks:=c.mks.filter fun r=>r !=d}
  have hother: ∀b,b≠d->c1.w.heap[b]? =c.w.heap[b]? :=fun b hb=>World.putObj_heap_other hb;have hle:c.Le0 c1:=⟨fun b hb=>⟨⟨by simpa [c1] using hb.1,hb.2.1,(fun hm=>hb.2.2 (List.mem_filter.1 hm).1)⟩,hother b fun e=>hb.2.2 (e▸hd)⟩,fun _ h=>h,fun id o _ ho=>⟨o,ho,o.like_refl _⟩,rfl⟩;have hok1:c1.Ok W0:=by
   refine⟨⟨hok.bel.os,hok.bel.tape,hok.bel.output,by simpa [c1] using hok.bel.size,fun j hj=>(hother j (by have:=hdk.1;omega)).trans (hok.bel.block j hj)⟩,fun id o ho=>ORel.le0 (hok.obj id o ho) hle rfl fun b hb=>hother b fun e=> ?_,hok.inj,fun r hr=> ?_,fun b hb=>(hle.out b (hok.bar b hb)).1,hok.phi⟩
   ·subst e;exact(hok.obj id o ho).no_mark hb hdk.2
   ·obtain⟨hr1,hr2⟩:=List.mem_filter.1 hr;have hr2:r≠d:=by simpa using hr2
    exact⟨(hok.mks r hr1).1,(hother r hr2).trans (hok.mks r hr1).2⟩
  obtain⟨c2,e1,e2,e3,e4,e5,e6,e7,ebar,e8⟩:=Uu (n:=n) (fn:=fn) (tmps:=tmps) (Rr:=Rr) ds c1 hok1 hnd2 fun r hr=>List.mem_filter.2 ⟨hmem r (by simp[hr]),by
   have:r≠d:=fun e=>hnd1 (e▸hr);simpa using this⟩
  refine⟨c2,e1,e2,hle.trans e3,e4,fun r hr hr2=> ?_,fun b L hL=> ?_, ?_,ebar,fun h=> ?_⟩
  ·simp only[List.mem_cons,not_or]at hr2;exact e5 r (List.mem_filter.2 ⟨hr,by simpa using hr2.1⟩) hr2.2
  ·have:b≠d:=fun e=>by subst e;rw[hdk.2]at hL;cases hL
   exact e6 b L ((hother b this).trans hL)
  ·have:c.w.heap.size=c1.w.heap.size:=by simp[c1]
   omega
  ·exact⟨by simp,.inl ⟨d,_,rfl,run_takeDeferred hdk.2,e8 h⟩⟩
theorem atH {t:TypeId} {v u:Value} {w w':World} (h:(Instr.loadAt t v).run P w=.ok u w'):(do loadVar t (<-asAddr v):Sem Value).run P w=.ok u w':=by
 unfold Instr.loadAt at h;cases v<;>try (simp[Instr.sureAddr,stuck,Sem.run_bind,Result.andThen]at h;done)
 rename_i p
 cases p<;>first|exact h|(simp[Instr.sureAddr,stuck,Sem.run_bind,Result.andThen]at h)
def MZ (tmps:Array Value):ResultVar->Sem Value
 |.tmp t=>pure (tmps.getD t undef)
 |.cell a t=>do loadVar t (<-asAddr (tmps.getD a undef))
theorem zD (hT:TOk P T) (hok:c.Ok W0) {st:St} {tmps:Array Value} (hhp:c.hp=st.hp) (hfr:bQ c st.fr tmps.toList): ∀(l:List ResultVar) (K:List bV->Option R),sD T st l K=some r->
  ∃vs us,K vs=some r/\bQ c vs us/\(l.mapM (MZ tmps)).run P c.w=.ok us c.w
 |[],K,h=>⟨[],[],h,by simp[bQ],rfl⟩
 |.tmp t::l,K,h=>by
  simp only[sD]at h;obtain⟨vs,us,h1,h2,h3⟩:=zD hT hok hhp hfr l _ h;refine⟨_,tmps.getD t undef::us,h1,by simp only[bQ];exact⟨hfr.getD t,h2⟩, ?_⟩;simp only[List.mapM_cons,Sem.run_bind,MZ,Sem.run_pure,Result.andThen_ok,h3]
 |.cell a t::l,K,h=>by
  simp only[sD]at h;rw[<-hhp]at h;obtain⟨z,u,h1,h2,h3⟩:=auF hT hok h (hfr.getD a);obtain⟨vs,us,h4,h5,h6⟩:=zD hT hok hhp hfr l _ h1;refine⟨_,u::us,h4,by simp only[bQ];exact⟨h2,h5⟩, ?_⟩;have h7:=atH (h3 c.w (Below.refl _ _));simp only[List.mapM_cons,Sem.run_bind,MZ]at h7 ⊢;rw[h7];simp only[Result.andThen_ok,Sem.run_bind,h6,Sem.run_pure]
def Na:List Value->Value
 |[v]=>v
 |vs=>.tuple vs.toArray
theorem AC {vs:List bV} {us:List Value} (h:bQ c vs us):bY c (KI vs) (Na us):=by
 match vs,us,h with
 |[],[],h=>simp only[KI,Na,bY];exact⟨_,rfl,by simp[bQ]⟩
 |[v],[u],h=>simpa [KI,Na,bQ] using h
 |v::v2::vs,u::u2::us,h=>simp only[KI,Na,bY];exact⟨_,rfl,by simpa using h⟩
 |[],_::_,h=>simp[bQ]at h
 |_::_,[],h=>simp[bQ]at h
 |[_],_::_::_,h=>simp[bQ]at h
 |_::_::_,[_],h=>simp[bQ]at h
theorem aet {fn:Func} {tmps:Array Value} {us:List Value} {w:World} (h:(fn.results.toList.mapM (MZ tmps)).run P w=.ok us w):(results fn tmps).run P w=.ok (Na us) w:=by
 have e:results fn tmps=(do let vs<-fn.results.mapM (MZ tmps);pure (if h:vs.size=1 then vs[0]else .tuple vs)):=rfl;have h2:(fn.results.mapM (MZ tmps)).run P w=.ok us.toArray w:=by
  rw[Array.mapM_eq_mapM_toList,Sem.run_map,h];rfl
 rw[e,Sem.run_bind,h2]
 match us with
 |[]=>rfl
 |[v]=>rfl
 |v::v2::vs=>rfl
end
end
section
open Bool renaming and_eq_true → af, false_eq_true → aj
open List renaming append_nil → aK
open Nat renaming eq_of_beq_eq_true → au, lt_of_lt_of_le → bI
open Go.RowKit
def Ja (P:Program):Prop:= ∀(f:FuncId) (fn:Func) (c:Code),P.funcs[f]? =some fn->fn.body=some c->(fn.name== "runtime.NumGoroutine")=false
def Dt {R:Type} (P:Program) (W0:World) (ex:nH R):Prop:=
 ∀(id:Nat) (args:List bV) (st:St) (K:bV->St->Option R) (r:R),ex (.yield id args) st K=some r->
  ∀(b0:Nat) (rd:Option Nat) (c:Cx) (a:Act) (ats:List (Array Value)) (args':Array Value),iY W0 b0 rd c st a ats->bQ c args args'.toList->
   (∃f fr ps jC bd ky k p,dR st.hp id=some (.lp f fr ps jC bd ky k p))/\
   ∀Rr:Ending->World->Prop,(∀c' z u st',K z st'=some r->iY W0 b0 rd c' st' a ats->bY c' z u->c.Mono c'->Rr (.returned u) c'.w)->
    ∀n,∃g tmps jC bd,(Instr.yield (c.mu id).blk args').run P c.w=.ok (.round (c.mu id).blk g tmps jC bd) c.w/\RoundIn (FW rd) n P (c.mu id).blk g tmps jC bd c.w Rr
def ES {R:Type} (g:FuncId) (s:Sum) (cl:Bool):gK R:=fun fv args dst st K=>match fv with
 |.fn g' caps=>if g'=g then s.call cl (args++caps) dst st K else none
 |_=>none
def Bo (P:Program) (g:FuncId):Prop:= ∀(w:World) (b:Nat),w.shape? b=some (Vw,2)->w.frozen? ⟨b,0,none⟩=false->
 (callFunc g #[.pointer (some ⟨b,0,none⟩)]).run P w=.ok (.enter g #[.pointer (some ⟨b,0,none⟩)]) w/\
 (w.cell? ⟨b,0,none⟩=some (.pointer (some ⟨b,0,none⟩))->Calls P g #[.pointer (some ⟨b,0,none⟩)] w fun e w'=>e=.returned (.tuple #[])/\w'=w)/\
 (w.cell? ⟨b,0,none⟩=some (.pointer none)->Calls P g #[.pointer (some ⟨b,0,none⟩)] w fun e w'=>e=.returned (.tuple #[])/\w'=w.setCell ⟨b,0,none⟩ (.pointer (some ⟨b,0,none⟩)))
def NK {R:Type} (g:FuncId) (s:gX) (cl:Bool):gK R:=fun fv args dst st K=>match fv with
 |.fn g' caps=>if g'=g then s.call cl (args++caps) st K else none
 |_=>none
structure wP (P:Program) (E:Env):Prop where
 T:TOk P E.T
 x: ∀(R:Type) (W0:World) (n:Nat) (g:FuncId) (s:gX),E.sb g=some s->mi (R:=R) P W0 n (NK g s E.cl)
 b: ∀g,E.bf g=true->Bo P g
 v: ∀(R:Type) (W0:World) (n:Nat) (g:FuncId) (s:Sum),E.sg g=some s->mi (R:=R) P W0 n (ES g s E.cl)
 q: ∀(R:Type) (g:FuncId) (s:Sum),E.sg g=some s->(s.rs.all fun r=> !r.2&&r.1.rigid)=true->nN (R:=R) P (ES g s E.cl)
section
variable {P:Program} {T:TT} {W0:World} {b0:Nat} {rd:Option Nat} {R:Type} {r:R} {c:Cx} {ats:List (Array Value)}
theorem BA (hng:Ja P) {f:FuncId} {fn:Func} {cd:Code} (hf:P.funcs[f]? =some fn) (hb:fn.body=some cd) (args:Array Value) (w:World):(callFunc f args).run P w=.ok (.enter f args) w:=by
 have h1:=hng f fn cd hf hb;unfold callFunc;simp only[go_sem,Sem.run_bind,program,Sem.run,hf,h1,hb,Option.isNone_some,aj,if_false,Result.andThen_ok];rfl
theorem qp {g:FuncId} {vs args:Array Value} {w:World}:(do let d<-Deferred.ofValue (.func (.func g) #[] vs) args;invoke d.target d.args:Sem Next).run P w=(callFunc g (args++vs)).run P w:=by
 simp[Deferred.ofValue,invoke,Sem.run_bind]
theorem RQ {g:FuncId} {vs args:Array Value} {w:World}:(do let d<-Deferred.ofValue (.func (.func g) vs #[]) args;invoke d.target d.args:Sem Next).run P w=(callFunc g (vs++args)).run P w:=by
 simp[Deferred.ofValue,invoke,Sem.run_bind]
theorem Ya {l:Nat} {args:Array Value} {w:World}:(do let d<-Deferred.ofValue (.func (.yield l) #[] #[]) args;invoke d.target d.args:Sem Next).run P w=(Instr.yield l args).run P w:=by
 simp[Deferred.ofValue,invoke,Sem.run_bind]
theorem bQ.append_arr {l m:List bV} {xs ys:Array Value} (h:bQ c l xs.toList) (k:bQ c m ys.toList):bQ c (l++m) (xs++ys).toList:=by
 rw[Array.toList_append];exact bQ.append _ _ _ _ h k
theorem VU: ∀(h:gZ) (i:Nat) (o:dN),dR h i=some o->ji h i o=h
 |[],_,_,_=>rfl
 |(k,p)::h,i,o,hg=>by
  rw[eu]at hg;simp only[ji];by_cases e:k=i
  ·subst e;simp only[if_true,Option.some.injEq]at hg;subst hg;simp
  ·rw[if_neg e]at hg;have e':(k==i)=false:=by simpa using e
   simp[e',VU h i o hg]
theorem ach {g:FuncId} (hT:TOk P T) (hg:Bo P g) {args:List bV} {st:St} {K:bV->St->Option R} (h:QM T args st K=some r) {a:Act} (hr:iY W0 b0 rd c st a ats) {us:Array Value} (hv:bQ c args us.toList)
  (Rr:Ending->World->Prop) (hR: ∀c' z u st',K z st'=some r->iY W0 b0 rd c' st' a ats->bY c' z u->c.Mono c'->Rr (.returned u) c'.w):
  (callFunc g us).run P c.w=.ok (.enter g us) c.w/\Calls P g us c.w Rr:=by
 unfold QM at h;split at h<;>try (cases h;done)
 rename_i id
 split at h<;>try (cases h;done)
 rename_i t i i1 v1 w1 hbx
 replace h:=dJ h;obtain⟨hc,h⟩:=h;simp only[af]at hc;obtain⟨hi,hk,hb⟩:=hc;have hi:i=id:=au hi;subst hi;have ht:=hT.bldr hk hb;rw[<-hr.hp]at hbx;obtain⟨hB,vs,hw,hvs,hone⟩:=hr.ok.obj i _ hbx;obtain⟨us⟩:=us
 match us,hv with
 |[u],hv=>
  simp only[bQ,bY,and_true]at hv;have hu:=hv.2.2 _ _ hbx;subst hu;obtain⟨vs⟩:=vs
  match vs,hvs with
  |[p,q],hvs=>
   simp only[bQ,and_true]at hvs;have hself:=hvs.1;simp only[bY]at hself;have hself:=hself.2.2 _ _ hbx;rw[ht]at hw;have hw':c.w.heap[(c.mu i).blk]? =some (.cells #[p,q] Vw (0,0)):=hw;have hcell:c.w.cell? ⟨(c.mu i).blk,0,none⟩=some p:=by simp[World.cell?,hw']
   obtain⟨h1,h2,h3⟩:=hg c.w (c.mu i).blk (by simp[World.shape?,hw']) (by simp[World.frozen?,hw']);refine⟨h1, ?_⟩;have hunit: ∀c',bY c' (.tup []) (.tuple #[]):=fun c'=>by simp only[bY];exact⟨#[],rfl,by simp[bQ]⟩
   rcases hself with e|e
   ·subst e;refine(h3 hcell).mono ?_;rintro e w' ⟨rfl,rfl⟩;have hlt:(c.mu i).blk<c.w.heap.size:=(Array.getElem?_eq_some_iff.1 hw').1;have hwn:(c.w.setCell ⟨(c.mu i).blk,0,none⟩ (.pointer (some ⟨(c.mu i).blk,0,none⟩))).heap[(c.mu i).blk]? =some (.cells #[.pointer (some ⟨(c.mu i).blk,0,none⟩),q] Vw (0,0)):=by
     simp[World.setCell,Array.getElem?_modify,hw']
    have hother: ∀b,(c.mu i).blk≠b->(c.w.setCell ⟨(c.mu i).blk,0,none⟩ (.pointer (some ⟨(c.mu i).blk,0,none⟩))).heap[b]? =c.w.heap[b]? :=fun b hb=>by
     simp[World.setCell,Array.getElem?_modify,hb]
    have hsz:(c.w.setCell ⟨(c.mu i).blk,0,none⟩ (.pointer (some ⟨(c.mu i).blk,0,none⟩))).heap.size=c.w.heap.size:=by simp[World.setCell]
    have hlp: ∀(b:Nat) (L:Loop),(dN.box t [.slf i,.slc i1 v1 w1]).blk (c.mu i)=some b->c.w.heap[b]? =some (Obj.loop L)-> ∃L':Loop,(c.w.setCell ⟨(c.mu i).blk,0,none⟩ (.pointer (some ⟨(c.mu i).blk,0,none⟩))).heap[b]? =some (Obj.loop L'):=fun b L hb hL=>absurd hL ((hr.ok.obj i _ hbx).no_loop (by simp) hb);have hbb: ∀b,b<c.w.heap.size->(dN.box t [.slf i,.slc i1 v1 w1]).blk (c.mu i)≠some b->(c.w.setCell ⟨(c.mu i).blk,0,none⟩ (.pointer (some ⟨(c.mu i).blk,0,none⟩))).heap[b]? =c.w.heap[b]? :=fun b _ hne=>hother b fun e=>hne (by simp[dN.blk,e]);have hll: ∀b,(dN.box t [.slf i,.slc i1 v1 w1]).blk (c.mu i)=some b->(dN.box t [.slf i,.slc i1 v1 w1]).blk (c.mu i)=some b\/c.w.heap.size<=b:=fun b hb=>.inl hb;have hBel:Below W0.heap.size W0 (c.w.setCell ⟨(c.mu i).blk,0,none⟩ (.pointer (some ⟨(c.mu i).blk,0,none⟩))):=
     ⟨hr.ok.bel.os,hr.ok.bel.tape,hr.ok.bel.output,by rw[hsz];exact hr.ok.bel.size,fun b hb=>(hother b (by omega)).trans (hr.ok.bel.block b hb)⟩
    have hlike:=dN.like_refl (.box t [.slf i,.slc i1 v1 w1]) (c.mu i);have hle:=Cx.Le.put hr.ok hbx hlike (Nat.le_of_eq hsz.symm) hbb hll hlp;have hd:Dj W0 c st (c.put i (.box t [.slf i,.slc i1 v1 w1]) (c.mu i) (c.w.setCell ⟨(c.mu i).blk,0,none⟩ (.pointer (some ⟨(c.mu i).blk,0,none⟩)))) st:=by
     refine⟨by simp only[Cx.put];rw[VU _ _ _ hbx,hr.hp],hr.nxt,rfl,rfl,Cx.Ok.put hr.ok hbx hlike hBel (Nat.le_of_eq hsz.symm) hbb hll hlp ?_,hle⟩;refine⟨by simp only[Cx.put,upd_same];exact hB,#[.pointer (some ⟨(c.mu i).blk,0,none⟩),q], ?_, ?_, ?_⟩
     ·simp only[Cx.put,upd_same];rw[ht];exact hwn
     ·simp only[bQ,and_true];refine⟨?_,bY.le hle _ _ hvs.2⟩;simp only[bY];exact⟨rfl,.inl ⟨_,Cx.put_get hbx⟩,fun _ _ _=>.inr (by simp[Cx.put,upd_same])⟩
     ·intro u hu;simp only[List.mem_cons,List.not_mem_nil,or_false]at hu;rcases hu with rfl|rfl
      ·rfl
      ·exact hone _ (by simp)
    exact hR _ (.tup []) (.tuple #[]) st h (hr.did hd) (hunit _) hle.mono
   ·subst e;refine(h2 hcell).mono ?_;rintro e w' ⟨rfl,rfl⟩;exact hR c (.tup []) (.tuple #[]) st h hr (hunit _) (Cx.Mono.refl c)
theorem kT {E:Env} (hS:wP P E) {ex:nH R} (hc:uY P W0 ex) (hy:Dt P W0 ex) (n:Nat):mi P W0 n (wQ E ex):=by
 intro b0 rd fv args dst st K r h c a ats fv' args' hr hfv hargs o next Q hn
 cases fv with
 |fn g caps=>
  simp only[wQ]at h;split at h
  ·rename_i s hs
   exact hS.v R W0 n g s hs b0 rd (.fn g caps) args dst st K r (by simp only[ES,if_true];exact h) c a ats fv' args' hr hfv hargs o next Q hn
  split at h
  ·rename_i s hs
   exact hS.x R W0 n g s hs b0 rd (.fn g caps) args dst st K r (by simp only[NK,if_true];exact h) c a ats fv' args' hr hfv hargs o next Q hn
  ·rw[cond_eq_ite]at h;split at h
   ·rename_i hbf
    simp only[bY]at hfv;obtain⟨vs,rfl,hcaps⟩:=hfv;obtain⟨h1,h2⟩:=ach hS.T (hS.b g hbf) h hr (us:=args'++vs) (bQ.append_arr hargs hcaps)
     (fun e w''=>match e with
      |.returned v=>next (a.put o.dst v) w''
      |.panicked chain=>Q (.panic chain) a w''
      |.outgrown=>LetsOut Q) (fun c' z u st' k1 k2 k3 k4=>hn c' z u st' k1 k2 k3 k4)
    rw[qp,h1];exact⟨ui rd,(zT h2).mono fun e w'' he=>by cases e<;>exact he⟩
   simp only[bY]at hfv;obtain⟨vs,rfl,hcaps⟩:=hfv;obtain⟨h1,h2⟩:=hc g (args++caps) st K r h b0 rd c a ats (args'++vs) hr (bQ.append_arr hargs hcaps)
    (fun e w''=>match e with
     |.returned v=>next (a.put o.dst v) w''
     |.panicked chain=>Q (.panic chain) a w''
     |.outgrown=>LetsOut Q) (fun c' z u st' k1 k2 k3 k4=>hn c' z u st' k1 k2 k3 k4)
   rw[qp,h1];exact⟨ui rd,(zT h2).mono fun e w'' he=>by cases e<;>exact he⟩
 |mfn g fst=>
  simp only[wQ]at h;simp only[bY]at hfv;obtain⟨vs,rfl,hfst⟩:=hfv;split at h
  ·rename_i s hs
   have h0:=hS.x R W0 n g s hs b0 rd (.fn g []) (fst++args) dst st K r (by simp only[NK,if_true,aK];exact h) c a ats (.func (.func g) #[] #[]) (vs++args') hr (by simp only[bY];exact⟨#[],rfl,by simp[bQ]⟩) (bQ.append_arr hfst hargs) o next Q hn
   rw[qp]at h0;rw[RQ];simpa using h0
  obtain⟨h1,h2⟩:=hc g (fst++args) st K r h b0 rd c a ats (vs++args') hr (bQ.append_arr hfst hargs)
   (fun e w''=>match e with
    |.returned v=>next (a.put o.dst v) w''
    |.panicked chain=>Q (.panic chain) a w''
    |.outgrown=>LetsOut Q) (fun c' z u st' k1 k2 k3 k4=>hn c' z u st' k1 k2 k3 k4)
  rw[RQ,h1];exact⟨ui rd,(zT h2).mono fun e w'' he=>by cases e<;>exact he⟩
 |yld id=>
  simp only[wQ]at h;obtain⟨⟨f,fr,ps,jC,bd,ky,k,p,hg⟩,h2⟩:=hy id args st K r h b0 rd c a ats args' hr hargs;simp only[bY]at hfv;have:=hfv.2.2 f fr ps jC bd ky k p (by rw[hr.hp];exact hg);subst this;obtain⟨g,tmps,jC,bd,h3,h4⟩:=h2
    (fun e w''=>match e with
     |.returned v=>next (a.put o.dst v) w''
     |.panicked chain=>Q (.panic chain) a w''
     |.outgrown=>LetsOut Q) (fun c' z u st' k1 k2 k3 k4=>hn c' z u st' k1 k2 k3 k4) (n-1)
  rw[Ya,h3];exact⟨ui rd,h4.mono fun e w'' he=>by cases e<;>exact he⟩
 |_=>simp[wQ]at h
theorem Dw {E:Env} (hS:wP P E) {exR:nH bV} (hc: ∀W0,uY P W0 exR):nN (R:=R) P (QV E fun j st=>exR j st fun v _=>some v):=by
 intro W0 b0 rd fv args dst st K r h c a ats fv' args' hr hfv hargs;cases fv with
 |fn g caps=>
  cases caps with
  |nil=>
   simp only[QV]at h;split at h
   ·rename_i s hs
    rw[cond_eq_ite]at h;split at h
    ·rename_i hall
     exact hS.q R g s hs hall W0 b0 rd (.fn g []) args dst st K r (by simp only[ES,if_true,aK];exact h) c a ats fv' args' hr hfv hargs
    ·cases h
   ·split at h
    ·rename_i args2 ha2
     split at h
     ·rename_i v hv
      rw[cond_eq_ite]at h;split at h
      ·rename_i hrig
       simp only[bY]at hfv;obtain⟨vs,rfl,hcaps⟩:=hfv;have hvs:vs= #[]:=by
        have:=bQ.length _ _ hcaps;simp at this;exact Array.eq_empty_of_size_eq_zero this.symm
       subst hvs;refine⟨v,rv v,h,(IM hrig _).2 rfl,fun w' hw'=>.inl ⟨g,args', ?_⟩⟩;have hbr:iY w' 0 none (c.base w' fun _=>False) ⟨[],[],[],st.nxt⟩ ⟨#[],[]⟩ []:=aqa (Phi.below hw' hr.ok.phiw) (fun b h=>h.elim) hr.nxt.symm;have hsees:ap3 c (c.base w' fun _=>False):=fun b hb=>⟨als.2 ⟨bI hb hw'.size,fun h=>h⟩,hw'.block b hb⟩;obtain⟨h1,h2⟩:=hc w' g args2 _ _ v hv 0 none _ _ [] args' hbr (QA hr.ok hsees _ _ _ (by rw[hr.hp];exact ha2) hargs)
        (fun e w''=>e=.returned (rv v)/\GK c w'') (fun c' z u st' k1 k2 k3 k4=>by
         simp only[Option.some.injEq]at k1;subst k1;refine⟨by rw[(IM hrig u).1 k3], ?_⟩;exact hw'.trans (k2.ok.bel.mono hw'.size))
       refine⟨?_,h2⟩;rw[qp,Array.append_empty];exact h1
      ·cases h
     ·cases h
    ·cases h
  |cons _ _=>simp[QV]at h
 |_=>simp[QV]at h
theorem Hf: ∀k,bQ c (List.replicate k (.tup [])) (List.replicate k undef)
 |0=>by simp[bQ]
 |k+1=>by
  simp only[List.replicate_succ,bQ,bY];exact⟨⟨#[],rfl,by simp[bQ]⟩,Hf k⟩
theorem aa3 {l:Nat} {Rr:Ending->World->Prop} {e:Ex} {a:Act} {w:World} (h: ∃v w',(Instr.endRound l e.code).run P w=.ok v w'/\Rr (.returned v) w'):roundPost P l Rr e.xt a w:=by
 cases e<;>exact h
theorem Hu: ∀(ps:List Nat) (fr args:List bV) (args':List Value) (tmps:Array Value),bQ c fr tmps.toList->bQ c args args'->bQ c (sG fr ps args) ((ps.zip args').foldl (fun tmps (t,a)=>tmps.setIfInBounds t a) tmps).toList
 |[],fr,args,args',tmps,h,_=>by cases args<;>simpa [sG] using h
 |p::ps,fr,[],[],tmps,h,_=>by simpa [sG] using h
 |p::ps,fr,v::args,u::args',tmps,h,hv=>by
  simp only[bQ]at hv;simp only[sG,List.zip_cons_cons,List.foldl_cons];refine Hu ps _ args args' _ ?_ hv.2;rw[Array.toList_setIfInBounds];exact bQ.set hv.1 p _ _ h
 |p::ps,fr,[],_::_,tmps,h,hv=>by simp[bQ]at hv
 |p::ps,fr,_::_,[],tmps,h,hv=>by simp[bQ]at hv
end
end
section
open _root_.Array renaming length_toList → bH
open Bool renaming and_eq_true → af
open List renaming append_nil → aK
open Nat renaming le_refl → ah, le_trans → aW
open Go.RowKit
section
variable {P:Program} {T:TT} {W0:World} {b0:Nat} {rd:Option Nat} {R:Type} {r:R} {c:Cx} {ats:List (Array Value)}
def sV (P:Program) (E:Env):Prop:= ∀(f:FuncId) (fn:Func) (c:Code),P.funcs[f]? =some fn->fn.body=some c->dU E f c
def ae3 (E:Env):Prop:= ∀f k jC bd,rC f k=some (jC,bd)->dU E f jC/\dU E f bd
theorem ry {E:Env} {ex:nH R} {exd:Xh} {f:FuncId} {k:Nat} {x y:Code}: ∀c:Code,jA E ex exd f c->IK c k=some (x,y)->jA E ex exd f x/\jA E ex exd f y
 |.rangeFunc _ _ jC bd,hl,h=>by
  simp only[IK]at h;split at h
  ·cases h;exact⟨hl.1,hl.2.1⟩
  ·split at h
   ·rename_i z hz;cases h;exact ry jC hl.1 hz
   ·exact ry bd hl.2.1 h
 |.seq a b,hl,h=>by
  simp only[IK]at h;split at h
  ·rename_i z hz;cases h;exact ry a hl.1.1 hz
  ·exact ry b hl.2 h
 |.cond _ a b,hl,h=>by
  simp only[IK]at h;split at h
  ·rename_i z hz;cases h;exact ry a hl.1 hz
  ·exact ry b hl.2 h
 |.block _ c,hl,h=>ry c hl h
 |.loop c,hl,h=>ry c hl.1 h
 |.scope c,hl,h=>ry c hl h
 |.skip,_,h|.label _,_,h|.region _ _ _,_,h|.exit _,_,h|.goto _,_,h|.ret,_,h|.refuse _,_,h=>by simp[IK]at h
theorem azL {P:Program} {E:Env} (h:sV P E): ∀f k jC bd,aE2 P f k=some (jC,bd)->dU E f jC/\dU E f bd:=fun f k jC bd hr=>by
 unfold aE2 at hr;split at hr
 ·rename_i fn hf
  split at hr
  ·rename_i c hb
   exact⟨fun R m=>(ry c (h f fn c hf hb R m) hr).1,fun R m=>(ry c (h f fn c hf hb R m) hr).2⟩
  ·cases hr
 ·cases hr
theorem abT {P:Program} {E:Env} (h:wP P E): ∀R:Type,nN (R:=R) P (GR E.sg E.cl):=fun R W0 b0 rd fv args dst st K r hr c a ats fv' args' h1 h2 h3=>by
 unfold GR at hr;split at hr
 ·rename_i g
  split at hr
  ·rename_i s hs
   replace hr:=dJ hr;obtain⟨h4,hr⟩:=hr;simp only[af]at h4;exact h.q R g s hs h4.1 W0 b0 rd (.fn g []) args dst st K r (by simp only[ES,if_true,aK];exact hr) c a ats fv' args' h1 h2 h3
  ·cases hr
 ·cases hr
theorem wP.at {P:Program} {E:Env} (h:wP P E) (n:Nat):wP P (E.at n):=⟨h.T,h.x,h.b,h.v,h.q⟩
theorem auB {st:St} {K:St->Option R} (h:pop st K=some r): ∃fr stk,st.stk=fr::stk/\K {st with fr:=fr,stk:=stk}=some r:=by
 unfold pop at h;split at h
 ·rename_i fr stk he
  exact⟨fr,stk,he,h⟩
 ·cases h
theorem Dv {v:bV} {u:Value} {c0 c1:Cx} {st st1:St} {a:Act} {mark:Nat} (hr0:iY W0 b0 rd c0 st a ats) (hr1:c1.Ok W0) (hhp:c1.hp=st1.hp) (hnx:c1.nxt=st1.nxt) (hfr:st1.fr=[]) (hstk:Dk c1 st1.stk (a.tmps::ats))
  (hm:c0.Mono c1) (hv:bY c1 v u) {K:bV->St->Option R} (h:(match gc mark v st1 with|some st2=>pop st2 (K v)|none=>none)=some r):
  ∃c' st',K v st'=some r/\iY W0 b0 rd c' st' a ats/\bY c' v u/\c0.Mono c'/\c'.w=c1.w:=by
 have hr:iY W0 0 none c1 st1 ⟨#[],[]⟩ (a.tmps::ats):=⟨hhp,hnx,hr1,by rw[hfr];simp[bQ],hstk,⟨[],rfl,List.nodup_nil,fun r hr=>by simp at hr⟩,fun l hl=>by cases hl⟩;split at h
 ·rename_i st2 h2
  obtain⟨c2,hr2,hv2,hm2,hw2,hs2,_⟩:=hr.gc hv h2;obtain⟨fr,stk,hs,h⟩:=auB h;have hstk2:=hr2.stk;rw[hs]at hstk2;refine⟨c2,_,h,⟨hr2.hp,hr2.nxt,hr2.ok,hstk2.1,hstk2.2, ?_,fun l hl=> ?_⟩,hv2,hm.trans hm2,hw2⟩
  ·obtain⟨ds,h1,h3,h4⟩:=hr0.df;exact⟨ds,h1,h3,fun x hx=>⟨hm2.mks x (hm.mks x (h4 x hx).1),(h4 x hx).2⟩⟩
  ·obtain⟨L,hL⟩:=hr0.rd l hl;obtain⟨L1,hL1⟩:=hm.lp l L hL;exact hm2.lp l L1 hL1
 ·cases h
theorem an3 (hT:TOk P T) (hm:P.follows .mixedOrders=true) (hng:Ja P) {E:Env} (hEP:E.P=P) (hET:E.T=T) (hS:wP P E) (hlo:sV P E) (hrf:ae3 E) {m:Nat} (ih: ∀(R:Type) (W0:World),uY P W0 (exec E m (R:=R))/\Dt P W0 (exec E m (R:=R))):
  uY P W0 (exec E (m+1) (R:=R)):=by
 intro f args st K r h b0 rd c a ats args' hr hargs Rr hR;simp only[exec]at h;rw[hEP]at h;split at h
 ·cases h
 ·rename_i fn hf
  split at h
  ·cases h
  ·rename_i cd hb
   rw[cond_eq_ite]at h;split at h
   ·rename_i hle
    have hle:args.length<=fn.ntmps:=by simpa [Nat.ble_eq] using hle
    have hlen:args.length=args'.size:=by simpa using bQ.length _ _ hargs
    refine⟨BA hng hf hb args' c.w, ?_⟩;refine(callsIn_wide (n:=0)).1 (callsIn_of_wp_marks (F:=Fence.wide) (n:=0) hf hb trivial ?_);have hr1:iY W0 c.w.heap.size none c {fr:=args++List.replicate (fn.ntmps-args.length) (.tup []),stk:=st.fr::st.stk,hp:=st.hp,nxt:=st.nxt} {tmps:=args'++Array.replicate (fn.ntmps-args'.size) undef,defers:=[]} (a.tmps::ats):=by
     refine⟨hr.hp,hr.nxt,hr.ok, ?_,⟨hr.fr,hr.stk⟩,⟨[],rfl,List.nodup_nil,fun r hr=>by simp at hr⟩,fun l hl=>by cases hl⟩;refine bQ.append_arr hargs ?_;rw[Array.toList_replicate,hlen];exact Hf _
    refine Nj (rd:=none) hT hm (n:=0) (E:=E.at m) hET (kT (E:=E.at m) (hS.at m) (ih R W0).1 (ih R W0).2 0) (Dw (E:=E.at m) (hS.at m) fun W=>(ih bV W).1) (ih R W0).1 (kT (E:=E.at m) (hS.at m) (ih St W0).1 (ih St W0).2 0) (kT (E:=E.at m) (hS.at m) (ih Unit W0).1 (ih Unit W0).2 0) (abT (E:=E.at m) (hS.at m)) cd (hlo f fn cd hf hb R m) _ _ c _ _ h hr1 (ah _) fun e c1 st1 a1 h1 hr2 hm1=> ?_;have fin:(sD E.T st1 fn.results.toList fun vs=>
       let v:=match vs with
        |[v]=>v
        |vs=>.tup vs
       match gc (bif E.cl then st.nxt else 1000000*st1.stk.length) v {st1 with fr:=[]}with
       |some st2=>pop st2 (K v)
       |none=>none)=some r->LeavesInM Fence.wide 0 P fn a1.tmps Rr a1.defers .returning c1.w:=by
     intro h2;obtain⟨ds,d1,d2,d3⟩:=hr2.df;obtain⟨c2,e1,e2,e3,e4,e5,e6,e7,ebar,e8⟩:=Uu (n:=0) (P:=P) (fn:=fn) (tmps:=a1.tmps) (Rr:=Rr) ds c1 hr2.ok d2 fun x hx=>(d3 x hx).1;rw[d1];refine e8 ?_;rw[hET]at h2;obtain⟨vs,us,h3,h4,h5⟩:=zD hT e4 (e1.trans hr2.hp) (bQ.le0 e3 _ _ hr2.fr) _ _ h2;have hm2:c.Mono c2:=by
      refine⟨fun x hx=>e5 x (hm1.mks x hx) fun hd=> ?_,fun b L hL=> ?_,aW hm1.size e7,ebar.trans hm1.bar,fun b hb=>⟨(e3.out b (hm1.out b hb).1).1,(e3.out b (hm1.out b hb).1).2.trans (hm1.out b hb).2⟩⟩
      ·have h6:=(d3 x hd).2;have h7:=hr.ok.mark_lt hx;omega
      ·obtain⟨L1,hL1⟩:=hm1.lp b L hL;exact e6 b L1 hL1
     obtain⟨c3,st3,k1,k2,k3,k4,k5⟩:=Dv (v:=KI vs) (u:=Na us) hr e4 (st1:={st1 with fr:=[]}) (e1.trans hr2.hp) (e2.trans hr2.nxt) rfl (by
      have: ∀(fs:List (List bV)) (ts:List (Array Value)),Dk c1 fs ts->Dk c2 fs ts:=fun fs=>by
       induction fs with
       |nil=>intro ts h;cases ts with
        |nil=>trivial
        |cons _ _=>exact h.elim
       |cons f fs ihf=>intro ts h;cases ts with
        |nil=>exact h.elim
        |cons t ts=>exact⟨bQ.le0 e3 _ _ h.1,ihf ts h.2⟩
      exact this _ _ hr2.stk) hm2 (AC h4) (K:=K) h3
     refine⟨Na us,aet h5, ?_⟩;rw[<-k5];exact hR c3 (KI vs) (Na us) st3 k1 k2 k3 k4
    cases e with
    |normal=>exact fin h1
    |ret=>exact fin h1
    |exit i=>cases h1
    |goto l=>cases h1
   ·cases h
theorem afS (hT:TOk P T) (hm:P.follows .mixedOrders=true) (hng:Ja P) {E:Env} (hEP:E.P=P) (hET:E.T=T) (hS:wP P E) (hlo:sV P E) (hrf:ae3 E) {m:Nat} (ih: ∀(R:Type) (W0:World),uY P W0 (exec E m (R:=R))/\Dt P W0 (exec E m (R:=R))):
  Dt P W0 (exec E (m+1) (R:=R)):=by
 intro id args st K r h b0 rd c a ats args' hr hargs;simp only[exec]at h;split at h
 ·rename_i f fr0 ps jC bd ky hg
  refine⟨⟨f,fr0,ps,jC,bd,ky,0,none,hg⟩,fun Rr hR n=> ?_⟩;rw[cond_eq_ite]at h;split at h
  ·rename_i hlen
   have hlen:args.length=ps.length:=by simpa using hlen
   have hlen2:args.length=args'.size:=by simpa using bQ.length _ _ hargs
   have hg':dR c.hp id=some (.lp f fr0 ps jC bd ky 0 none):=by rw[hr.hp];exact hg
   obtain⟨hky,hB,L,hL,hv,q1,q2,q3,q4,q5⟩:=hr.ok.obj id _ hg';have hSk:wP P ((E.at m).keyed ky):=by
    cases ky with
    |none=>exact⟨hS.T,hS.x,hS.b,hS.v,hS.q⟩
    |some k=>exact hS.at m
   have hETk:((E.at m).keyed ky).T=T:=by cases ky<;>exact hET
   have⟨hloa,hlob⟩:jA ((E.at m).keyed ky) (exec E m (R:=R)) (VE E m) f jC/\jA ((E.at m).keyed ky) (exec E m (R:=R)) (VE E m) f bd:=by
    cases ky with
    |none=>exact⟨iR (fun _=>rfl) (fun _=>rfl) _,iR (fun _=>rfl) (fun _=>rfl) _⟩
    |some k=>exact⟨(hrf f k jC bd (hky k rfl)).1 R m,(hrf f k jC bd (hky k rfl)).2 R m⟩
   have hsz:args'.size=L.params.size:=by
    have:L.params.size=ps.length:=by rw[<-q1,bH]
    omega
   refine⟨_,_,_,_,run_yield hL hsz, ?_⟩;refine roundIn_of_wpIn trivial ?_;rw[q2,q3];have hyv:bY c (.yld id) (.func (.yield (c.mu id).blk) #[] #[]):=by
    simp only[bY];exact⟨rfl,.inl ⟨_,hg'⟩,fun _ _ _ _ _ _ _ _ _=>by simp⟩
   have hr1:iY W0 c.w.heap.size (some (c.mu id).blk) c {fr:=sG fr0 ps args,stk:=[.yld id]::st.fr::st.stk,hp:=st.hp,nxt:=st.nxt} {tmps:=(L.params.zip args').foldl (fun tmps (t,a)=>tmps.setIfInBounds t a) L.tmps,defers:=[]} (#[.func (.yield (c.mu id).blk) #[] #[]]::a.tmps::ats):=by
    refine⟨hr.hp,hr.nxt,hr.ok, ?_,⟨by simpa [bQ] using hyv,hr.fr,hr.stk⟩,⟨[],rfl,List.nodup_nil,fun r hr=>by simp at hr⟩,fun l hl=>by cases hl;exact⟨L,hL⟩⟩;have:=Hu ps fr0 args args'.toList L.tmps hv hargs;rw[<-Array.foldl_toList,Array.toList_zip,q1];exact this
   refine Nj (rd:=some (c.mu id).blk) hT hm (E:=(E.at m).keyed ky) hETk (kT (E:=(E.at m).keyed ky) hSk (ih R W0).1 (ih R W0).2 n) (Dw (E:=(E.at m).keyed ky) hSk fun W=>(ih bV W).1) (ih R W0).1 (kT (E:=(E.at m).keyed ky) hSk (ih St W0).1 (ih St W0).2 n) (kT (E:=(E.at m).keyed ky) hSk (ih Unit W0).1 (ih Unit W0).2 n) (abT hSk) jC hloa _ _ c _ _ h hr1 (ah _) fun e c1 st1 a1 h1 hr2 hm1=> ?_;cases e with
   |normal=>
    split at h1
    ·rename_i id1 stk1 _ hs1
     split at h1
     ·rename_i f1 fr1 ps1 asg1 bd1 ky1 hg1
      have hstk:=hr2.stk;rw[hs1]at hstk;obtain⟨hy1,_⟩:=hstk;simp only[bQ,and_true]at hy1;have hg1':=hg1;rw[<-hr2.hp]at hg1';obtain⟨hky1,hB1,L1,hL1,hv1,p1,p2,p3,p4,p5⟩:=hr2.ok.obj id1 _ hg1';simp only[bY]at hy1;have hblk:(c.mu id).blk=(c1.mu id1).blk:=by simpa using hy1.2.2 _ _ _ _ _ _ _ _ hg1'
      obtain⟨c2,e1,e2,e3,e4,e5,e6⟩:=IP hr2.ok hg1' hL1 {L1 with state:=.busy} (o':=.lp f1 fr1 ps1 asg1 bd1 ky1 2 none) (.inr ⟨2,none,rfl,rfl,rfl,rfl,rfl,rfl⟩);simp only[Ex.xt,Exit.then];refine⟨c2.w, ?_, ?_⟩
      ·rw[hblk,e5];exact run_beginRound hL1 p4
      have hm2:c.Mono c2:=hm1.trans e3.mono;have hr3:iY W0 c.w.heap.size (some (c.mu id).blk) c2 {st1 with hp:=ji st1.hp id1 (.lp f1 fr1 ps1 asg1 bd1 ky1 2 none)} a1 (#[.func (.yield (c.mu id).blk) #[] #[]]::a.tmps::ats):=
       ⟨e1.trans (by rw[hr2.hp]),e2.trans hr2.nxt,e4,bQ.le e3 _ _ hr2.fr,Dk.le e3 _ _ hr2.stk,let⟨ds,d1,d2,d3⟩:=hr2.df;⟨ds,d1,d2,fun x hx=>⟨e3.mks x (d3 x hx).1,(d3 x hx).2⟩⟩,fun l hl=>let⟨L,hL⟩:=hr2.rd l hl;e3.lp l L hL⟩
      refine Nj (rd:=some (c.mu id).blk) hT hm (E:=(E.at m).keyed ky) hETk (kT (E:=(E.at m).keyed ky) hSk (ih R W0).1 (ih R W0).2 n) (Dw (E:=(E.at m).keyed ky) hSk fun W=>(ih bV W).1) (ih R W0).1 (kT (E:=(E.at m).keyed ky) hSk (ih St W0).1 (ih St W0).2 n) (kT (E:=(E.at m).keyed ky) hSk (ih Unit W0).1 (ih Unit W0).2 n) (abT hSk) bd hlob _ _ c2 _ _ h1 hr3 hm2.size fun e c3 st3 a3 h3 hr4 hm3=> ?_;refine aa3 ?_;split at h3
      ·rename_i id3 stk3 hs3
       split at h3
       ·rename_i f3 fr3 ps3 asg3 bd3 ky3 hg3
        have hstk:=hr4.stk;rw[hs3]at hstk;obtain⟨hy3,hstk⟩:=hstk;simp only[bQ,and_true]at hy3;have hg3':=hg3;rw[<-hr4.hp]at hg3';obtain⟨hky3,hB3,L3,hL3,hv3,w1,w2,w3,w4⟩:=hr4.ok.obj id3 _ hg3';simp only[bY]at hy3;have hblk3:(c.mu id).blk=(c3.mu id3).blk:=by simpa using hy3.2.2 _ _ _ _ _ _ _ _ hg3'
        have hend:=run_endRound (P:=P) (w:=c3.w) e.code hL3;rw[<-hblk3]at hend;refine⟨_,_,hend, ?_⟩;rw[hblk3];cases e with
        |normal=>
         obtain⟨c4,g1,g2,g3,g4,g5,g6⟩:=IP hr4.ok hg3' hL3 {L3 with state:=.ready,pending:=none} (o':=.lp f3 fr3 ps3 asg3 bd3 ky3 0 none) (.inr ⟨0,none,rfl,⟨rfl,rfl⟩,rfl,rfl,rfl,rfl⟩);have hm4:c.Mono c4:=(hm2.trans hm3).trans g3.mono;obtain⟨c5,st5,k1,k2,k3,k4,k5⟩:=Dv (v:=.undef) (u:=undef) hr g4 (st1:={st3 with fr:=[],stk:=stk3,hp:=ji st3.hp id3 (.lp f3 fr3 ps3 asg3 bd3 ky3 0 none)}) (g1.trans (by rw[hr4.hp])) (g2.trans hr4.nxt) rfl (Dk.le g3 _ _ hstk) hm4 (by simp[bY]) (K:=fun _=>K (.val .bool true)) h3;have:=hR c5 (.val .bool true) (.bool true) st5 k1 k2 (by simp only[bY];exact VD.bool_mk) k4;rw[k5,g5]at this;exact this
        |exit i=>
         obtain⟨c4,g1,g2,g3,g4,g5,g6⟩:=IP hr4.ok hg3' hL3 {L3 with state:=.done,pending:=some (.exit i)} (o':=.lp f3 fr3 ps3 asg3 bd3 ky3 1 (some (.exit i))) (.inr ⟨1,some (.exit i),rfl,⟨rfl,rfl,by simp[Ex.code]⟩,rfl,rfl,rfl,rfl⟩);have hm4:c.Mono c4:=(hm2.trans hm3).trans g3.mono;obtain⟨c5,st5,k1,k2,k3,k4,k5⟩:=Dv (v:=.undef) (u:=undef) hr g4 (st1:={st3 with fr:=[],stk:=stk3,hp:=ji st3.hp id3 (.lp f3 fr3 ps3 asg3 bd3 ky3 1 (some (.exit i)))}) (g1.trans (by rw[hr4.hp])) (g2.trans hr4.nxt) rfl (Dk.le g3 _ _ hstk) hm4 (by simp[bY]) (K:=fun _=>K (.val .bool false)) h3;have:=hR c5 (.val .bool false) (.bool false) st5 k1 k2 (by simp only[bY];exact VD.bool_mk) k4;rw[k5,g5]at this;exact this
        |goto l=>
         obtain⟨c4,g1,g2,g3,g4,g5,g6⟩:=IP hr4.ok hg3' hL3 {L3 with state:=.done,pending:=some (.goto l)} (o':=.lp f3 fr3 ps3 asg3 bd3 ky3 1 (some (.goto l))) (.inr ⟨1,some (.goto l),rfl,⟨rfl,rfl,by simp[Ex.code]⟩,rfl,rfl,rfl,rfl⟩);have hm4:c.Mono c4:=(hm2.trans hm3).trans g3.mono;obtain⟨c5,st5,k1,k2,k3,k4,k5⟩:=Dv (v:=.undef) (u:=undef) hr g4 (st1:={st3 with fr:=[],stk:=stk3,hp:=ji st3.hp id3 (.lp f3 fr3 ps3 asg3 bd3 ky3 1 (some (.goto l)))}) (g1.trans (by rw[hr4.hp])) (g2.trans hr4.nxt) rfl (Dk.le g3 _ _ hstk) hm4 (by simp[bY]) (K:=fun _=>K (.val .bool false)) h3;have:=hR c5 (.val .bool false) (.bool false) st5 k1 k2 (by simp only[bY];exact VD.bool_mk) k4;rw[k5,g5]at this;exact this
        |ret=>
         obtain⟨c4,g1,g2,g3,g4,g5,g6⟩:=IP hr4.ok hg3' hL3 {L3 with state:=.done,pending:=some (.ret)} (o':=.lp f3 fr3 ps3 asg3 bd3 ky3 1 (some .ret)) (.inr ⟨1,some .ret,rfl,⟨rfl,rfl,by simp[Ex.code]⟩,rfl,rfl,rfl,rfl⟩);have hm4:c.Mono c4:=(hm2.trans hm3).trans g3.mono;obtain⟨c5,st5,k1,k2,k3,k4,k5⟩:=Dv (v:=.undef) (u:=undef) hr g4 (st1:={st3 with fr:=[],stk:=stk3,hp:=ji st3.hp id3 (.lp f3 fr3 ps3 asg3 bd3 ky3 1 (some .ret))}) (g1.trans (by rw[hr4.hp])) (g2.trans hr4.nxt) rfl (Dk.le g3 _ _ hstk) hm4 (by simp[bY]) (K:=fun _=>K (.val .bool false)) h3;have:=hR c5 (.val .bool false) (.bool false) st5 k1 k2 (by simp only[bY];exact VD.bool_mk) k4;rw[k5,g5]at this;exact this
       ·cases h3
      ·cases h3
     ·cases h1
    ·cases h1
   |exit i=>simp at h1
   |goto l=>simp at h1
   |ret=>simp at h1
  ·cases h
 ·cases h
theorem Ii (hT:TOk P T) (hm:P.follows .mixedOrders=true) (hng:Ja P) {E:Env} (hEP:E.P=P) (hET:E.T=T) (hS:wP P E) (hlo:sV P E) (hrf:ae3 E): ∀(m:Nat) (R:Type) (W0:World),uY P W0 (exec E m (R:=R))/\Dt P W0 (exec E m (R:=R))
 |0,R,W0=>⟨fun f args st K r h=>by simp[exec]at h,fun id args st K r h=>by simp[exec]at h⟩
 |m+1,R,W0=>⟨an3 hT hm hng hEP hET hS hlo hrf (Ii hT hm hng hEP hET hS hlo hrf m),afS hT hm hng hEP hET hS hlo hrf (Ii hT hm hng hEP hET hS hlo hrf m)⟩
end
end
section
open Bool renaming and_eq_true → af, true_and → aU, false_or → aV
open List renaming mem_cons_of_mem → aA, all_cons → bg
open Nat renaming le_refl → ah
open Go.RowKit
def pz (c:Cx):(ps:List Ty)->(ps.foldr Ty.pair Ty.unit).den->List Value->Prop
 |[],_,us=>us=[]
 |t::ps,x,us=> ∃u us',us=u::us'/\VD c t x.1 u/\pz c ps x.2 us'
def kM (w:World) (bar:Nat->Prop):Cx:=⟨fun _=>⟨0,undef⟩,[],0,w,[],bar⟩
def F6 (rs:List (Ty×Bool)) (y:((rs.map (·.1)).foldr Ty.pair Ty.unit).den):gZ:=
 match yu rs y with
 |some ⟨e,xs⟩=>[(0,.arr e 0 xs)]
 |none=>[]
def xM (w:World) (bar:Nat->Prop) (rs:List (Ty×Bool)) (y:((rs.map (·.1)).foldr Ty.pair Ty.unit).den):Ending->World->Prop:=fun e w'=>
 ∃(c':Cx) (us:List Value),e=.returned (Na us)/\c'.w=w'/\c'.Ok w/\c'.bar=bar/\c'.mks=[]/\c'.hp=F6 rs y/\bQ c' (nM 0 rs y) us
def dY (P:Program) (g:FuncId) (s:Sum):Prop:=
 ∀(w:World) (bar:Nat->Prop) (args':Array Value) x y,Phi w->(∀b,bar b->b<w.heap.size)->pz (kM w bar) s.ps x args'.toList->s.f x=some y->
  ((callFunc g args').run P w=.ok (.enter g args') w/\Calls P g args' w (xM w bar s.rs y))\/ ∃u,(callFunc g args').run P w=.ok (.value u) w/\xM w bar s.rs y (.returned u) w
section
variable {P:Program} {T:TT} {W0:World} {b0:Nat} {rd:Option Nat} {R:Type} {r:R} {c:Cx} {ats:List (Array Value)}
theorem H8 {w:World} {bar:Nat->Prop} {b:Nat}:(kM w bar).free b↔b<w.heap.size/\ ¬bar b:=by
 constructor
 ·intro h;exact⟨h.1,h.2.2.2⟩
 ·rintro ⟨h1,h2⟩;exact⟨h1,(by rintro ⟨i,o,h,_⟩;simp[kM,dR]at h),by simp[kM],h2⟩
theorem ahI (hok:c.Ok W0) {cb:Cx} (hs:ap3 c cb) {t:Ty} {v:bV} {x:t.den} {u:Value} (h:v.as c.hp t=some x) (hv:bY c v u):VD cb t x u:=by
 have hmono: ∀{t:Ty} {x:t.den} {u:Value},VD c t x u->VD cb t x u:=fun {t x u} hv=>
  ⟨fun e=>let⟨cs,h1,h2⟩:=hv.1 e;⟨cs,h1,fO.mono (fun b hb=>hs b hb.1) t x _ h2⟩,fun e=>fO.mono (fun b hb=>hs b hb.1) t x _ (hv.2 e)⟩
 cases v with
 |val t' z=>
  simp only[bV.as]at h;have e:=iM h;subst e;rw[gW]at h;cases h;simp only[bY]at hv;exact hmono hv
 |nils=>
  cases t with
  |list e=>exact Fz hok hs (x:=.nils) h hv
  |_=>simp[bV.as]at h
 |lst t' z b=>
  simp only[bV.as]at h;have e:=iM h;subst e;rw[gW]at h;cases h;simp only[bY]at hv;exact hmono hv.1
 |emp=>
  cases t with
  |list e=>exact Fz hok hs (x:=.emp) h hv
  |_=>simp[bV.as]at h
 |slc id ver vw=>
  cases t with
  |list e=>exact Fz hok hs (x:=.slc id ver vw) h hv
  |_=>simp[bV.as]at h
 |agg l=>
  simp only[bV.as]at h;rw[cond_eq_ite]at h;split at h
  ·rename_i ha
   simp only[bY]at hv;obtain⟨vs,rfl,h1,h2⟩:=hv;exact hmono ((VD.agg ha).2 ⟨vs,rfl,oN h h1⟩)
  ·cases h
 |_=>simp[bV.as]at h
theorem Jc {cb:Cx} (hs: ∀b,c.free b->cb.free b/\cb.w.heap[b]? =c.w.heap[b]?) {t:Ty} {v:bV} {x:t.den} {u:Value} (hno:lG v=false) {hp:gZ} (h:v.as hp t=some x) (hv:bY c v u):VD cb t x u:=by
 cases v with
 |val t' z=>
  simp only[bV.as]at h;have e:=iM h;subst e;rw[gW]at h;cases h;simp only[bY]at hv;exact⟨fun e=>let⟨cs,h1,h2⟩:=hv.1 e;⟨cs,h1,fO.mono hs t' _ _ h2⟩,fun e=>fO.mono hs t' _ _ (hv.2 e)⟩
 |nils=>
  cases t with
  |list e=>
   simp only[bV.as,Option.some.injEq]at h;subst h;simp only[bY]at hv;subst hv;exact(VD.leaf rfl).2 ⟨none,0,[],rfl,ah _,rfl,.inl rfl⟩
  |_=>simp[bV.as]at h
 |lst t' z b=>
  simp only[bV.as]at h;have e:=iM h;subst e;rw[gW]at h;cases h;simp only[bY]at hv;exact⟨fun e=>let⟨cs,h1,h2⟩:=hv.1.1 e;⟨cs,h1,fO.mono hs _ _ _ h2⟩,fun e=>fO.mono hs _ _ _ (hv.1.2 e)⟩
 |emp=>
  cases t with
  |list e=>
   simp only[bV.as,Option.some.injEq]at h;subst h;simp only[bY]at hv;obtain⟨a,rfl⟩:=hv;exact(VD.leaf rfl).2 ⟨a,0,[],rfl,ah _,rfl,.inl rfl⟩
  |_=>simp[bV.as]at h
 |slc id ver vw=>simp[lG]at hno
 |agg l=>simp[lG]at hno
 |_=>simp[bV.as]at h
theorem zQ {cb:Cx} {hp:gZ}: ∀(ps:List Ty) (args:List bV) x (us:List Value),zO hp ps args=some x->bQ c args us->
  (∀(t:Ty) (v:bV) (x:t.den) (u:Value),v∈args->v.as hp t=some x->bY c v u->VD cb t x u)->pz cb ps x us
 |[],[],x,[],h,_,_=>rfl
 |t::ps,v::args,x,u::us,h,hv,ha=>by
  simp only[zO]at h;split at h
  ·rename_i x1 h1
   split at h
   ·rename_i y1 h2
    cases h;simp only[bQ]at hv;exact⟨u,us,rfl,ha t v x1 u (by simp) h1 hv.1,zQ ps args y1 us h2 hv.2 fun t v x u hm=>ha t v x u (aA _ hm)⟩
   ·cases h
  ·cases h
 |[],[],_,_::_,_,hv,_=>by simp[bQ]at hv
 |[],_::_,_,_,h,_,_=>by simp[zO]at h
 |_::_,[],_,_,h,_,_=>by simp[zO]at h
 |_::_,_::_,_,[],_,hv,_=>by simp[bQ]at hv
theorem VD.move {c' c2:Cx} (hw:c2.w=c'.w) {t:Ty} {x:t.den} {u:Value} (h:(∀b,c'.free b->c2.free b)\/t.rigid=true) (hv:VD c' t x u):VD c2 t x u:=by
 rcases h with h|h
 ·exact⟨fun e=>let⟨cs,h1,h2⟩:=hv.1 e;⟨cs,h1,fO.mono (fun b hb=>⟨h b hb,by rw[hw]⟩) t x _ h2⟩,fun e=>fO.mono (fun b hb=>⟨h b hb,by rw[hw]⟩) t x _ (hv.2 e)⟩
 ·exact(VD.rigid h u).2 ((VD.rigid h u).1 hv)
theorem gz.move {c' c2:Cx} (hw:c2.w=c'.w) {e:Ty} {xs:List e.den} {zs:List Value} (h:(∀b,c'.free b->c2.free b)\/e.rigid=true) (hv:gz (fO c'.w c'.free e) e.size xs zs):gz (fO c2.w c2.free e) e.size xs zs:=by
 rcases h with h|h
 ·exact gz.mono (fO.mono (fun b hb=>⟨h b hb,by rw[hw]⟩) e) _ _ hv
 ·exact gz.mono (fun x cs hd=>(qG e x h cs).2 ((qG e x h cs).1 hd)) _ _ hv
theorem GH {c' c2:Cx} (hw:c2.w=c'.w) (id:Nat): ∀(rs:List (Ty×Bool)) y (us:List Value),(∀t∈rs,(∀b,c'.free b->c2.free b)\/t.1.rigid=true\/t.2=true)->
  (news rs=0\/ ∀u,bY c' (.slc 0 0 none) u->bY c2 (.slc id 0 none) u)->bQ c' (nM 0 rs y) us->bQ c2 (nM id rs y) us
 |[],y,[],_,_,_=>by simp[nM,bQ]
 |[],y,_::_,_,_,hv=>by simp[nM,bQ]at hv
 |(t,false)::rs,y,us,h,hn,hv=>by
  cases us with
  |nil=>simp[nM,bQ]at hv
  |cons u us=>
   simp only[nM,bQ,bY]at hv ⊢;refine⟨VD.move hw ?_ hv.1,GH hw id rs y.2 us (fun t ht=>h t (aA _ ht)) hn hv.2⟩;rcases h (t,false) (by simp)with h1|h1|h1
   ·exact .inl h1
   ·exact .inr h1
   ·cases h1
 |(t,true)::rs,y,us,h,hn,hv=>by
  cases us with
  |nil=>simp[nM,bQ]at hv
  |cons u us=>
   simp only[nM,bQ]at hv ⊢;rcases hn with hn|hn
   ·simp[news]at hn
   ·exact⟨hn u hv.1,GH hw id rs y.2 us (fun t ht=>h t (aA _ ht)) (.inr hn) hv.2⟩
theorem aeW {c':Cx}: ∀(rs:List (Ty×Bool)) y (us:List Value),news rs≠0->bQ c' (nM 0 rs y) us-> ∃u,bY c' (.slc 0 0 none) u
 |[],y,us,h,_=>by simp[news]at h
 |(t,false)::rs,y,us,h,hv=>by
  cases us with
  |nil=>simp[nM,bQ]at hv
  |cons u us=>
   simp only[nM,bQ]at hv;exact aeW rs y.2 us (by simpa [news] using h) hv.2
 |(t,true)::rs,y,us,h,hv=>by
  cases us with
  |nil=>simp[nM,bQ]at hv
  |cons u us=>
   simp only[nM,bQ]at hv;exact⟨u,hv.1⟩
theorem Ov: ∀(rs:List (Ty×Bool)) y {e:Ty} {xs:List e.den},yu rs y=some ⟨e,xs⟩->(rs.all fun r=>r.1.rigid||(r.2&&r.1.elem.rigid))=true->e.rigid=true
 |[],y,e,xs,h,_=>by simp[yu]at h
 |(t,false)::rs,y,e,xs,h,ha=>by
  simp only[yu]at h;simp only[bg,af]at ha;exact Ov rs y.2 h ha.2
 |(t,true)::rs,y,e,xs,h,ha=>by
  cases t with
  |list e'=>
   simp only[yu,Option.some.injEq,Sigma.mk.injEq]at h;obtain⟨rfl,_⟩:=h;simp only[bg,af,Ty.rigid,Ty.elem,aV,aU]at ha;exact ha.1
  |_=>simp[yu]at h
theorem awt {c':Cx} (hok:c.Ok W0) (hok':c'.Ok c.w) (hbar:c'.bar=fun b=>b<c.w.heap.size/\ ¬c.free b) {b:Nat} (hb:c'.free b):(c.at_ c'.w).free b:=by
 refine⟨hb.1, ?_⟩;by_cases hlt:b<c.w.heap.size
 ·have h1:=hb.2.2.2;rw[hbar]at h1;have h2:c.free b:=Classical.byContradiction fun h=>h1 ⟨hlt,h⟩;exact h2.2
 ·refine⟨fun ho=>hlt (hok.own_lt ho).2,fun hm=>hlt (hok.mark_lt hm),fun hb2=>hlt (hok.bar b hb2).1⟩
theorem aeS {s:Sum} {cl:Bool} {args:List bV} {dst:Option Nat} {st:St} {K:bV->St->Option R} (h:s.call cl args dst st K=some r):
    ((s.rs.all fun r=>r.1.rigid||(r.2&&r.1.elem.rigid))=true\/args.any lG=false)/\ ∃x y,zO st.hp s.ps args=some x/\s.f x=some y/\
      ((yu s.rs y=none/\news s.rs=0/\K (KI (nM 0 s.rs y)) st=some r)\/
       (∃e xs id n',yu s.rs y=some ⟨e,xs⟩/\news s.rs=1/\dR st.hp id=none/\st.nxt<=id/\st.nxt<=n'/\K (KI (nM id s.rs y)) {st with hp:=(id,.arr e 0 xs)::st.hp,nxt:=n'}=some r)):=by
  unfold Sum.call at h;rw[cond_eq_ite]at h;split at h
  · rename_i hc
    refine⟨by simpa using hc, ?_⟩;split at h
    · rename_i x hx
      cases hy:s.f x with
      |none=>rw[hy]at h;cases h
      |some y=>
        rw[hy]at h;simp only[bM]at h;refine⟨x,y,hx,hy, ?_⟩;split at h
        · rename_i hn
          rw[cond_eq_ite]at h;split at h
          · rename_i h0
            exact .inl ⟨hn,by simpa using h0,h⟩
          · cases h
        · rename_i e xs hn
          rw[cond_eq_ite]at h;split at h
          · rename_i h0
            obtain⟨id,n',h1,h2,h3,h4⟩:=jk h;exact .inr ⟨e,xs,id,n',hn,by simpa using h0,h1,h2,h3,h4⟩
          · cases h
    · cases h
  · cases h
end
end
section
open Bool renaming and_eq_true → af, not_false → aG, true_and → aU, not_eq_true → bD
open List renaming length_cons → ak, map_cons → az, mem_cons_of_mem → aA, all_cons → bg
open Nat renaming le_refl → ah, eq_of_beq_eq_true → au, le_trans → aW, lt_of_lt_of_le → bI
open Option renaming map_some → bn
open Go.RowKit
section
variable {P:Program} {T:TT} {W0:World} {b0:Nat} {rd:Option Nat} {R:Type} {r:R} {c:Cx} {ats:List (Array Value)}
theorem Cx.many {c2:Cx} (hc:c.Ok W0) (S:Nat->Prop) (hmks:c2.mks=c.mks) (hbar:c2.bar=c.bar) (hnxt:c2.nxt=c.nxt)
  (hsame: ∀i,¬S i->dR c2.hp i=dR c.hp i/\c2.mu i=c.mu i)
  (htouch: ∀i,S i-> ∃o o',dR c.hp i=some o/\dR c2.hp i=some o'/\o.like (c.mu i) o' (c2.mu i)/\ ∀f fr ps jC bd ky n p,o≠ .lp f fr ps jC bd ky n p)
  (hw:Below W0.heap.size W0 c2.w) (hs:c.w.heap.size<=c2.w.heap.size)
  (hblk: ∀b,b<c.w.heap.size->(∀i o,S i->dR c.hp i=some o->o.blk (c.mu i)≠some b)->c2.w.heap[b]? =c.w.heap[b]?)
  (hnew: ∀i o' b,S i->dR c2.hp i=some o'->o'.blk (c2.mu i)=some b->c.w.heap.size<=b\/ ∃j o,S j/\dR c.hp j=some o/\o.blk (c.mu j)=some b)
  (hinj: ∀i j o' p' b,S i->S j->dR c2.hp i=some o'->dR c2.hp j=some p'->o'.blk (c2.mu i)=some b->p'.blk (c2.mu j)=some b->i=j)
  (hlp: ∀(b:Nat) (L:Loop) (i:Nat) o,S i->dR c.hp i=some o->o.blk (c.mu i)=some b->c.w.heap[b]? ≠some (Obj.loop L)):
  c.Le c2/\((∀i o',S i->dR c2.hp i=some o'->c2.ORel W0.heap.size i o')->c2.Ok W0):=by
 have hle:c.Le c2:=by
  refine⟨fun b hb=>⟨⟨bI hb.1 hs, ?_,by rw[hmks];exact hb.2.2⟩,hblk b hb.1 fun i o _ h1 h2=>hb.2.1 ⟨i,o,h1,h2⟩⟩,fun i hi=> ?_,fun i o' hi ho=> ?_,fun r hr=>by rw[hmks];exact hr,fun b L hL=> ?_,hs,hbar⟩
  ·rintro ⟨i,o',h1,h2⟩;by_cases hS:S i
   ·rcases hnew i o' b hS h1 h2 with h3|⟨j,o,_,h3,h4⟩
    ·have:=hb.1;omega
    ·exact hb.2.1 ⟨j,o,h3,h4⟩
   ·obtain⟨h3,h4⟩:=hsame i hS;rw[h3]at h1;rw[h4]at h2;exact hb.2.1 ⟨i,o',h1,h2⟩
  ·by_cases hS:S i
   ·obtain⟨o,o',_,h2,_⟩:=htouch i hS;exact .inl ⟨o',h2⟩
   ·rcases hi with ⟨o,ho⟩|hi
    ·exact .inl ⟨o,by rw[(hsame i hS).1];exact ho⟩
    ·exact .inr (by rw[hnxt];exact hi)
  ·by_cases hS:S i
   ·obtain⟨o,o2,h1,h2,h3,_⟩:=htouch i hS;rw[h2]at ho;cases ho;exact⟨o,h1,h3⟩
   ·obtain⟨h3,h4⟩:=hsame i hS;rw[h3]at ho;exact⟨o',ho,by rw[h4];exact o'.like_refl _⟩
  ·exact⟨L,(hblk b (Array.getElem?_eq_some_iff.1 hL).1 fun i o hS h1 h2=>hlp b L i o hS h1 h2 hL).trans hL⟩
 refine⟨hle,fun hO=>⟨hw,fun i o' ho=> ?_,fun i j o' p' b h1 h2 h3 h4=> ?_,fun r hr=> ?_,fun b hb=> ?_,hc.phi⟩⟩
 ·by_cases hS:S i
  ·exact hO i o' hS ho
  ·obtain⟨h3,h4⟩:=hsame i hS;rw[h3]at ho;refine(hc.obj i o' ho).le hle h4 fun b hb=>hblk b ((hc.obj i o' ho).lt hb).2 fun j o hS2 h5 h6=> ?_;have:=hc.inj j i o o' b h5 ho h6 hb;subst this;exact hS hS2
 ·have old: ∀i o' b,¬S i->dR c2.hp i=some o'->o'.blk (c2.mu i)=some b->dR c.hp i=some o'/\o'.blk (c.mu i)=some b:=fun i o' b hS h1 h2=>by
   obtain⟨h3,h4⟩:=hsame i hS;rw[h3]at h1;rw[h4]at h2;exact⟨h1,h2⟩
  have mixed: ∀i j o' p' b,S i-> ¬S j->dR c2.hp i=some o'->dR c2.hp j=some p'->o'.blk (c2.mu i)=some b->p'.blk (c2.mu j)=some b->False:=fun i j o' p' b h1 h2 h3 h4 h5 h6=>by
   obtain⟨h7,h8⟩:=old j p' b h2 h4 h6;rcases hnew i o' b h1 h3 h5 with h9|⟨k,o,hk,h9,h10⟩
   ·have:=((hc.obj j p' h7).lt h8).2;omega
   ·have:=hc.inj k j o p' b h9 h7 h10 h8;subst this;exact h2 hk
  by_cases hi:S i<;>by_cases hj:S j
  ·exact hinj i j o' p' b hi hj h1 h2 h3 h4
  ·exact(mixed i j o' p' b hi hj h1 h2 h3 h4).elim
  ·exact(mixed j i p' o' b hj hi h2 h1 h4 h3).elim
  ·obtain⟨q1,q2⟩:=old i o' b hi h1 h3;obtain⟨q3,q4⟩:=old j p' b hj h2 h4;exact hc.inj i j o' p' b q1 q3 q2 q4
 ·rw[hmks]at hr;exact⟨(hc.mks r hr).1,(hblk r (hc.mark_lt hr) fun i o hS h1 h2=>hc.mark_own hr ⟨i,o,h1,h2⟩).trans (hc.mks r hr).2⟩
 ·rw[hbar]at hb;exact(hle.out b (hc.bar b hb)).1
theorem azQ {size:Nat} {s u:Value} {vw:Option (Int×Int)} (h:jb size s vw u) {b off n cp:Nat} (hu:u=.slice (some ⟨b,off,none⟩) n cp):s.ownBlock=some b:=by
 subst hu;cases vw with
 |none=>simp only[jb]at h;subst h;rfl
 |some p=>
  obtain⟨lo,hi⟩:=p;simp only[jb]at h;obtain⟨a,m,q,rfl,_,_,_,h4⟩:=h;have h5:(some ⟨b,off,none⟩:Option Addr)=if q=lo.toNat then a else a.map (·.add (lo.toNat*size)):=by injection h4
  split at h5
  ·subst h5;rfl
  ·cases a with
   |none=>cases h5
   |some a=>
    simp only[bn,Option.some.injEq]at h5;have:=congrArg Addr.block h5;simp only[Value.ownBlock,Option.some.injEq];unfold Addr.add at this;split at this<;>exact this.symm
theorem ae7 (hok:c.Ok W0) {cb:Cx} (hs: ∀b,c.free b->cb.free b/\cb.w.heap[b]? =c.w.heap[b]?) {t:Ty} {v:bV} {x:t.den} {u:Value}
  (ho: ∀id ver vw,v=.slc id ver vw-> ∀o b,dR c.hp id=some o->o.blk (c.mu id)=some b->cb.free b/\cb.w.heap[b]? =c.w.heap[b]?) (h:v.as c.hp t=some x) (hv:bY c v u):VD cb t x u:=by
 cases hno:lG v with
 |false=>exact Jc hs hno h hv
 |true=>
  cases v with
  |slc id ver vw=>
   cases t with
   |list e=>
    obtain⟨a,cp,zs,h1,h2,h3⟩:=TY hok h hv;have h4:=abb hok h hv h1;have h5: ∃t xs,dR c.hp id=some (.arr t ver xs):=by
     simp only[bV.as,BC]at h;split at h
     ·rename_i t' v' xs harr
      replace h:=dJ h;obtain⟨hver,h⟩:=h;have hver:v'=ver:=by simpa using hver
      subst hver;exact⟨_,_,harr⟩
     ·cases h
    obtain⟨t',xs',harr⟩:=h5;simp only[bY]at hv;have hview:=(hv.2.2 _ _ _ harr).2 rfl;refine(VD.leaf rfl).2 ⟨a,cp,zs,by rw[h1],h4,gz.mono (fO.mono hs e) _ _ h2,h3.imp (fun h=>h) fun⟨b,off,q1,q2,q4,q3⟩=> ?_⟩;have hb:=azQ hview (b:=b) (off:=off) (n:=x.length) (cp:=cp) (by rw[h1,q1]);obtain⟨p1,p2⟩:=ho id ver vw rfl _ b harr (by simpa [dN.blk] using hb);exact⟨b,off,q1,p1,q3.of_block p2⟩
   |_=>simp[bV.as]at h
  |agg l=>
   simp only[bV.as]at h;replace h:=dJ h;obtain⟨ha,h⟩:=h;simp only[bY]at hv;obtain⟨vs,rfl,h1,h2⟩:=hv;have:=(VD.agg ha).2 ⟨vs,rfl,oN h h1⟩;exact⟨fun e=>let⟨cs,h1,h2⟩:=this.1 e;⟨cs,h1,fO.mono hs _ _ _ h2⟩,fun e=>fO.mono hs _ _ _ (this.2 e)⟩
  |_=>simp[lG]at hno
theorem Ee: ∀{l:List Nat},SY l=true->l.Nodup
 |[],_=>List.nodup_nil
 |i::l,h=>by
  simp only[SY,af,Bool.not_eq_true']at h;refine List.nodup_cons.2 ⟨fun hm=> ?_,Ee h.2⟩;have:Yy l i=true:=List.any_eq_true.2 ⟨i,hm,by simp⟩;rw[this]at h;cases h.1
theorem Wu {hp:gZ} {b:Bool}: ∀(cs:List (Ty×Bool)) (cells:List bV) {x},jT hp b cs cells=some x-> ∀n,(jh cs n).length=(oz cs cells).length:=by
 intro cs
 induction cs with
 |nil=>intro cells x h n;cases cells<;>rfl
 |cons tc cs ih=>
  intro cells x h n;obtain⟨t,o⟩:=tc;cases cells with
  |nil=>cases o<;>simp[jT]at h
  |cons v cells=>
   cases o with
   |false=>
    simp only[jT]at h;rw[cond_eq_ite]at h;split at h
    ·cases h
    ·split at h
     ·split at h
      ·rename_i h2
       simpa [jh,oz] using ih cells h2 n
      ·cases h
     ·cases h
   |true=>
    cases t with
    |list e=>
     cases v with
     |slc id ver vw=>
      cases vw with
      |none=>
       simp only[jT]at h;split at h
       ·replace h:=dJ h;obtain⟨_,h⟩:=h;split at h
        ·split at h
         ·rename_i h2
          simp only[jh,oz,ak,ih cells h2 (n+1)]
         ·cases h
        ·cases h
       ·cases h
      |some p=>simp[jT]at h
     |_=>simp[jT]at h
    |_=>simp[jT]at h
theorem Fa: ∀(cs:List (Ty×Bool)) (n:Nat),∀p∈jh cs n,n<=p.1
 |[],n,p,h=>by simp[jh]at h
 |(_,true)::cs,n,p,h=>by
  simp only[jh,List.mem_cons]at h;rcases h with rfl|h
  ·exact ah _
  ·exact aW (Nat.le_succ n) (Fa cs (n+1) p h)
 |(_,false)::cs,n,p,h=>Fa cs n p h
theorem uZ: ∀(cs:List (Ty×Bool)) (n:Nat),((jh cs n).map (·.1)).Nodup
 |[],n=>List.nodup_nil
 |(_,true)::cs,n=>by
  simp only[jh,az];refine List.nodup_cons.2 ⟨fun h=> ?_,uZ cs (n+1)⟩;obtain⟨p,h1,h2⟩:=List.mem_map.1 h;have:=Fa cs (n+1) p h1;omega
 |(_,false)::cs,n=>uZ cs n
theorem Wi {hp:gZ} {b:Bool}: ∀(cs:List (Ty×Bool)) (cells:List bV) (ids:List (Nat×Nat)) {x},jT hp b cs cells=some x->ids.length=(oz cs cells).length-> ∀i' o,(i',o)∈um cs ids x->
  ∃(k i v v':Nat) (e:Ty) (xs:List e.den),(oz cs cells)[k]? =some (i,v)/\ids[k]? =some (i',v')/\o=.arr e v' xs/\dR hp i=some (.arr e v xs)/\(.list e,true)∈cs:=by
 intro cs
 induction cs with
 |nil=>intro cells ids x h hl i' o hm;simp[um]at hm
 |cons tc cs ih=>
  intro cells ids x h hl i' o hm;obtain⟨t,ob⟩:=tc;cases cells with
  |nil=>cases ob<;>simp[jT]at h
  |cons v cells=>
   cases ob with
   |false=>
    simp only[jT]at h;rw[cond_eq_ite]at h;split at h
    ·cases h
    ·split at h
     ·split at h
      ·rename_i h2
       cases h;obtain⟨k,i,v,v',e,xs,q1,q2,q3,q4,q5⟩:=ih cells ids h2 (by simpa [oz] using hl) i' o (by simpa [um] using hm);exact⟨k,i,v,v',e,xs,by simpa [oz] using q1,q2,q3,q4,aA _ q5⟩
      ·cases h
     ·cases h
   |true=>
    cases t with
    |list e=>
     cases v with
     |slc id ver vw=>
      cases vw with
      |none=>
       simp only[jT]at h;split at h
       ·rename_i t' v1 xs hg
        replace h:=dJ h;obtain⟨hver,h⟩:=h;have hver:v1=ver:=by simpa using hver
        subst hver;split at h
        ·rename_i x1 hx1
         split at h
         ·rename_i y1 h2
          cases h;have ee:=iM hx1;cases ee;rw[gW]at hx1;cases hx1;cases ids with
          |nil=>simp[oz]at hl
          |cons p ids=>
           obtain⟨i0,v0⟩:=p;simp only[um,List.mem_cons]at hm;rcases hm with hm|hm
           ·cases hm;exact⟨0,id,v1,v0,_,x1,by simp[oz],by simp,rfl,hg,by simp⟩
           ·obtain⟨k,i,v,v',e,xs,q1,q2,q3,q4,q5⟩:=ih cells ids h2 (by simpa [oz] using hl) i' o hm;exact⟨k+1,i,v,v',e,xs,by simpa [oz] using q1,by simpa using q2,q3,q4,aA _ q5⟩
         ·cases h
        ·cases h
       ·cases h
      |some p=>simp[jT]at h
     |_=>simp[jT]at h
    |_=>simp[jT]at h
theorem YK {hp:gZ} {b:Bool}: ∀(cs:List (Ty×Bool)) (cells:List bV) (ids:List (Nat×Nat)) {x},jT hp b cs cells=some x-> ∀(k i v i' v':Nat),(oz cs cells)[k]? =some (i,v)->ids[k]? =some (i',v')->
  ∃e xs,dR hp i=some (.arr e v xs)/\(i',dN.arr e v' xs)∈um cs ids x:=by
 intro cs
 induction cs with
 |nil=>intro cells ids x h k i v i' v' h1 h2;cases cells<;>simp[oz]at h1
 |cons tc cs ih=>
  intro cells ids x h k i v i' v' h1 h2;obtain⟨t,ob⟩:=tc;cases cells with
  |nil=>cases ob<;>simp[jT]at h
  |cons u cells=>
   cases ob with
   |false=>
    simp only[jT]at h;rw[cond_eq_ite]at h;split at h
    ·cases h
    ·split at h
     ·split at h
      ·rename_i h3
       cases h;obtain⟨e,xs,q1,q2⟩:=ih cells ids h3 k i v i' v' (by simpa [oz] using h1) h2;exact⟨e,xs,q1,by simpa [um] using q2⟩
      ·cases h
     ·cases h
   |true=>
    cases t with
    |list e=>
     cases u with
     |slc id ver vw=>
      cases vw with
      |none=>
       simp only[jT]at h;split at h
       ·rename_i t' v1 xs hg
        replace h:=dJ h;obtain⟨hver,h⟩:=h;have hver:v1=ver:=by simpa using hver
        subst hver;split at h
        ·rename_i x1 hx1
         split at h
         ·rename_i y1 h3
          cases h;have ee:=iM hx1;cases ee;rw[gW]at hx1;cases hx1;cases ids with
          |nil=>simp at h2
          |cons p ids=>
           obtain⟨i0,v0⟩:=p;cases k with
           |zero=>
            simp only[oz,List.getElem?_cons_zero,Option.some.injEq,Prod.mk.injEq]at h1 h2;obtain⟨rfl,rfl⟩:=h1;obtain⟨rfl,rfl⟩:=h2;exact⟨_,_,hg,by simp[um]⟩
           |succ k=>
            obtain⟨e,xs,q1,q2⟩:=ih cells ids h3 k i v i' v' (by simpa [oz] using h1) (by simpa using h2);exact⟨e,xs,q1,by simp only[um];exact aA _ q2⟩
         ·cases h
        ·cases h
       ·cases h
      |some p=>simp[jT]at h
     |_=>simp[jT]at h
    |_=>simp[jT]at h
theorem acg {c':Cx} {b:Bool}: ∀(cs:List (Ty×Bool)) (cells:List bV) (ids:List (Nat×Nat)) {x} (vs:List Value),jT c.hp b cs cells=some x->bQ c cells vs->ids.length=(oz cs cells).length->
  (∀(k i v i' v':Nat),(oz cs cells)[k]? =some (i,v)->ids[k]? =some (i',v')-> ∀e xs,dR c.hp i=some (.arr e v xs)->dR c'.hp i'=some (.arr e v' xs)/\(c'.mu i').v=(c.mu i).v)->
  (∀t v x u,(t,false)∈cs->(b=true->lG v=false\/t.rigid=true)->(∀i∈refs v,i∈uu cs cells)->v.as c.hp t=some x->bY c v u->VD c' t x u)->bQ c' (GM cs ids x) vs:=by
 intro cs
 induction cs with
 |nil=>
  intro cells ids x vs h hv _ _ _;cases cells with
  |nil=>cases vs with
   |nil=>simp[GM,bQ]
   |cons=>simp[bQ]at hv
  |cons=>simp[jT]at h
 |cons tc cs ih=>
  intro cells ids x vs h hv hl hi hd;obtain⟨t,ob⟩:=tc;cases cells with
  |nil=>cases ob<;>simp[jT]at h
  |cons v cells=>
   cases vs with
   |nil=>simp[bQ]at hv
   |cons u vs=>
    simp only[bQ]at hv;cases ob with
    |false=>
     simp only[jT]at h;rw[cond_eq_ite]at h;split at h
     ·cases h
     ·rename_i hno
      split at h
      ·rename_i x1 hx1
       split at h
       ·rename_i y1 h2
        cases h;simp only[GM,bQ,bY];refine⟨hd t v x1 u (by simp) (fun hb=> ?_) (fun i hi=>by simp[uu,hi]) hx1 hv.1,ih cells ids vs h2 hv.2 (by simpa [oz] using hl) (fun k i v i' v' q1 q2=>hi k i v i' v' (by simpa [oz] using q1) q2) fun t v x u q1 q2 q3=>hd t v x u (aA _ q1) q2 fun i hi=>by simp[uu,q3 i hi]⟩;subst hb;simp only[aU,af,not_and,bD,Bool.not_eq_eq_eq_not,aG]at hno;cases ho:lG v with
        |false=>exact .inl rfl
        |true=>exact .inr (by simpa using hno ho)
       ·cases h
      ·cases h
    |true=>
     cases t with
     |list e=>
      cases v with
      |slc id ver vw=>
       cases vw with
       |none=>
        simp only[jT]at h;split at h
        ·rename_i t' v1 xs hg
         replace h:=dJ h;obtain⟨hver,h⟩:=h;have hver:v1=ver:=by simpa using hver
         subst hver;split at h
         ·rename_i x1 hx1
          split at h
          ·rename_i y1 h2
           cases h;have ee:=iM hx1;cases ee;rw[gW]at hx1;cases hx1;cases ids with
           |nil=>simp[oz]at hl
           |cons p ids=>
            obtain⟨i0,v0⟩:=p;simp only[GM,bQ];obtain⟨q1,q2⟩:=hi 0 id v1 i0 v0 (by simp[oz]) (by simp) _ _ hg;refine⟨?_,ih cells ids vs h2 hv.2 (by simpa [oz] using hl) (fun k i v i' v' q1 q2=>hi (k+1) i v i' v' (by simpa [oz] using q1) (by simpa using q2)) fun t v x u q1 q2 q3=>hd t v x u (aA _ q1) q2 fun i hi=>by simp only[uu];exact q3 i hi⟩;have h1:=hv.1;simp only[bY]at h1 ⊢;refine⟨h1.1,.inl ⟨_,q1⟩,fun t u xs' hh=> ?_⟩;rw[q1]at hh;cases hh;refine⟨ah _,fun _=> ?_⟩;have:=(h1.2.2 _ _ _ hg).2 rfl;simp only[jb]at this ⊢;rw[q2];exact this
          ·cases h
         ·cases h
        ·cases h
       |some p=>simp[jT]at h
      |_=>simp[jT]at h
     |_=>simp[jT]at h
theorem LG: ∀(cs:List (Ty×Bool)) (ids:List (Nat×Nat)) (x),List.Sublist ((um cs ids x).map (·.1)) (ids.map (·.1)):=by
 intro cs
 induction cs with
 |nil=>intro ids x;simp[um]
 |cons tc cs ih=>
  intro ids x;obtain⟨t,o⟩:=tc;cases o with
  |false=>simpa only[um] using ih ids x.2
  |true=>
   cases t with
   |list e=>
    cases ids with
    |nil=>simpa only[um] using ih [] x.2
    |cons p ids=>
     obtain⟨i,v⟩:=p;simp only[um,az];exact List.Sublist.cons_cons _ (ih ids x.2)
   |_=>simpa only[um] using ih ids x.2
theorem Ob: ∀(h:gZ) (i:Nat) (o:dN),(h.map (·.1)).Nodup->(i,o)∈h->dR h i=some o
 |(k,p)::h,i,o,hn,hm=>by
  simp only[az,List.nodup_cons]at hn;rw[eu];rcases List.mem_cons.1 hm with e|hm
  ·cases e;simp
  ·have:k≠i:=fun e=>hn.1 (e▸List.mem_map.2 ⟨_,hm,rfl⟩);rw[if_neg this];exact Ob h i o hn.2 hm
theorem oh: ∀(l h:gZ) (i:Nat),i∉l.map (·.1)->dR (Oc l h) i=dR h i
 |[],h,i,_=>rfl
 |(k,o)::l,h,i,hn=>by
  simp only[az,List.mem_cons,not_or]at hn;simp only[Oc];rw[oh l _ i hn.2,jD,if_neg (Ne.symm hn.1)]
theorem DY: ∀(l h:gZ) (i:Nat) (o:dN),(l.map (·.1)).Nodup->(i,o)∈l->(dR h i).isSome=true->dR (Oc l h) i=some o
 |(k,p)::l,h,i,o,hn,hm,hs=>by
  simp only[az,List.nodup_cons]at hn;simp only[Oc];rcases List.mem_cons.1 hm with e|hm
  ·have e1:=(Prod.mk.inj e).1;have e2:=(Prod.mk.inj e).2;subst e1 e2;rw[oh l _ i hn.1,jD,if_pos rfl];cases hg:dR h i with
   |none=>rw[hg]at hs;cases hs
   |some q=>rfl
  ·refine DY l _ i o hn.2 hm ?_;rw[jD];split
   ·rename_i e;subst e;cases hg:dR h k with
    |none=>rw[hg]at hs;cases hs
    |some q=>rfl
   ·exact hs
def Vf:List Nat->List Nat->(Nat->Loc)->(Nat->Loc)->Nat->Loc
 |a::qs,j::js,m1,m,i=>if a=i then m1 j else Vf qs js m1 m i
 |_,_,_,m,i=>m i
theorem TG {m1 m:Nat->Loc}: ∀(qs js:List Nat) (k a j:Nat),qs.Nodup->qs[k]? =some a->js[k]? =some j->Vf qs js m1 m a=m1 j
 |[],_,k,a,j,_,h,_=>by simp at h
 |_::_,[],k,a,j,_,_,h=>by simp at h
 |a0::qs,j0::js,0,a,j,_,h1,h2=>by
  simp only[List.getElem?_cons_zero,Option.some.injEq]at h1 h2;subst h1 h2;simp[Vf]
 |a0::qs,j0::js,k+1,a,j,hn,h1,h2=>by
  simp only[List.getElem?_cons_succ]at h1 h2;simp only[List.nodup_cons]at hn;have:a0≠a:=fun e=>hn.1 (e▸List.mem_of_getElem? h1);simp only[Vf,if_neg this];exact TG qs js k a j hn.2 h1 h2
theorem TJ {m1 m:Nat->Loc}: ∀(qs js:List Nat) (i:Nat),i∉qs->Vf qs js m1 m i=m i
 |[],_,i,_=>by simp[Vf]
 |_::_,[],i,_=>by simp[Vf]
 |a::qs,j::js,i,h=>by
  simp only[List.mem_cons,not_or]at h;simp only[Vf,if_neg (Ne.symm h.1)];exact TJ qs js i h.2
def azY (W0:World) (c:Cx) (s:gX) (z:((s.cs.map (·.1)).foldr Ty.pair Ty.unit).den×(s.rs.foldr Ty.pair Ty.unit).den):Ending->World->Prop:=fun e w'=>
 ∃(c1:Cx) (us:List Value) (cells:List bV),e=.returned (Na us)/\c1.w=w'/\c1.Ok W0/\c.Mono c1/\dR c1.hp 0=some (.box s.bt cells)/\(c1.mu 0).blk=(c.mu 0).blk/\
  ((oz s.cs cells).map (·.1)).Nodup/\jT c1.hp true s.cs cells=some z.1/\pz c1 s.rs z.2 us
def eF (P:Program) (g:FuncId) (s:gX):Prop:=
 ∀(W0:World) (c:Cx) x y z,c.Ok W0->c.mks=[]->c.nxt=0->c.hp=(0,.box s.bt (GM s.cs (jh s.cs 1) x))::um s.cs (jh s.cs 1) x-> ∀args':Array Value,bQ c (.ptr 0 0::Jk s.ps y) args'.toList->s.f x y=some z->
  (callFunc g args').run P c.w=.ok (.enter g args') c.w/\Calls P g args' c.w (azY W0 c s z)
theorem xU: ∀(cs:List (Ty×Bool)) (n:Nat),∀p∈jh cs n,p.2=0
 |[],n,p,h=>by simp[jh]at h
 |(_,true)::cs,n,p,h=>by
  simp only[jh,List.mem_cons]at h;rcases h with rfl|h
  ·rfl
  ·exact xU cs (n+1) p h
 |(_,false)::cs,n,p,h=>xU cs n p h
theorem LP: ∀(ps:List Ty) x (us:List Value),pz c ps x us->bQ c (Jk ps x) us
 |[],x,us,h=>by
  simp only[pz]at h;subst h;simp[Jk,bQ]
 |t::ps,x,us,h=>by
  obtain⟨u,us',rfl,h1,h2⟩:=h;simp only[Jk,bQ,bY];exact⟨h1,LP ps x.2 us' h2⟩
theorem pz.move {c' c2:Cx} (hw:c2.w=c'.w): ∀(ps:List Ty) x (us:List Value),((∀b,c'.free b->c2.free b)\/ps.all Ty.rigid=true)->pz c' ps x us->pz c2 ps x us
 |[],x,us,_,h=>h
 |t::ps,x,us,hr,h=>by
  obtain⟨u,us',rfl,h1,h2⟩:=h;refine⟨u,us',rfl,VD.move hw (hr.imp (fun h=>h) fun h=> ?_) h1,pz.move hw ps x.2 us' (hr.imp (fun h=>h) fun h=> ?_) h2⟩
  ·simp only[bg,af]at h;exact h.1
  ·simp only[bg,af]at h;exact h.2
theorem Wx: ∀(l:List bV) (v:bV),v∈l-> ∀i∈refs v,i∈oW l
 |u::l,v,hm,i,hi=>by
  simp only[oW,List.mem_append];rcases List.mem_cons.1 hm with e|hm
  ·subst e;exact .inl hi
  ·exact .inr (Wx l v hm i hi)
theorem aFZ {g:FuncId} {s:gX} (hs:eF P g s) {id:Nat} {qs:List bV} {st:St} {K:bV->St->Option R} (h:s.go id qs st K=some r) {a:Act} (hr:iY W0 b0 rd c st a ats) {us:Array Value} (hv:bQ c (.ptr id 0::qs) us.toList)
  (Rr:Ending->World->Prop) (hR: ∀c' z u st',K z st'=some r->iY W0 b0 rd c' st' a ats->bY c' z u->c.Mono c'->Rr (.returned u) c'.w):
  (callFunc g us).run P c.w=.ok (.enter g us) c.w/\Calls P g us c.w Rr:=by
 unfold gX.go at h;split at h<;>try (cases h;done)
 rename_i t cells hbx
 replace h:=dJ h;obtain⟨hc,h⟩:=h;simp only[af,Bool.or_eq_true,Bool.not_eq_true']at hc;obtain⟨ht,⟨hnd,hno⟩,hrg⟩:=hc;have ht:t=s.bt:=au ht;subst ht;split at h<;>try (cases h;done)
 rename_i x hx
 split at h<;>try (cases h;done)
 rename_i y hy
 cases hz:s.f x y with
 |none=>rw[hz]at h;cases h
 |some z=>
 rw[hz]at h;simp only[bM]at h;rw[<-hr.hp]at hbx hx hy;have hnd:=Ee hnd;have hno:=yw hno;generalize hown:oz s.cs cells=own at*;have hok:=hr.ok;obtain⟨hB,vs,hw,hvs,hone⟩:=hok.obj id _ hbx;have harr: ∀(k i v:Nat),own[k]? =some (i,v)-> ∃(e:Ty) (xs:List e.den),dR c.hp i=some (.arr e v xs):=fun k i v hk=>by
  obtain⟨e,xs,h1,_⟩:=YK s.cs cells own hx k i v i v (by rw[hown];exact hk) hk;exact⟨e,xs,h1⟩
 have hidx: ∀p∈own,∃k:Nat,own[k]? =some p:=fun p hp=>List.getElem?_of_mem hp;have hidn:id∉own.map (·.1):=fun hm=>by
  obtain⟨p,hp,rfl⟩:=List.mem_map.1 hm;obtain⟨k,hk⟩:=hidx p hp;obtain⟨e,xs,h1⟩:=harr k p.1 p.2 hk;rw[hbx]at h1;cases h1
 let S:Nat->Prop:=fun i=>i=id\/i∈own.map (·.1)
 have hSo: ∀i,S i-> ∃o,dR c.hp i=some o/\ ∀f fr ps jC bd ky n p,o≠ .lp f fr ps jC bd ky n p:=fun i hi=>by
  rcases hi with rfl|hi
  ·exact⟨_,hbx,by simp⟩
  ·obtain⟨p,hp,rfl⟩:=List.mem_map.1 hi;obtain⟨k,hk⟩:=hidx p hp;obtain⟨e,xs,h1⟩:=harr k p.1 p.2 hk;exact⟨_,h1,by simp⟩
 let ownS:Nat->Prop:=fun b=> ∃i o,S i/\dR c.hp i=some o/\o.blk (c.mu i)=some b
 have hownS: ∀b,ownS b->c.own b:=fun b ⟨i,o,_,h1,h2⟩=>⟨i,o,h1,h2⟩
 let c0:Cx:=⟨fun k=>if k=0 then c.mu id else Vf ((jh s.cs 1).map (·.1)) (own.map (·.1)) c.mu c.mu k,(0,.box s.bt (GM s.cs (jh s.cs 1) x))::um s.cs (jh s.cs 1) x,0,c.w,[],fun b=>s.rigid=false/\b<c.w.heap.size/\ ¬c.free b/\ ¬ownS b⟩
 have hlen:(jh s.cs 1).length=own.length:=by rw[<-hown];exact Wu s.cs cells hx 1
 have hmu0: ∀(k i v i':Nat),own[k]? =some (i,v)->(jh s.cs 1)[k]? =some (i',0)->i'≠0/\c0.mu i'=c.mu i:=fun k i v i' h1 h2=>by
  have h3:=Fa s.cs 1 _ (List.mem_of_getElem? h2);refine⟨by simp at h3;omega, ?_⟩;have h4:i'≠0:=by simp at h3;omega
  simp only[c0,if_neg h4];exact TG _ _ k i' i (uZ s.cs 1) (by rw[List.getElem?_map,h2];rfl) (by rw[List.getElem?_map,h1];rfl)
 have get0: ∀(i':Nat) (o:dN),dR c0.hp i'=some o->(i'=0/\o=.box s.bt (GM s.cs (jh s.cs 1) x))\/
   ∃(k i v:Nat) (e:Ty) (xs:List e.den),own[k]? =some (i,v)/\(jh s.cs 1)[k]? =some (i',0)/\o=.arr e 0 xs/\dR c.hp i=some (.arr e v xs):=fun i' o ho=>by
  simp only[c0,eu]at ho;split at ho
  ·rename_i e
   cases ho;exact .inl ⟨e.symm,rfl⟩
  ·right;obtain⟨k,i,v,v',e,xs,q1,q2,q3,q4,_⟩:=Wi s.cs cells (jh s.cs 1) hx (by rw[hown];exact hlen) i' o (Ai _ _ _ ho);rw[hown]at q1;have:=xU s.cs 1 _ (List.mem_of_getElem? q2);simp only at this;subst this;exact⟨k,i,v,e,xs,q1,q2,q3,q4⟩
 have hown0: ∀b,c0.own b->ownS b:=fun b ⟨i',o,h1,h2⟩=>by
  rcases get0 i' o h1 with ⟨rfl,rfl⟩|⟨k,i,v,e,xs,q1,q2,rfl,q4⟩
  ·exact⟨id,_,.inl rfl,hbx,by simpa [c0,dN.blk] using h2⟩
  ·rw[(hmu0 k i v i' q1 q2).2]at h2;exact⟨i,_,.inr (List.mem_map.2 ⟨_,List.mem_of_getElem? q1,rfl⟩),q4,h2⟩
 have hfree0: ∀b,c.free b->c0.free b/\c0.w.heap[b]? =c.w.heap[b]? :=fun b hb=>⟨⟨hb.1,fun ho=>hb.2.1 (hownS b (hown0 b ho)),by simp[c0],fun hbar=>hbar.2.2.1 hb⟩,rfl⟩;have conv: ∀(t:Ty) (v:bV) (x:t.den) (u:Value),(∀i ver vw,v=.slc i ver vw->s.rigid=true/\i≠id/\i∉own.map (·.1))->v.as c.hp t=some x->bY c v u->VD c0 t x u:=fun t v x u hcond h1 h2=>by
  refine ae7 hok hfree0 (fun i ver vw hvw o b h3 h4=> ?_) h1 h2;obtain⟨h5,h6,h7⟩:=hcond i ver vw hvw;refine⟨⟨((hok.obj i o h3).lt h4).2,fun ho=> ?_,by simp[c0],fun hbar=>by have:=hbar.1;rw[h5]at this;cases this⟩,rfl⟩;obtain⟨j,o',hj,h8,h9⟩:=hown0 b ho;have:=hok.inj i j o o' b h3 h8 h4 h9;subst this;rcases hj with hj|hj
  ·exact h6 hj
  ·exact h7 hj
 have hnot: ∀i,i∈oW qs++uu s.cs cells->i≠id/\i∉own.map (·.1):=fun i hi=>by
  have:=hno i hi;simp only[List.mem_cons,not_or]at this;exact this
 have hok0:c0.Ok W0:=by
  refine⟨hok.bel,fun i' o ho=> ?_,fun i j o p b h1 h2 h3 h4=> ?_,fun r hr=>by simp[c0]at hr,fun b hb=>⟨hb.2.1,fun ho=>hb.2.2.2 (hown0 b ho),by simp[c0]⟩,hok.phi⟩
  ·rcases get0 i' o ho with ⟨rfl,rfl⟩|⟨k,i,v,e,xs,q1,q2,rfl,q4⟩
   ·refine⟨by simpa [c0] using hB,vs,by simpa [c0] using hw, ?_,hone⟩;refine acg s.cs cells (jh s.cs 1) vs.toList hx hvs (by rw[hown];exact hlen) (fun k i v i' v' q1 q2 e xs q3=> ?_) fun t v x u q1 q2 q3 q4 q5=>conv t v x u (fun i ver vw hvw=> ?_) q4 q5
    ·rw[hown]at q1;have hz0:=xU s.cs 1 _ (List.mem_of_getElem? q2);simp only at hz0;subst hz0;obtain⟨h6,h7⟩:=hmu0 k i v i' q1 q2;refine⟨?_,by rw[h7]⟩;obtain⟨e2,xs2,h8,h9⟩:=YK s.cs cells (jh s.cs 1) hx k i v i' 0 (by rw[hown];exact q1) q2;rw[q3]at h8;cases h8;have dR:=Ob _ _ _ (List.Sublist.nodup (LG s.cs (jh s.cs 1) x) (uZ s.cs 1)) h9;simp only[c0,eu,if_neg (Ne.symm h6)];exact dR
    ·subst hvw;obtain⟨h6,h7⟩:=hnot i (List.mem_append_right _ (q3 i (by simp[refs])));refine⟨?_,h6,h7⟩;cases hrg2:s.rigid with
     |true=>rfl
     |false=>
      rcases q2 (by rw[hrg2];rfl)with h8|h8
      ·simp[lG]at h8
      ·cases t<;>simp[Ty.rigid]at h8<;>simp[bV.as]at q4
   ·obtain⟨hpos,el,zs,w1,w2,w3⟩:=hok.obj i _ q4;refine⟨hpos,el,zs,by rw[(hmu0 k i v i' q1 q2).2];exact w1,gz.mono (fO.mono hfree0 e) _ _ w2,w3⟩
  ·rcases get0 i o h1 with ⟨rfl,rfl⟩|⟨k,i1,v,e,xs,q1,q2,rfl,q4⟩<;>rcases get0 j p h2 with ⟨rfl,rfl⟩|⟨k',i2,v',e',xs',q1',q2',rfl,q4'⟩
   ·rfl
   ·rw[(hmu0 k' i2 v' j q1' q2').2]at h4;have:=hok.inj id i2 _ _ b hbx q4' (by simpa [c0,dN.blk] using h3) h4;subst this;rw[hbx]at q4';cases q4'
   ·rw[(hmu0 k i1 v i q1 q2).2]at h3;have:=hok.inj id i1 _ _ b hbx q4 (by simpa [c0,dN.blk] using h4) h3;subst this;rw[hbx]at q4;cases q4
   ·rw[(hmu0 k i1 v i q1 q2).2]at h3;rw[(hmu0 k' i2 v' j q1' q2').2]at h4;have:=hok.inj i1 i2 _ _ b q4 q4' h3 h4;subst this;have hkk:k=k':=by
     have e1:(own.map (·.1))[k]? =some i1:=by rw[List.getElem?_map,q1];rfl
     have e2:(own.map (·.1))[k']? =some i1:=by rw[List.getElem?_map,q1'];rfl
     exact(List.getElem?_inj (List.getElem?_eq_some_iff.1 e1).1 hnd).1 (e1.trans e2.symm)
    subst hkk;rw[q2]at q2';cases q2';rfl
 obtain⟨us⟩:=us;cases us with
 |nil=>simp[bQ]at hv
 |cons u0 us=>
 simp only[bQ]at hv;obtain⟨hu0,hqs⟩:=hv;have hv0:bQ c0 (.ptr 0 0::Jk s.ps y) (u0::us):=by
  simp only[bQ];refine⟨?_,LP s.ps y us (zQ s.ps qs y us hy hqs fun t v x u hm h1 h2=>conv t v x u (fun i ver vw hvw=> ?_) h1 h2)⟩
  ·simp only[bY]at hu0 ⊢;exact⟨hu0.1,.inl ⟨_,by simp[c0,eu];rfl⟩,fun t' cs' _=>by simpa [c0] using hu0.2.2 _ _ hbx⟩
  ·subst hvw;have hm2:i∈oW qs:=Wx _ _ hm i (by simp[refs]);obtain⟨h6,h7⟩:=hnot i (List.mem_append_left _ hm2);refine⟨?_,h6,h7⟩;rcases hrg with hrg|hrg
   ·exact hrg
   ·have:=List.any_eq_false.1 hrg _ hm;simp[lG]at this
 obtain⟨hrun,hcall⟩:=hs W0 c0 x y z hok0 rfl rfl rfl ⟨u0::us⟩ hv0 hz;refine⟨hrun,hcall.mono ?_⟩;rintro e w' ⟨c1,us1,cells1,rfl,rfl,hok1,hm1,hb1,hblk1,hnd1,hx1,hdv⟩
 let ids2:List (Nat×Nat):=own.map fun p=>(p.1,p.2+1)
 generalize hown1:oz s.cs cells1=own1 at*
 let c2:Cx:=⟨fun i=>if i=id then c.mu id else Vf (own.map (·.1)) (own1.map (·.1)) c1.mu c.mu i,ji (Oc (um s.cs ids2 z.1) c.hp) id (.box s.bt (GM s.cs ids2 z.1)),c.nxt,c1.w,c.mks,c.bar⟩
 have hlen1:own1.length=own.length:=by rw[<-hown1,<-Wu s.cs cells1 hx1 1,hlen]
 have hlen2:ids2.length=(oz s.cs cells1).length:=by rw[hown1];simp[ids2,hlen1]
 have hkeys:(ids2.map (·.1))=own.map (·.1):=by simp[ids2,List.map_map,Function.comp_def]
 have hndk:((um s.cs ids2 z.1).map (·.1)).Nodup:=List.Sublist.nodup (LG s.cs ids2 z.1) (by rw[hkeys];exact hnd);have hsubk: ∀i,i∈(um s.cs ids2 z.1).map (·.1)->i∈own.map (·.1):=fun i hi=>by
  have:=(LG s.cs ids2 z.1).subset hi;rwa [hkeys]at this
 have get2: ∀(k i v:Nat),own[k]? =some (i,v)-> ∃(j w:Nat) (e:Ty) (xs:List e.den),own1[k]? =some (j,w)/\dR c1.hp j=some (.arr e w xs)/\dR c2.hp i=some (.arr e (v+1) xs)/\c2.mu i=c1.mu j/\(.list e,true)∈s.cs:=fun k i v hk=>by
  have hk1:k<own1.length:=by rw[hlen1];exact(List.getElem?_eq_some_iff.1 hk).1
  obtain⟨⟨j,w⟩,hj⟩: ∃p,own1[k]? =some p:=⟨_,List.getElem?_eq_getElem hk1⟩;have hid2:ids2[k]? =some (i,v+1):=by simp[ids2,List.getElem?_map,hk]
  obtain⟨e,xs,h1,h2⟩:=YK s.cs cells1 ids2 hx1 k j w i (v+1) (by rw[hown1];exact hj) hid2;obtain⟨k',i1,v1,v2,e',xs',q1,q2,q3,q4,q5⟩:=Wi s.cs cells1 ids2 hx1 hlen2 i _ h2;have him:i∈own.map (·.1):=List.mem_map.2 ⟨_,List.mem_of_getElem? hk,rfl⟩;have hne:id≠i:=fun e=>hidn (e▸him);obtain⟨e0,xs0,h0⟩:=harr k i v hk;refine⟨j,w,e,xs,hj,h1, ?_, ?_, ?_⟩
  ·simp only[c2];rw[jD,if_neg hne];exact DY _ _ _ _ hndk h2 (by rw[h0];rfl)
  ·simp only[c2,if_neg (Ne.symm hne)];exact TG _ _ k i j hnd (by rw[List.getElem?_map,hk];rfl) (by rw[List.getElem?_map,hj];rfl)
  ·cases q3;exact q5
 have get2id:dR c2.hp id=some (.box s.bt (GM s.cs ids2 z.1)):=by
  simp only[c2];rw[jD,if_pos rfl,oh _ _ _ fun h=>hidn (hsubk id h),hbx];rfl
 have mu2id:c2.mu id=c.mu id:=by simp[c2]
 have hm0:(c1.mu 0).blk=(c.mu id).blk:=by rw[hblk1];simp[c0]
 have new2: ∀(i:Nat) (o':dN),S i->dR c2.hp i=some o'-> ∃j o1,dR c1.hp j=some o1/\o1.blk (c1.mu j)=o'.blk (c2.mu i)/\((i=id/\j=0/\o1=.box s.bt cells1)\/ ∃(k v w:Nat),own[k]? =some (i,v)/\own1[k]? =some (j,w)/\ ∃(e:Ty) (xs:List e.den),o1=.arr e w xs):=fun i o' hi ho=>by
  rcases hi with rfl|hi
  ·rw[get2id]at ho;cases ho;exact⟨0,_,hb1,by simp[dN.blk,mu2id,hm0],.inl ⟨rfl,rfl,rfl⟩⟩
  ·obtain⟨p,hp,rfl⟩:=List.mem_map.1 hi;obtain⟨k,hk⟩:=hidx p hp;obtain⟨j,w,e,xs,q1,q2,q3,q4,_⟩:=get2 k p.1 p.2 hk;rw[q3]at ho;cases ho;exact⟨j,_,q2,by simp only[dN.blk];rw[q4],.inr ⟨k,p.2,w,hk,q1,e,xs,rfl⟩⟩
 have out1: ∀b,b<c.w.heap.size-> ¬ownS b->c1.out b/\c1.w.heap[b]? =c.w.heap[b]? :=fun b hb hn=>hm1.out b ⟨hb,fun ho=>hn (hown0 b ho),by simp[c0]⟩;obtain⟨hle,hmk⟩:=Cx.many (c2:=c2) hok S rfl rfl rfl (fun i hi=>by
   have h1:i≠id:=fun e=>hi (.inl e);have h2:i∉own.map (·.1):=fun e=>hi (.inr e);refine⟨?_,by simp only[c2,if_neg h1];exact TJ _ _ _ h2⟩;simp only[c2];rw[jD,if_neg (Ne.symm h1),oh _ _ _ fun h=>h2 (hsubk i h)])
  (fun i hi=>by
   rcases hi with rfl|hi
   ·exact⟨_,_,hbx,get2id,by simp[dN.like,mu2id],by simp⟩
   ·obtain⟨p,hp,rfl⟩:=List.mem_map.1 hi;obtain⟨k,hk⟩:=hidx p hp;obtain⟨j,w,e,xs,q1,q2,q3,q4,_⟩:=get2 k p.1 p.2 hk;obtain⟨e0,xs0,h0⟩:=harr k p.1 p.2 hk;exact⟨_,_,h0,q3,⟨by omega,fun e=>by omega⟩,by simp⟩)
  hok1.bel hm1.size (fun b hb hn=>(out1 b hb fun⟨i,o,h1,h2,h3⟩=>hn i o h1 h2 h3).2)
  (fun i o' b hi ho hb=>by
   by_cases hlt:b<c.w.heap.size
   ·right;refine Classical.byContradiction fun hn=> ?_;obtain⟨j,o1,h1,h2,_⟩:=new2 i o' hi ho;exact(out1 b hlt fun⟨j,o,h3,h4,h5⟩=>hn ⟨j,o,h3,h4,h5⟩).1.2.1 ⟨j,o1,h1,h2.trans hb⟩
   ·left;omega)
  (fun i i' o' p' b hi hi' ho hp hb hb'=>by
   obtain⟨j,o1,h1,h2,h3⟩:=new2 i o' hi ho;obtain⟨j',o1',h1',h2',h3'⟩:=new2 i' p' hi' hp;have hj:=hok1.inj j j' o1 o1' b h1 h1' (h2.trans hb) (h2'.trans hb');subst hj;rw[h1]at h1';cases h1';rcases h3 with ⟨rfl,rfl,rfl⟩|⟨k,v,w,q1,q2,e,xs,rfl⟩
   ·rcases h3' with ⟨rfl,_⟩|⟨k',v',w',q1',q2',e',xs',he⟩
    ·rfl
    ·cases he
   ·rcases h3' with ⟨_,_,he⟩|⟨k',v',w',q1',q2',e',xs',he⟩
    ·cases he
    ·have hkk:k=k':=by
      have e1:(own1.map (·.1))[k]? =some j:=by rw[List.getElem?_map,q2];rfl
      have e2:(own1.map (·.1))[k']? =some j:=by rw[List.getElem?_map,q2'];rfl
      exact(List.getElem?_inj (List.getElem?_eq_some_iff.1 e1).1 hnd1).1 (e1.trans e2.symm)
     subst hkk;rw[q1]at q1';cases q1';rfl)
  (fun b L i o hi ho hb=>by
   obtain⟨o2,h1,h2⟩:=hSo i hi;rw[ho]at h1;cases h1;exact(hok.obj i o ho).no_loop h2 hb)
 have hfree2:s.rigid=true\/ ∀b,c1.free b->c2.free b:=by
  cases hrg2:s.rigid with
  |true=>exact .inl rfl
  |false=>
   right;intro b hb;have hbar1: ∀b,b<c.w.heap.size-> ¬c.free b-> ¬ownS b-> ¬c1.free b:=fun b h1 h2 h3 hf=>hf.2.2.2 (by rw[hm1.bar];exact⟨hrg2,h1,h2,h3⟩);refine⟨hb.1, ?_,fun hm=> ?_,fun hm=> ?_⟩
   ·rintro ⟨i,o',h1,h2⟩;by_cases hi:S i
    ·obtain⟨j,o1,h3,h4,_⟩:=new2 i o' hi h1;exact hb.2.1 ⟨j,o1,h3,h4.trans h2⟩
    ·have h1':i≠id:=fun e=>hi (.inl e);have h2':i∉own.map (·.1):=fun e=>hi (.inr e);simp only[c2]at h1 h2;rw[jD,if_neg (Ne.symm h1'),oh _ _ _ fun h=>h2' (hsubk i h)]at h1;rw[if_neg h1',TJ _ _ _ h2']at h2;refine hbar1 b ((hok.obj i o' h1).lt h2).2 (fun hf=>hf.2.1 ⟨i,o',h1,h2⟩) ?_ hb;rintro ⟨j,o,hj,h3,h4⟩;have:=hok.inj i j o' o b h1 h3 h2 h4;subst this;exact hi hj
   ·exact hbar1 b (hok.mark_lt hm) (fun hf=>hf.2.2.1 hm) (fun ho=>hok.mark_own hm (hownS b ho)) hb
   ·exact hbar1 b (hok.bar b hm).1 (fun hf=>hf.2.2.2 hm) (fun ho=>(hok.bar b hm).2.1 (hownS b ho)) hb
 have hrgc:s.rigid=true->(∀p∈s.cs,p.1.rigid=true\/p.2=true/\p.1.elem.rigid=true)/\s.rs.all Ty.rigid=true:=fun h=>by
  simp only[gX.rigid,af]at h;exact⟨fun p hp=>by have:=List.all_eq_true.1 h.1 p hp;simpa using this,h.2⟩
 have hok2:c2.Ok W0:=hmk fun i o' hi ho=>by
  rcases hi with rfl|hi
  ·rw[get2id]at ho;cases ho;obtain⟨hB1,vs1,hw1,hvs1,hone1⟩:=hok1.obj 0 _ hb1;refine⟨by rw[mu2id];exact hB,vs1,by rw[mu2id,<-hm0];exact hw1, ?_,hone1⟩;refine acg s.cs cells1 ids2 vs1.toList hx1 hvs1 hlen2 (fun k j w i v q1 q2 e xs q3=> ?_) fun t v x u q1 q2 q3 q4 q5=> ?_
   ·rw[hown1]at q1;have hk: ∃v0,own[k]? =some (i,v0)/\v=v0+1:=by
     simp only[ids2,List.getElem?_map,Option.map_eq_some_iff]at q2;obtain⟨p,hp1,hp2⟩:=q2;cases hp2;exact⟨p.2,hp1,rfl⟩
    obtain⟨v0,hk,rfl⟩:=hk;obtain⟨j',w',e',xs',p1,p2,p3,p4,_⟩:=get2 k i v0 hk;rw[q1]at p1;cases p1;rw[q3]at p2;cases p2;exact⟨p3,by rw[p4]⟩
   ·rcases hfree2 with hf|hf
    ·have ht:t.rigid=true:=by
      rcases(hrgc hf).1 (t,false) q1 with h|h
      ·exact h
      ·cases h.1
     cases ho:lG v with
     |false=>exact VD.move (c':=c1) (c2:=c2) rfl (.inr ht) (Jc (cb:=c1) (fun b hb=>⟨hb,rfl⟩) ho q4 q5)
     |true=>
      refine VD.move (c':=c1) (c2:=c2) rfl (.inr ht) (ae7 (cb:=c1) hok1 (fun b hb=>⟨hb,rfl⟩) (fun i ver vw hvw=> ?_) q4 q5);subst hvw;cases t<;>simp[Ty.rigid]at ht<;>simp[bV.as]at q4
    ·refine VD.move (c':=c1) (c2:=c2) rfl (.inl hf) (ae7 (cb:=c1) hok1 (fun b hb=>⟨hb,rfl⟩) (fun i ver vw hvw=> ?_) q4 q5);subst hvw;rcases q2 rfl with h8|h8
     ·simp[lG]at h8
     ·cases t<;>simp[Ty.rigid]at h8<;>simp[bV.as]at q4
  ·obtain⟨p,hp,rfl⟩:=List.mem_map.1 hi;obtain⟨k,hk⟩:=hidx p hp;obtain⟨j,w,e,xs,q1,q2,q3,q4,q5⟩:=get2 k p.1 p.2 hk;rw[q3]at ho;cases ho;obtain⟨hpos,el,zs,w1,w2,w3⟩:=hok1.obj j _ q2;refine⟨hpos,el,zs,by rw[q4];exact w1,gz.move (c':=c1) (c2:=c2) rfl ?_ w2,w3⟩;rcases hfree2 with hf|hf
   ·right;rcases(hrgc hf).1 _ q5 with h|h
    ·simp[Ty.rigid]at h
    ·exact h.2
   ·exact .inl hf
 have hd:Dj W0 c st c2 {st with hp:=ji (Oc (um s.cs ids2 z.1) st.hp) id (.box s.bt (GM s.cs ids2 z.1))}:=⟨by simp[c2,hr.hp],hr.nxt,rfl,rfl,hok2,hle⟩;exact hR c2 _ _ _ h (hr.did hd) (AC (LP s.rs z.2 us1 (pz.move (c':=c1) (c2:=c2) rfl s.rs z.2 us1 (hfree2.symm.imp (fun h=>h) fun h=>(hrgc h).2) hdv))) hle.mono
theorem acw {cl:Bool}: ∀(cs:List (Ty×Bool)) (n:Nat) (cells:List bV) (st:St) (K:List bV->St->Option R),sW cl n cs cells st K=some r-> ∀(c:Cx) (vs:List Value),c.Ok W0->c.hp=st.hp->c.nxt=st.nxt->bQ c cells vs->
  ∃c' st' cells',Dj W0 c st c' st'/\c'.w=c.w/\bQ c' cells' vs/\K cells' st'=some r/\ ∀i o,dR st.hp i=some o->dR st'.hp i=some o:=by
 have plain: ∀(cells:List bV) (st:St) (K:List bV->St->Option R),K cells st=some r-> ∀(c:Cx) (vs:List Value),c.Ok W0->c.hp=st.hp->c.nxt=st.nxt->bQ c cells vs->
   ∃c' st' cells',Dj W0 c st c' st'/\c'.w=c.w/\bQ c' cells' vs/\K cells' st'=some r/\ ∀i o,dR st.hp i=some o->dR st'.hp i=some o:=
  fun cells st K h c vs hok h1 h2 hv=>⟨c,st,cells,Dj.refl hok h1 h2,rfl,hv,h,fun i o h=>h⟩
 intro cs
 induction cs with
 |nil=>intro n cells st K h;cases cells<;>exact plain _ st K h
 |cons tc cs ih=>
  intro n cells st K h c vs hok h1 h2 hv;cases cells with
  |nil=>exact plain _ st K (by obtain⟨t,o⟩:=tc;cases o<;>cases t<;>simpa only[sW] using h) c vs hok h1 h2 hv
  |cons v cells=>
   cases vs with
   |nil=>simp[bQ]at hv
   |cons u vs=>
    have step:sW cl (n+1) cs cells st (fun l st=>K (v::l) st)=some r-> ∃c' st' cells',Dj W0 c st c' st'/\c'.w=c.w/\bQ c' cells' (u::vs)/\K cells' st'=some r/\ ∀i o,dR st.hp i=some o->dR st'.hp i=some o:=fun h=>by
     simp only[bQ]at hv;obtain⟨c',st',cells',hd,hw,hv',hK,hp⟩:=ih (n+1) cells st _ h c vs hok h1 h2 hv.2;exact⟨c',st',v::cells',hd,hw,by simp only[bQ];exact⟨bY.le hd.le _ _ hv.1,hv'⟩,hK,hp⟩
    obtain⟨t,o⟩:=tc;cases o with
    |false=>exact step (by simpa only[sW] using h)
    |true=>
     cases t with
     |list e=>
      cases v with
      |nils=>
       simp only[sW]at h;replace h:=dJ h;obtain⟨hpos,h⟩:=h;have hpos:0<e.size:=by simpa [OY] using hpos
       obtain⟨id,n',h3,h4,h5,h⟩:=jk h;simp only[bQ]at hv;have hu:=hv.1;simp only[bY]at hu;subst hu;obtain⟨c1,hd1,hw1,hv1⟩:=qX hok h1 h2 h3 h4 h5 (y:=e) hpos (xs:=[]) (v:=.slice none 0 0) (w:=c.w) (Below.refl _ _) o8 [] ⟨by simp,.inl ⟨rfl,rfl⟩⟩ (by simp[gz]) rfl (fun _=>rfl);obtain⟨c',st',cells',hd,hw,hv',hK,hp⟩:=ih (n+1) cells _ _ h c1 vs hd1.ok hd1.hp hd1.nxt (bQ.le hd1.le _ _ hv.2);refine⟨c',st',.slc id 0 none::cells',hd1.trans hd,hw.trans hw1,by simp only[bQ];exact⟨bY.le hd.le _ _ hv1,hv'⟩,hK,fun i o ho=>hp i o ?_⟩;have:id≠i:=fun e=>by subst e;rw[h3]at ho;cases ho
       simp only[eu,if_neg this];exact ho
      |_=>exact step (by simpa only[sW] using h)
     |_=>exact step (by simpa only[sW] using h)
theorem aE6 {g:FuncId} {s:gX} (hs:eF P g s) (cl:Bool) (n:Nat):mi (R:=R) P W0 n (NK g s cl):=by
 intro b0 rd fv args dst st K r h c a ats fv' args' hr hfv hargs o next Q hn
 cases fv with
 |fn g' caps=>
  simp only[NK]at h;split at h
  ·rename_i hg
   subst hg;simp only[bY]at hfv;obtain⟨vs,rfl,hcaps⟩:=hfv;have hall:=bQ.append_arr hargs hcaps;have key: ∀Rr:Ending->World->Prop,(∀c' z u st',K z st'=some r->iY W0 b0 rd c' st' a ats->bY c' z u->c.Mono c'->Rr (.returned u) c'.w)->
     (callFunc g' (args'++vs)).run P c.w=.ok (.enter g' (args'++vs)) c.w/\Calls P g' (args'++vs) c.w Rr:=by
    intro Rr hRr;generalize args++caps=al at h hall;unfold gX.call at h;split at h<;>try (cases h;done)
    rename_i id qs
    split at h<;>try (cases h;done)
    rename_i t cells hbx
    rw[cond_eq_ite]at h;split at h
    ·rw[<-hr.hp]at hbx;obtain⟨hB,vs0,hw,hvs,hone⟩:=hr.ok.obj id _ hbx;obtain⟨c',st',cells',hd,hw',hv',hK,hp⟩:=acw s.cs _ cells st _ h c vs0.toList hr.ok hr.hp hr.nxt hvs;have hr':=hr.did hd;have hbx':dR c'.hp id=some (.box t cells):=by rw[hr'.hp];exact hp id _ (by rw[<-hr.hp];exact hbx)
     obtain⟨o1,q1,q2⟩:=hd.le.obj id _ (.inl ⟨_,hbx⟩) hbx';rw[hbx]at q1;cases q1;simp only[dN.like]at q2;have hlike:dN.like (.box t cells) (c'.mu id) (.box t cells') (c'.mu id):=rfl;have hll: ∀b,(dN.box t cells').blk (c'.mu id)=some b->(dN.box t cells).blk (c'.mu id)=some b\/c'.w.heap.size<=b:=fun b hb=>.inl hb;have hlp: ∀(b:Nat) (L:Loop),(dN.box t cells).blk (c'.mu id)=some b->c'.w.heap[b]? =some (Obj.loop L)-> ∃L':Loop,c'.w.heap[b]? =some (Obj.loop L'):=fun b L _ hL=>⟨L,hL⟩;have hle:=Cx.Le.put (w:=c'.w) hr'.ok hbx' hlike (ah _) (fun b _ _=>rfl) hll hlp;have hput:Dj W0 c' st' (c'.put id (.box t cells') (c'.mu id) c'.w) {st' with hp:=ji st'.hp id (.box t cells')}:=by
      refine⟨by simp only[Cx.put];rw[hr'.hp],hr'.nxt,rfl,rfl,Cx.Ok.put hr'.ok hbx' hlike hr'.ok.bel (ah _) (fun b _ _=>rfl) hll hlp ?_,hle⟩;refine⟨by simp only[Cx.put,upd_same];rw[q2];exact hB,vs0,by simp only[Cx.put,upd_same];rw[q2,hw'];exact hw,bQ.le hle _ _ hv',hone⟩
     have hd2:=hd.trans hput;have hG:=aFZ hs hK (hr.did hd2) (bQ.le hd2.le _ _ hall) Rr fun c3 z u st3 k1 k2 k3 k4=>hRr c3 z u st3 k1 k2 k3 (hd2.le.mono.trans k4);change (callFunc g' (args'++vs)).run P c'.w=.ok (.enter g' (args'++vs)) c'.w/\Calls P g' (args'++vs) c'.w Rr at hG;rw[hw']at hG;exact hG
    ·exact aFZ hs h hr hall Rr hRr
   obtain⟨q1,q2⟩:=key (fun e w''=>match e with
     |.returned v=>next (a.put o.dst v) w''
     |.panicked chain=>Q (.panic chain) a w''
     |.outgrown=>LetsOut Q) (fun c' z u st' k1 k2 k3 k4=>hn c' z u st' k1 k2 k3 k4)
   rw[qp,q1];exact⟨ui rd,(zT q2).mono fun e w'' he=>by cases e<;>exact he⟩
  ·cases h
 |_=>simp[NK]at h
end
end
section
open Bool renaming and_eq_true → af
open List renaming length_cons → ak, length_nil → aY, all_cons → bg
open Nat renaming le_trans → aW, lt_of_lt_of_le → bI
open Go.RowKit
section
variable {P:Program} {T:TT} {W0:World} {b0:Nat} {rd:Option Nat} {R:Type} {r:R} {c:Cx} {ats:List (Array Value)}
theorem aGB {g:FuncId} {s:Sum} (hs:dY P g s) (cl:Bool) (n:Nat):mi (R:=R) P W0 n (ES g s cl):=by
 intro b0 rd fv args dst st K r h c a ats fv' args' hr hfv hargs o next Q hn
 cases fv with
 |fn g' caps=>
  simp only[ES]at h;split at h
  ·rename_i hg
   subst hg;simp only[bY]at hfv;obtain⟨vs,rfl,hcaps⟩:=hfv;have hall:=bQ.append_arr hargs hcaps;obtain⟨hc,x,y,hx,hy,h2⟩:=aeS h;rw[<-hr.hp]at hx;obtain⟨bar,hbar,hdv,hfree⟩: ∃bar:Nat->Prop,(∀b,bar b->b<c.w.heap.size)/\pz (kM c.w bar) s.ps x (args'++vs).toList/\
     ((s.rs.all fun r=>r.1.rigid||(r.2&&r.1.elem.rigid))=true\/bar=fun b=>b<c.w.heap.size/\ ¬c.free b):=by
    rcases hc with hc|hc
    ·refine⟨fun _=>False,fun b h=>h.elim,zQ s.ps _ x _ hx hall fun t v x u _ h1 h2=>ahI hr.ok (fun b hb=>⟨H8.2 ⟨hb,fun h=>h⟩,rfl⟩) h1 h2,.inl hc⟩
    ·refine⟨fun b=>b<c.w.heap.size/\ ¬c.free b,fun b h=>h.1,zQ s.ps _ x _ hx hall fun t v x u hm h1 h2=>Jc (fun b hb=>⟨H8.2 ⟨hb.1,fun h=>h.2 hb⟩,rfl⟩) ?_ h1 h2,.inr rfl⟩
     grind
   have key: ∀e w'',xM c.w bar s.rs y e w''->(match e with
     |.returned v=>next (a.put o.dst v) w''
     |.panicked chain=>Q (.panic chain) a w''
     |.outgrown=>LetsOut Q):= ?_
   ·rw[qp];rcases hs c.w bar (args'++vs) x y hr.ok.phiw hbar hdv hy with ⟨h3,h4⟩|⟨u,h3,h4⟩
    ·rw[h3];exact⟨ui rd,(zT h4).mono fun e w'' he=>by
      grind⟩
    ·rw[h3];exact key (.returned u) c.w h4
   rintro e w'' ⟨c',us,rfl,rfl,hok',hb',hm',hhp',hv'⟩;simp only;have hext:GK c c'.w:=hok'.bel;have hmove: ∀(c2:Cx),c2.w=c'.w->(∀b,(c.at_ c'.w).free b->c'.free b->c2.free b)->((s.rs.all fun r=>r.1.rigid||(r.2&&r.1.elem.rigid))=true\/ ∀b,c'.free b->c2.free b):=fun c2 hw hf=>by
    rcases hfree with hf1|hf1
    ·exact .inl hf1
    ·right;intro b hb;exact hf b (awt hr.ok hok' (hb'.trans hf1) hb) hb
   rcases h2 with ⟨hn0,hnews,hK⟩|⟨e,xs,id,n',hn1,hnews,h5,h6,h7,hK⟩
   ·have hr2:=hr.ext hext;refine hn (c.at_ c'.w) _ _ _ hK hr2 (AC ?_) (Cx.Le.ext hext).mono;refine GH (c':=c') (c2:=c.at_ c'.w) rfl 0 s.rs y us (fun t ht=> ?_) (.inl hnews) hv';rcases hmove (c.at_ c'.w) rfl (fun b h _=>h)with h8|h8
    all_goals grind
   ·have hobj:=hok'.obj 0 (.arr e 0 xs) (by simp_all [F6,eu]);obtain⟨hpos,el,zs,hown,hL,htyq⟩:=hobj;have hk:=Aw hr.hp hr.nxt h5 h6;obtain⟨u0,hu0⟩:=aeW s.rs y us (by omega) hv';simp only[bY]at hu0;have hget0:dR c'.hp 0=some (.arr e 0 xs):=by simp_all [F6,eu]
    have hone:(c'.mu 0).v.oneCell'=true:=by
     have:=(hu0.2.2 _ _ _ hget0).2 rfl;simp_all [jb]
    have hl: ∀b,dN.blk (.arr e 0 xs) ⟨0,(c'.mu 0).v⟩=some b->c.w.heap.size<=b:=fun b hb=>(World.ownsRow.lt hown b hb).1;have hle:=Cx.Le.push (o:=.arr e 0 xs) (l:=⟨0,(c'.mu 0).v⟩) (nxt:=n') (w:=c'.w) hk (by rw[hr.nxt];exact h7) hext.size hext.block hl;have hfree2:=hmove (c.push id (.arr e 0 xs) ⟨0,(c'.mu 0).v⟩ n' c'.w) rfl (fun b hb1 hb2=>⟨hb1.1,(by
     rintro ⟨j,o,q1,q2⟩;simp only[Cx.push,eu]at q1 q2;split at q1
     ·rename_i e1
      subst e1;cases q1;rw[upd_same]at q2;exact hb2.2.1 ⟨0,_,hget0,q2⟩
     ·rename_i e1
      rw[upd_ne _ _ (Ne.symm e1)]at q2;exact hb1.2.1 ⟨j,o,q1,q2⟩),hb1.2.2⟩)
    have hown':c'.w.ownsRow W0.heap.size el e.size (c'.mu 0).v xs.length zs:=by
     refine⟨hown.1, ?_⟩;rcases hown.2 with h|⟨g,cap,cur,e1,e2,e3⟩
     ·exact .inl h
     ·exact .inr ⟨g,cap,cur,e1,aW hr.ok.size e2,e3⟩
    have ho:(c.push id (.arr e 0 xs) ⟨0,(c'.mu 0).v⟩ n' c'.w).ORel W0.heap.size id (.arr e 0 xs):=by
     refine⟨hpos,el,zs,by simp_all [Cx.push,upd_same],gz.move (c':=c') (c2:=c.push id (.arr e 0 xs) ⟨0,(c'.mu 0).v⟩ n' c'.w) rfl ?_ hL,htyq⟩
     grind [Ov]
    have hok2:=hr.ok.push hk (by rw[hr.nxt];exact h7) hext hl ho;have hd:Dj W0 c st (c.push id (.arr e 0 xs) ⟨0,(c'.mu 0).v⟩ n' c'.w) {st with hp:=(id,.arr e 0 xs)::st.hp,nxt:=n'}:=⟨by simp[Cx.push,hr.hp],rfl,rfl,rfl,hok2,hle⟩;refine hn (c.push id (.arr e 0 xs) ⟨0,(c'.mu 0).v⟩ n' c'.w) _ _ _ hK (hr.did hd) (AC ?_) hle.mono;refine GH (c':=c') (c2:=c.push id (.arr e 0 xs) ⟨0,(c'.mu 0).v⟩ n' c'.w) rfl id s.rs y us (fun t ht=> ?_) (.inr fun u hu=> ?_) hv'
    ·grind
    ·simp only[bY]at hu ⊢;have hu1:=(hu.2.2 _ _ _ hget0).2 rfl;simp only[jb]at hu1;subst hu1;refine⟨hone,.inl ⟨.arr e 0 xs,by simp[Cx.push,eu]⟩,fun t u xs' h=> ?_⟩;simp_all [Cx.push,jb,upd_same]
  ·cases h
 |_=>simp[ES]at h
theorem SV: ∀(rs:List (Ty×Bool)),(rs.all fun r=> !r.2&&r.1.rigid)=true->news rs=0
 |[],_=>rfl
 |(t,true)::rs,h=>by simp at h
 |(t,false)::rs,h=>by
  simp only[bg,af]at h;exact SV rs h.2
theorem aGA {g:FuncId} {s:Sum} (hs:dY P g s) (cl:Bool) (hall:(s.rs.all fun r=> !r.2&&r.1.rigid)=true):nN (R:=R) P (ES g s cl):=by
 intro W0 b0 rd fv args dst st K r h c a ats fv' args' hr hfv hargs;cases fv with
 |fn g' caps=>
  simp only[ES]at h;split at h
  ·rename_i hg
   subst hg;simp only[bY]at hfv;obtain⟨vs,rfl,hcaps⟩:=hfv;have hall2:=bQ.append_arr hargs hcaps;obtain⟨hc,x,y,hx,hy,h2⟩:=aeS h;rw[<-hr.hp]at hx;rcases h2 with ⟨hn0,hnews,hK⟩|⟨e,xs,id,n',hn1,hnews,_⟩
   ·have hrig:=TL _ (IX 0 s.rs y hall);refine⟨_,rv (KI (nM 0 s.rs y)),hK,(IM hrig _).2 rfl,fun w' hw'=> ?_⟩;have hdv:pz (kM w' fun _=>False) s.ps x (args'++vs).toList:=zQ s.ps _ x _ hx hall2 fun t v x u _ h1 h2=>ahI hr.ok (fun b hb=>⟨H8.2 ⟨bI hb hw'.size,fun h=>h⟩,hw'.block b hb⟩) h1 h2;rcases hs w' (fun _=>False) (args'++vs) x y (Phi.below hw' hr.ok.phiw) (fun b h=>h.elim) hdv hy with ⟨h3,h4⟩|⟨u,h3,h4⟩
    ·refine .inl ⟨g',args'++vs,by rw[qp,h3],h4.mono ?_⟩;rintro e w'' ⟨c',us,rfl,rfl,hok',hb',hm',hhp',hv'⟩;exact⟨by rw[(IM hrig _).1 (AC hv')],hw'.trans (hok'.bel.mono hw'.size)⟩
    ·obtain⟨c',us,hu,_,hok',_,_,_,hv'⟩:=h4;cases hu;right;rw[qp,h3,(IM hrig _).1 (AC hv')]
   simp_all [SV]
  ·cases h
 |_=>simp[ES]at h
theorem azR {E:Env} (hT:TOk P E.T) (hb: ∀g,E.bf g=true->Bo P g) (h: ∀g s,E.sg g=some s->dY P g s) (hx: ∀g s,E.sb g=some s->eF P g s):wP P E:=
 ⟨hT,fun R W0 n g s hs=>aE6 (hx g s hs) E.cl n,hb,fun R W0 n g s hs=>aGB (h g s hs) E.cl n,fun R g s hs hall=>aGA (h g s hs) E.cl hall⟩
def EX:(ps:List Ty)->(ps.foldr Ty.pair Ty.unit).den->List bV
 |[],_=>[]
 |t::ps,x=>.val t x.1::EX ps x.2
def frozen (hp:gZ):bV->bV
 |.val t x=>.val t x
 |.nils=>.nils
 |.slc id ver vw=>match dR hp id with
  |some (.arr e v xs)=>bif v==ver then .val (.list e) (abZ xs vw)else .undef
  |_=>.undef
 |_=>.undef
def bV.asR (hp:gZ) (own:Bool) (t:Ty) (v:bV):Option t.den:=bif own then v.as hp t else match v with
 |.agg l=>bif t.isAgg then G9 t (l.map (frozen hp))else none
 |v=>v.as hp t
def jc (own:Bool):(rs:List (Ty×Bool))->List bV->gZ->Option ((rs.map (·.1)).foldr Ty.pair Ty.unit).den
 |[],[],_=>some ()
 |(t,false)::rs,v::l,hp=>match(bif own&&(lG v&& !t.rigid)then none else v.asR hp own t),jc own rs l hp with
  |some x,some y=>some (x,y)
  |_,_=>none
 |(.list e,true)::rs,.slc id ver none::l,hp=>match dR hp id with
  |some (.arr t u xs)=>bif u==ver then(match kF (.list e) (t':=.list t) xs,jc own rs l hp with
   |some x,some y=>some (x,y)
   |_,_=>none)else none
  |_=>none
 |_,_,_=>none
def EK (n:Nat) (v:bV):List bV:=
 match n,v with
 |1,v=>[v]
 |_,.tup l=>l
 |_,_=>[.undef]
def aa4 (E:Env) (g:FuncId) (ps:List Ty) (rs:List (Ty×Bool)) (x:(ps.foldr Ty.pair Ty.unit).den):Option ((rs.map (·.1)).foldr Ty.pair Ty.unit).den:=
 exec E 1000000 (.call g (EX ps x)) ⟨[],[],[],0⟩ fun v st=>jc (!Nat.beq (news rs) 0) rs (EK rs.length v) st.hp
theorem NR: ∀(ps:List Ty) x (us:List Value),pz c ps x us->bQ c (EX ps x) us
 |[],x,us,h=>by
  simp_all [pz,EX,bQ]
 |t::ps,x,us,h=>by
  obtain⟨u,us',rfl,h1,h2⟩:=h;simp only[EX,bQ,bY];exact⟨h1,NR ps x.2 us' h2⟩
theorem ww {own:Bool}: ∀(rs:List (Ty×Bool)) (l:List bV) {hp:gZ},(jc own rs l hp).isSome=true->l.length=rs.length
 |[],[],_,_=>rfl
 |[],_::_,_,h=>by simp[jc]at h
 |(t,false)::rs,[],_,h=>by simp[jc]at h
 |(t,false)::rs,v::l,hp,h=>by
  simp only[jc]at h;split at h
  ·rename_i h2
   simp[ww rs l (hp:=hp) (by rw[h2];rfl)]
  ·cases h
 |(t,true)::rs,[],_,h=>by simp_all [jc]
 |(t,true)::rs,v::l,hp,h=>by
  cases t with
  |list e=>
   cases v with
   |slc id ver vw=>
    cases vw with
    |none=>
     simp only[jc]at h;split at h
     ·rw[cond_eq_ite]at h;split at h
      ·split at h
       ·rename_i h2
        simp[ww rs l (hp:=hp) (by rw[h2];rfl)]
       ·cases h
      ·cases h
     ·cases h
    |some p=>simp[jc]at h
   |_=>simp[jc]at h
  |_=>simp[jc]at h
theorem KJ {own:Bool} {v:bV} {u:Value} {rs:List (Ty×Bool)} {hp:gZ} (h:(jc own rs (EK rs.length v) hp).isSome=true) (hv:bY c v u): ∃us,u=Na us/\bQ c (EK rs.length v) us:=by
 match rs,h with
 |[t],h=>exact⟨[u],rfl,by simpa [EK,bQ] using hv⟩
 |[],h=>
  cases v with
  |tup l=>
   simp only[aY,EK]at h ⊢;cases l with
   |nil=>
    simp only[bY]at hv;obtain⟨vs,rfl,h1⟩:=hv;have:vs= #[]:=by
     have:=bQ.length _ _ h1
     grind
    subst this;exact⟨[],rfl,by simp[bQ]⟩
   |cons _ _=>simp[jc]at h
  |_=>simp[EK,jc]at h
 |t1::t2::rs,h=>
  cases v with
  |tup l=>
   simp only[bY]at hv;obtain⟨vs,rfl,h1⟩:=hv;have hl:=bQ.length _ _ h1;have hlen:l.length=(t1::t2::rs).length:=ww _ _ h;simp only[ak,EK];refine⟨vs.toList, ?_,h1⟩;cases hvs:vs.toList with
   |nil=>simp_all
   |cons v1 r1=>
    cases r1 with
    |nil=>simp_all
    |cons v2 r2=>simp only[Na];rw[<-hvs]
  |_=>
   exfalso;have:=ww _ _ h;simp[EK]at this
end
end
section
open Bool renaming and_eq_true → af
open List renaming length_map → ay, map_cons → az
open Nat renaming le_refl → ah, eq_of_beq_eq_true → au
open Go.RowKit
structure dK (E:Env):Prop where
 T:TOk E.P E.T
 m:E.P.follows .mixedOrders=true
 ng:Ja E.P
 S: ∀g s,E.sg g=some s->dY E.P g s
 L:sV E.P E
 R:ae3 E
 B: ∀g,E.bf g=true->Bo E.P g
 X: ∀g s,E.sb g=some s->eF E.P g s
section
variable {P:Program} {T:TT} {W0:World} {b0:Nat} {rd:Option Nat} {R:Type} {r:R} {c:Cx} {ats:List (Array Value)}
theorem DF {E:Env} (h:dK E) (m:Nat) (R:Type) (W0:World):uY E.P W0 (exec E m (R:=R)):=
 (Ii h.T h.m h.ng rfl rfl (azR h.T h.B h.S h.X) h.L h.R m R W0).1
theorem zS {w:World} {bar:Nat->Prop} (hphi:Phi w) (hb: ∀b,bar b->b<w.heap.size):iY w 0 none (kM w bar) ⟨[],[],[],0⟩ ⟨#[],[]⟩ []:=
 ⟨rfl,rfl,⟨Below.refl _ _,fun id o h=>by simp[kM,dR]at h,fun i j o p b h=>by simp[kM,dR]at h,fun r hr=>by simp[kM]at hr,fun b h=>⟨hb b h,(by rintro ⟨i,o,h,_⟩;simp[kM,dR]at h),by simp[kM]⟩,hphi⟩,by simp[kM,bQ],trivial,⟨[],rfl,List.nodup_nil,fun r hr=>by simp at hr⟩,fun l hl=>by cases hl⟩
theorem aa1 {own:Bool} {c':Cx} (hw:c'.w=c.w) (hf: ∀b,c.free b->c'.free b) (hf2:own=false-> ∀b,b<c.w.heap.size-> ¬c.bar b->c'.free b) {t:Ty} {v:bV} {x:t.den} {u:Value} (hok:c.Ok W0)
  (h:(bif own&&(lG v&& !t.rigid)then none else v.asR c.hp own t)=some x) (hv:bY c v u):VD c' t x u:=by
 have hm: ∀b,c.free b->c'.free b/\c'.w.heap[b]? =c.w.heap[b]? :=fun b hb=>⟨hf b hb,by rw[hw]⟩;rw[cond_eq_ite]at h;split at h
 ·cases h
 rename_i hc
 have slcCase: ∀{id ver vw} {u:Value} {e:Ty} {x:List e.den},own=false->(bV.slc id ver vw).as c.hp (.list e)=some x->bY c (.slc id ver vw) u->VD c' (.list e) x u:=fun {id ver vw u e x} hown h hv=>by
  obtain⟨a,cp,zs,h1,h2,h3⟩:=TY hok h hv;have h4:=abb hok h hv h1;exact(VD.leaf rfl).2 ⟨a,cp,zs,by rw[h1],h4,gz.mono (fO.mono hm e) _ _ h2,h3.imp (fun h=>h) fun⟨b,off,q1,q2,q4,q3⟩=>⟨b,off,q1,hf2 hown b q2 q4,q3.of_block (by rw[hw])⟩⟩
 cases own with
 |true=>
  have h:v.as c.hp t=some x:=h;cases ho:lG v with
  |false=>exact Jc hm ho h hv
  |true=>
   cases v with
   |slc id ver vw=>
    cases t with
    |list e=>simp[lG,Ty.rigid]at hc
    |_=>simp[bV.as]at h
   |agg l=>
    simp only[bV.as]at h;rw[cond_eq_ite]at h;split at h
    ·rename_i ha
     simp only[bY]at hv;obtain⟨vs,rfl,h1,h2⟩:=hv;exact VD.move hw (.inl hf) ((VD.agg ha).2 ⟨vs,rfl,oN h h1⟩)
    ·cases h
   |_=>simp[lG]at ho
 |false=>
  cases v with
  |slc id ver vw=>
   have h:(bV.slc id ver vw).as c.hp t=some x:=h;cases t with
   |list e=>exact slcCase rfl h hv
   |_=>simp[bV.as]at h
  |agg l=>
   have h:(bif t.isAgg then G9 t (l.map (frozen c.hp))else none)=some x:=h;obtain⟨ha,h⟩:=dJ h;simp only[bY]at hv;obtain⟨vs,rfl,h1,h2⟩:=hv;have key: ∀(l:List bV) (vs:List Value),bQ c l vs->bQ c' (l.map (frozen c.hp)) vs:=by
    intro l
    induction l with
    |nil=>intro vs h;cases vs with
     |nil=>simp[bQ]
     |cons _ _=>simp[bQ]at h
    |cons v l ih=>intro vs h;cases vs with
     |nil=>simp[bQ]at h
     |cons u vs=>
      simp only[bQ,az]at h ⊢;refine⟨?_,ih vs h.2⟩;have hv:=h.1;cases v with
      |val t x=>
       simp only[frozen,bY]at hv ⊢;exact VD.move hw (.inl hf) hv
      |nils=>simpa only[frozen,bY] using hv
      |slc id ver vw=>
       simp only[frozen];split
       ·rename_i e v xs hg
        rw[cond_eq_ite];split
        ·rename_i hver
         simp only[bY];refine slcCase rfl ?_ hv;simp only[bV.as,BC,hg,hver,cond_true,gW]
        ·simp[bY]
       ·simp[bY]
      |_=>simp[frozen,bY]
   exact(VD.agg ha).2 ⟨vs,rfl,oN h (key l _ h1)⟩
  |_=>
   simp only[bV.asR,cond_false]at h;exact Jc hm rfl h hv
theorem aa0 {own:Bool} {c':Cx} (hok:c.Ok W0) (hw:c'.w=c.w) (hf: ∀b,c.free b->c'.free b) (hf2:own=false-> ∀b,b<c.w.heap.size-> ¬c.bar b->c'.free b): ∀(rs:List (Ty×Bool)) (l:List bV) (y) (us:List Value),jc own rs l c.hp=some y->news rs=0->bQ c l us->bQ c' (nM 0 rs y) us
 |[],[],y,[],_,_,_=>by simp[nM,bQ]
 |[],[],_,_::_,_,_,hv=>by simp[bQ]at hv
 |[],_::_,_,_,h,_,_=>by simp[jc]at h
 |(t,true)::rs,_,_,_,_,hn,_=>by simp[news]at hn
 |(t,false)::rs,[],_,_,h,_,_=>by simp[jc]at h
 |(t,false)::rs,v::l,y,[],h,_,hv=>by simp[bQ]at hv
 |(t,false)::rs,v::l,y,u::us,h,hn,hv=>by
  simp only[jc]at h;split at h
  ·rename_i x y' h1 h2
   cases h;simp only[bQ]at hv;simp only[nM,bQ,bY];exact⟨aa1 hw hf hf2 hok h1 hv.1,aa0 hok hw hf hf2 rs l y' us h2 (by simpa [news] using hn) hv.2⟩
  ·cases h
theorem aj2 (hok:c.Ok W0): ∀(rs:List (Ty×Bool)) (l:List bV) (y) (us:List Value),jc true rs l c.hp=some y->news rs=1->bQ c l us->
  ∃(id ver:Nat) (e:Ty) (xs:List e.den),dR c.hp id=some (.arr e ver xs)/\yu rs y=some ⟨e,xs⟩/\
   ∀c':Cx,c'.w=c.w->(∀b,c.free b->c'.free b)->c'.hp=[(0,.arr e 0 xs)]->(c'.mu 0).v=(c.mu id).v->bQ c' (nM 0 rs y) us
 |[],_,_,_,_,hn,_=>by simp[news]at hn
 |(t,false)::rs,[],_,_,h,_,_=>by simp[jc]at h
 |(t,false)::rs,v::l,y,[],h,_,hv=>by simp[bQ]at hv
 |(t,false)::rs,v::l,y,u::us,h,hn,hv=>by
  simp only[jc]at h;split at h
  ·rename_i x y' h1 h2
   cases h;simp only[bQ]at hv;obtain⟨id,ver,e,xs,k1,k2,k3⟩:=aj2 hok rs l y' us h2 (by simpa [news] using hn) hv.2;refine⟨id,ver,e,xs,k1,k2,fun c' hw hf hhp hmu=> ?_⟩;simp only[nM,bQ,bY];exact⟨aa1 hw hf (fun h=>by cases h) hok h1 hv.1,k3 c' hw hf hhp hmu⟩
  ·cases h
 |(t,true)::rs,[],_,_,h,_,_=>by cases t<;>simp[jc]at h
 |(t,true)::rs,v::l,y,[],h,_,hv=>by simp[bQ]at hv
 |(t,true)::rs,v::l,y,u::us,h,hn,hv=>by
  cases t with
  |list e=>
   cases v with
   |slc id ver vw=>
    cases vw with
    |none=>
     simp only[jc]at h;split at h
     ·rename_i t' w xs hg
      rw[cond_eq_ite]at h;split at h
      ·rename_i hver
       have hver:w=ver:=by simpa using hver
       subst hver;split at h
       ·rename_i x y' h1 h2
        cases h;have ee:=iM h1;cases ee;rw[gW]at h1;cases h1;simp only[bQ]at hv;refine⟨id,w,e,x,hg,rfl,fun c' hw hf hhp hmu=> ?_⟩;simp only[nM,bQ];refine⟨?_,aa0 hok hw hf (fun h=>by cases h) rs l y' us h2 (by simpa [news] using hn) hv.2⟩;have hu:=hv.1;simp only[bY]at hu ⊢;have hu1:=(hu.2.2 _ _ _ hg).2 rfl;simp only[jb]at hu1;refine⟨hu.1,.inl ⟨.arr e 0 x,by rw[hhp];simp[eu]⟩,fun t u' xs' h=> ?_⟩;have:dN.arr e 0 x=.arr t u' xs':=by rw[hhp]at h;simpa [eu] using h
        cases this;exact⟨ah _,fun _=>by simp only[jb];rw[hmu];exact hu1⟩
       ·cases h
      ·cases h
     ·cases h
    |some p=>simp[jc]at h
   |_=>simp[jc]at h
  |_=>simp[jc]at h
theorem SS: ∀(rs:List (Ty×Bool)) y,news rs=0->yu rs y=none
 |[],_,_=>rfl
 |(t,true)::rs,_,h=>by simp[news]at h
 |(t,false)::rs,y,h=>SS rs y.2 (by simpa [news] using h)
theorem PM (hok:c.Ok W0) {rs:List (Ty×Bool)} {l:List bV} {y} {us:List Value} (h:jc (!Nat.beq (news rs) 0) rs l c.hp=some y) (hn:news rs<=1) (hv:bQ c l us):
  ∃c':Cx,c'.w=c.w/\c'.Ok W0/\c'.bar=c.bar/\c'.mks=[]/\c'.hp=F6 rs y/\bQ c' (nM 0 rs y) us:=by
 by_cases h0:news rs=0
 ·let c':Cx:=⟨c.mu,[],c.nxt,c.w,[],c.bar⟩
  have hf: ∀b,c.free b->c'.free b:=fun b hb=>⟨hb.1,(by rintro ⟨i,o,h,_⟩;simp[c',dR]at h),by simp[c'],hb.2.2.2⟩;exact⟨c',rfl,⟨hok.bel,fun id o h=>by simp[c',dR]at h,fun i j o p b h=>by simp[c',dR]at h,fun r hr=>by simp[c']at hr,fun b hb=>⟨(hok.bar b hb).1,(by rintro ⟨i,o,h,_⟩;simp[c',dR]at h),by simp[c']⟩,hok.phi⟩,rfl,rfl,by rw[F6,SS rs y h0],aa0 hok (c':=c') rfl hf (fun _ b h1 h2=>⟨h1,(by rintro ⟨i,o,h,_⟩;simp[c',dR]at h),by simp[c'],h2⟩) rs l y us h h0 hv⟩
 ·have h1':news rs=1:=by omega
  rw[show(!Nat.beq (news rs) 0)=true by rw[h1'];rfl]at h;obtain⟨id,ver,e,xs,k1,k2,k3⟩:=aj2 hok rs l y us h h1' hv
  let c':Cx:=⟨fun _=>c.mu id,[(0,.arr e 0 xs)],c.nxt,c.w,[],c.bar⟩
  have hf: ∀b,c.free b->c'.free b:=fun b hb=>⟨hb.1,(by
   rintro ⟨i,o,h1,h2⟩;simp only[c',eu]at h1 h2;split at h1
   ·cases h1;exact hb.2.1 ⟨id,_,k1,h2⟩
   ·simp[dR]at h1),by simp[c'],hb.2.2.2⟩
  refine⟨c',rfl,⟨hok.bel,fun i o h=> ?_,fun i j o p b h1 h2 _ _=> ?_,fun r hr=>by simp[c']at hr,fun b hb=>⟨(hok.bar b hb).1,(by
   rintro ⟨i,o,h1,h2⟩;simp only[c',eu]at h1 h2;split at h1
   ·cases h1;exact(hok.bar b hb).2.1 ⟨id,_,k1,h2⟩
   ·simp[dR]at h1),by simp[c']⟩,hok.phi⟩,rfl,rfl,by rw[F6,k2],k3 c' rfl hf rfl rfl⟩
  ·simp only[c',eu]at h;split at h
   ·cases h;obtain⟨h0,e',zs,h1,h2,hty⟩:=hok.obj id _ k1;exact⟨h0,e',zs,h1,gz.mono (fO.mono (fun b hb=>⟨hf b hb,rfl⟩) e) _ _ h2,hty⟩
   ·simp[dR]at h
  ·simp only[c',eu]at h1 h2;split at h1
   ·split at h2
    ·rename_i e1 e2;omega
    ·simp[dR]at h2
   ·simp[dR]at h1
theorem Be {E:Env} (hE:dK E) {g:FuncId} {s:Sum} (hn:news s.rs<=1) (h: ∀x y,s.f x=some y->aa4 E g s.ps s.rs x=some y) (w:World) (bar:Nat->Prop) (args':Array Value) (x) (y) (hphi:Phi w) (hbar: ∀b,bar b->b<w.heap.size)
  (hdv:pz (kM w bar) s.ps x args'.toList) (hy:s.f x=some y):(callFunc g args').run E.P w=.ok (.enter g args') w/\Calls E.P g args' w (xM w bar s.rs y):=by
 have h1:=h x y hy;unfold aa4 at h1;refine DF hE 1000000 _ w g (EX s.ps x) _ _ y h1 0 none (kM w bar) ⟨#[],[]⟩ [] args' (zS hphi hbar) (NR _ _ _ hdv) (xM w bar s.rs y) fun c1 z u st1 k1 k2 k3 k4=> ?_;obtain⟨us,rfl,h3⟩:=KJ (by rw[k1];rfl) k3;rw[<-k2.hp]at k1;obtain⟨c',q1,q2,q3,q4,q5,q6⟩:=PM k2.ok k1 hn h3;exact⟨c',us,rfl,q1,q2,q3.trans k4.bar,q4,q5,q6⟩
theorem Us {E:Env} (hE:dK E) {g:FuncId} {s:Sum} (hn:news s.rs<=1) (h: ∀x y,s.f x=some y->aa4 E g s.ps s.rs x=some y):dY E.P g s:=fun w bar args' x y hphi hbar hdv hy=>.inl (Be hE hn h w bar args' x y hphi hbar hdv hy)
theorem acf {E:Env} (hE:dK E) {g:FuncId} {ps:List Ty} {x:(ps.foldr Ty.pair Ty.unit).den} {t:Ty} {y:t.den} (ht:t.rigid=true) (h:aa4 E g ps [(t,false)] x=some (y,())) {w:World} {args:Array Value} (ha:pz (kM w fun _=>False) ps x args.toList) (hphi:Phi w:=by exact trivial):
  Calls E.P g args w fun e w'=>e=.returned (Jj t y)/\Below w.heap.size w w':=by
 obtain⟨_,h2⟩:=Be hE (g:=g) (s:=⟨ps,[(t,false)],fun x'=>aa4 E g ps [(t,false)] x'⟩) (by simp[news]) (fun x y h=>h) w (fun _=>False) args x (y,()) hphi (fun b h=>h.elim) ha h;refine h2.mono ?_;rintro e w' ⟨c',us,rfl,rfl,hok,_,_,_,hv⟩;refine⟨?_,hok.bel⟩;cases us with
 |nil=>simp[nM,bQ]at hv
 |cons u us=>
  cases us with
  |cons _ _=>simp[nM,bQ]at hv
  |nil=>
   simp only[nM,bQ,bY,and_true]at hv;simp only[Na];rw[(VD.rigid ht u).1 hv]
theorem aE8 {E:Env} (hE:dK E) {g:FuncId} {e e2:Ty} (hpos:0<e.size) {f:List e.den->Option (List e2.den)} (h1: ∀xs y,f xs=some y->exec E 1000000 (.call g [.lst e xs false]) ⟨[],[],[],0⟩ (fun v st=>jc false [(.list e2,false)] (EK 1 v) st.hp)=some (y,()))
  (h2: ∀y,f []=some y->exec E 1000000 (.call g [.lst e [] true]) ⟨[],[],[],0⟩ (fun v st=>jc false [(.list e2,false)] (EK 1 v) st.hp)=some (y,())):
  dY E.P g ⟨[.list e],[(.list e2,false)],fun x=>match f x.1 with|some y=>some (y,())|none=>none⟩:=fun w bar args' x y hphi hbar hdv hy=>.inl (by
 obtain⟨u,us',hu,hx,hnil⟩:=hdv;obtain⟨a,n,zs,q1,q2,q3,q4⟩:=pK hx;simp only at hy;split at hy
 ·rename_i y' hf
  cases hy;have hrun:exec E 1000000 (.call g [.lst e x.1 a.isNone]) ⟨[],[],[],0⟩ (fun v st=>jc false [(.list e2,false)] (EK 1 v) st.hp)=some (y',()):=by
   cases ha:a with
   |some _=>exact h1 _ _ hf
   |none=>
    have hz:zs=[]:=by
     rcases q4 with q4|⟨b,off,q4,_⟩
     ·exact q4
     ·rw[ha]at q4;cases q4
    have hl:=gz.length _ _ q3;rw[hz]at hl;have hx0:x.1=[]:=by
     cases hxx:x.1 with
     |nil=>rfl
     |cons a l=>rw[hxx]at hl;have:=Nat.mul_pos (show 0<(a::l).length by simp) hpos;rw[<-hl]at this;exact absurd this (by simp)
    rw[hx0]at hf ⊢;exact h2 _ hf
  have hv:bQ (kM w bar) [.lst e x.1 a.isNone] args'.toList:=by
   rw[hu,show us'=[] from hnil];simp only[bQ,bY,and_true];exact⟨hx,a,_,_,q1,rfl⟩
  refine DF hE 1000000 _ w g [.lst e x.1 a.isNone] _ _ _ hrun 0 none (kM w bar) ⟨#[],[]⟩ [] args' (zS hphi hbar) hv (xM w bar [(.list e2,false)] (y',())) fun c1 z u st1 k1 k2 k3 k4=> ?_;obtain⟨us,rfl,h3⟩:=KJ (own:=false) (rs:=[(.list e2,false)]) (hp:=st1.hp) (by rw[show jc false [(.list e2,false)] (EK [(Ty.list e2,false)].length z) st1.hp=some (y',()) from k1];rfl) k3;rw[<-k2.hp]at k1;obtain⟨c',q1,q2,q3,q4,q5,q6⟩:=PM (rs:=[(.list e2,false)]) k2.ok k1 (by simp[news]) h3;exact⟨c',us,rfl,q1,q2,q3.trans k4.bar,q4,q5,q6⟩
 ·cases hy)
theorem Dh {E:Env} (hE:dK E) {g:FuncId} {e e2:Ty} (hpos:0<e.size) (hpos2:0<e2.size) {f:List e.den->Option (List e2.den)} (h1: ∀xs y,f xs=some y->exec E 1000000 (.call g [.lst e xs false]) ⟨[],[],[],0⟩ (fun v st=>jc true [(.list e2,true)] (EK 1 v) st.hp)=some (y,()))
  (h2: ∀y,f []=some y->y=[]/\exec E 1000000 (.call g [.lst e [] true]) ⟨[],[],[],0⟩ (fun v st=>match v,st.hp with|.nils,[]=>some ()|_,_=>none)=some ()):
  dY E.P g ⟨[.list e],[(.list e2,true)],fun x=>match f x.1 with|some y=>some (y,())|none=>none⟩:=fun w bar args' x y hphi hbar hdv hy=>.inl (by
 obtain⟨u,us',hu,hx,hnil⟩:=hdv;obtain⟨a,n,zs,q1,q2,q3,q4⟩:=pK hx;simp only at hy;split at hy
 ·rename_i y' hf
  cases hy;have hv:bQ (kM w bar) [.lst e x.1 a.isNone] args'.toList:=by
   rw[hu,show us'=[] from hnil];simp only[bQ,bY,and_true];exact⟨hx,a,_,_,q1,rfl⟩
  cases ha:a.isNone with
  |true=>
   have hz:zs=[]:=by
    rcases q4 with q4|⟨b,off,q4,_⟩
    ·exact q4
    ·rw[q4]at ha;cases ha
   have hl:=gz.length _ _ q3;rw[hz]at hl;have hx0:x.1=[]:=by
    cases hxx:x.1 with
    |nil=>rfl
    |cons a l=>rw[hxx]at hl;have:=Nat.mul_pos (show 0<(a::l).length by simp) hpos;rw[<-hl]at this;exact absurd this (by simp)
   rw[ha,hx0]at hv;rw[hx0]at hf;obtain⟨rfl,hrun⟩:=h2 _ hf;refine DF hE 1000000 _ w g [.lst e [] true] _ _ _ hrun 0 none (kM w bar) ⟨#[],[]⟩ [] args' (zS hphi hbar) hv (xM w bar [(.list e2,true)] ([],())) fun c1 z u st1 k1 k2 k3 k4=> ?_;split at k1
   ·rename_i hz0 hst
    simp only[bY]at k3;obtain⟨c2,d1,d2,d3⟩:=qX (W0:=w) k2.ok k2.hp k2.nxt (id:=st1.nxt) (n':=st1.nxt+1) (by rw[hst];rfl) (ah _) (by omega) hpos2 (xs:=[]) (Below.refl _ _) (if e2=.int .u8 then o8 else 0) [] (World.ownsRow_nil _ _ _ _) (by simp[gz]) (v:=.slice none 0 0) rfl (fun h=>by simp[h]);have k1':jc true [(.list e2,true)] [.slc st1.nxt 0 none] c2.hp=some (([],()):List e2.den×Unit):=by
     rw[d1.hp];simp only[jc,dR,beq_self_eq_true,Nat.beq_refl,cond_true,gW];rfl
    have h3:bQ c2 [.slc st1.nxt 0 none] [.slice none 0 0]:=by simp only[bQ,and_true];exact d3
    obtain⟨c',q1,q2,q3,q4,q5,q6⟩:=PM (rs:=[(.list e2,true)]) d1.ok k1' (by simp[news]) h3;exact⟨c',[.slice none 0 0],by rw[k3];rfl,q1.trans d2,q2,q3.trans (d1.le.bar.trans k4.bar),q4,q5,q6⟩
   ·cases k1
  |false=>
   rw[ha]at hv;have hrun:=h1 _ _ hf;refine DF hE 1000000 _ w g [.lst e x.1 false] _ _ _ hrun 0 none (kM w bar) ⟨#[],[]⟩ [] args' (zS hphi hbar) hv (xM w bar [(.list e2,true)] (y',())) fun c1 z u st1 k1 k2 k3 k4=> ?_;obtain⟨us,rfl,h3⟩:=KJ (own:=true) (rs:=[(.list e2,true)]) (hp:=st1.hp) (by rw[show jc true [(.list e2,true)] (EK [(Ty.list e2,true)].length z) st1.hp=some (y',()) from k1];rfl) k3;rw[<-k2.hp]at k1;obtain⟨c',q1,q2,q3,q4,q5,q6⟩:=PM (rs:=[(.list e2,true)]) k2.ok k1 (by simp[news]) h3;exact⟨c',us,rfl,q1,q2,q3.trans k4.bar,q4,q5,q6⟩
 ·cases hy)
def Vg:(rs:List Ty)->List bV->gZ->Option (rs.foldr Ty.pair Ty.unit).den
 |[],[],_=>some ()
 |t::rs,v::l,hp=>match(bif true&&(lG v&& !t.rigid)then none else v.as hp t),Vg rs l hp with
  |some x,some y=>some (x,y)
  |_,_=>none
 |_,_,_=>none
def azN (E:Env) (g:FuncId) (bt:TypeId) (cs:List (Ty×Bool)) (ps rs:List Ty) (x:((cs.map (·.1)).foldr Ty.pair Ty.unit).den) (y:(ps.foldr Ty.pair Ty.unit).den):Option (((cs.map (·.1)).foldr Ty.pair Ty.unit).den×(rs.foldr Ty.pair Ty.unit).den):=
 exec E 1000000 (.call g (.ptr 0 0::Jk ps y)) ⟨[.ptr 0 0],[],(0,.box bt (GM cs (jh cs 1) x))::um cs (jh cs 1) x,0⟩ fun v st=>match st.fr with
  |[.ptr 0 0]=>match dR st.hp 0 with
   |some (.box t cells)=>bif Nat.beq t bt&&SY ((oz cs cells).map (·.1))then(match jT st.hp true cs cells with
    |some x'=>match Vg rs (EK rs.length v) st.hp with
     |some z'=>some (x',z')
     |none=>none
    |none=>none)else none
   |_=>none
  |_=>none
theorem Wy: ∀(rs:List Ty) (l:List bV) {hp:gZ},(Vg rs l hp).isSome=true->(jc true (rs.map fun t=>(t,false)) l hp).isSome=true
 |[],[],_,_=>rfl
 |[],_::_,_,h=>by simp[Vg]at h
 |_::_,[],_,h=>by simp[Vg]at h
 |t::rs,v::l,hp,h=>by
  simp only[Vg]at h;split at h
  ·rename_i x y h1 h2
   have:=Wy rs l (hp:=hp) (by rw[h2];rfl);change @Option.isSome ((((t,false)::rs.map fun t=>(t,false)).map (·.1)).foldr Ty.pair Ty.unit).den (jc true ((t,false)::rs.map fun t=>(t,false)) (v::l) hp)=true;rw[jc];rw[show bV.asR hp true t v=v.as hp t from rfl,h1];cases h3:jc true (rs.map fun t=>(t,false)) l hp with
   |none=>rw[h3]at this;cases this
   |some z=>rfl
  ·cases h
theorem aer (hok:c.Ok W0): ∀(rs:List Ty) (l:List bV) (z) (us:List Value),Vg rs l c.hp=some z->bQ c l us->pz c rs z us
 |[],[],z,[],_,_=>rfl
 |[],[],_,_::_,_,hv=>by simp[bQ]at hv
 |[],_::_,_,_,h,_=>by simp[Vg]at h
 |_::_,[],_,_,h,_=>by simp[Vg]at h
 |t::rs,v::l,z,[],_,hv=>by simp[bQ]at hv
 |t::rs,v::l,z,u::us,h,hv=>by
  simp only[Vg]at h;split at h
  ·rename_i x y h1 h2
   cases h;simp only[bQ]at hv;exact⟨u,us,rfl,aa1 (own:=true) (c':=c) rfl (fun b h=>h) (fun h=>by cases h) hok h1 hv.1,aer hok rs l y us h2 hv.2⟩
  ·cases h
theorem aeQ {E:Env} (hE:dK E) {g:FuncId} {s:gX} (h: ∀x y z,s.f x y=some z->azN E g s.bt s.cs s.ps s.rs x y=some z):eF E.P g s:=fun W0 c x y z hok hmk hnx hhp args' hv hz=>by
 have h1:=h x y z hz;unfold azN at h1;obtain⟨us⟩:=args';cases us with
 |nil=>simp[bQ]at hv
 |cons u0 us=>
 have hv':=hv;simp only[bQ]at hv';obtain⟨hu0,_⟩:=hv';have hr:iY W0 0 none c ⟨[.ptr 0 0],[],(0,.box s.bt (GM s.cs (jh s.cs 1) x))::um s.cs (jh s.cs 1) x,0⟩ ⟨#[u0],[]⟩ []:=
  ⟨hhp,hnx,hok,by simp only[bQ];exact⟨hu0,trivial⟩,trivial,⟨[],rfl,List.nodup_nil,fun r hr=>by simp at hr⟩,fun l hl=>by cases hl⟩
 refine DF hE 1000000 _ W0 g (.ptr 0 0::Jk s.ps y) _ _ z h1 0 none c ⟨#[u0],[]⟩ [] ⟨u0::us⟩ hr hv (azY W0 c s z) fun c1 v u st1 k1 k2 k3 k4=> ?_;split at k1<;>try (cases k1;done)
 rename_i hfr
 split at k1<;>try (cases k1;done)
 rename_i t cells hb
 replace k1:=dJ k1;obtain⟨hc,k1⟩:=k1;simp only[af]at hc;obtain⟨ht,hnd⟩:=hc;have ht:t=s.bt:=au ht;subst ht;split at k1<;>try (cases k1;done)
 rename_i x' hx'
 split at k1<;>try (cases k1;done)
 rename_i z' hz'
 cases k1;obtain⟨us1,rfl,h3⟩:=KJ (own:=true) (rs:=s.rs.map fun t=>(t,false)) (hp:=st1.hp) (by rw[ay];exact Wy _ _ (by rw[hz'];rfl)) k3;rw[ay]at h3;rw[<-k2.hp]at hb hx' hz';refine⟨c1,us1,cells,rfl,rfl,k2.ok,k4,hb, ?_,Ee hnd,hx',aer k2.ok s.rs _ z' us1 hz' h3⟩;have hf:=k2.fr;rw[hfr]at hf;simp only[bQ,bY,and_true]at hf;simp only[bY]at hu0;have e1:=hf.2.2 _ _ hb;have e2:=hu0.2.2 _ _ (by rw[hhp];simp[eu];exact⟨rfl,rfl⟩);rw[e1]at e2;simpa using e2
end
end
section
open Go.RowKit
def alh:Sum:=⟨[.str,.int .u8],[(.int .i64,false)],fun x=>some (Lib.indexByte x.1 x.2.1.toNat.toUInt8,())⟩
theorem QK {w:World} {bar:Nat->Prop} (hphi:Phi w) (hb: ∀b,bar b->b<w.heap.size):(kM w bar).Ok w:=(zS hphi hb).ok
theorem aeR {P:Program} {g:FuncId} {fn:Func} (hf:P.funcs[g]? =some fn) (hname:(fn.name== "runtime.NumGoroutine")=false) (hb:fn.body.isNone=true) (hn:Extern.findNext fn=none)
  (he:Extern.find fn=some Extern.BytealgIndexByte.indexByte):dY P g alh:=by
 intro w bar args' x y hphi hbar hdv hy;obtain⟨u,us1,e1,h1,u2,us2,e2,h2,h3⟩:=hdv;simp only[pz]at h3;subst h3 e2;have ha:args'= #[u,u2]:=by
  grind
 subst ha;have e4:=h1.str_inv;have e5:=h2.int_inv;subst e4 e5;have hy2:=Option.some.inj hy;subst hy2;refine .inr ⟨_,by rw[run_callFunc_extern hf hname hb hn he,Lib.run_indexByteString];rfl,kM w bar,[_],rfl,rfl,QK hphi hbar,rfl,rfl,rfl, ?_⟩;simp_all [alh,nM,bQ,bY,VD.int_mk]
def ahB:Sum:=⟨[.str,.str],[(.int .i64,false)],fun x=>some (Lib.compareBytes x.1 x.2.1,())⟩
theorem apL {P:Program} {g:FuncId} {fn:Func} (hf:P.funcs[g]? =some fn) (hname:(fn.name== "runtime.NumGoroutine")=false) (hb:fn.body.isNone=true) (hn:Extern.findNext fn=none)
  (he:Extern.find fn=some Extern.BytealgCompare.compare):dY P g ahB:=by
 intro w bar args' x y hphi hbar hdv hy;obtain⟨u,us1,e1,h1,u2,us2,e2,h2,h3⟩:=hdv;simp only[pz]at h3;subst h3 e2;have ha:args'= #[u,u2]:=by
  grind
 subst ha;have e4:=h1.str_inv;have e5:=h2.str_inv;subst e4 e5;have hy2:=Option.some.inj hy;subst hy2;refine .inr ⟨_,by rw[run_callFunc_extern hf hname hb hn he,Lib.run_compareString];rfl,kM w bar,[_],rfl,rfl,QK hphi hbar,rfl,rfl,rfl, ?_⟩;simp_all [ahB,nM,bQ,bY,VD.int_mk]
end
end Go.Proofs.YtihafdllichkeaaGreatDoor
