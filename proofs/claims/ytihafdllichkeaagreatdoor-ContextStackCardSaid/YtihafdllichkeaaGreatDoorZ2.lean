/- Parts of the proof, joined and shortened by a program: the plain machine, the functions as it prints them, and the mathematics over them. -/
import Derived.Stop.Looks
import Derived.RangeFuncNested
import Derived.RangeFuncRecord
import Derived.Sort.LoopGhostIn
import Derived.Test.YtihafdllichkeaaGreatDoorZ1
namespace Go.Proofs.YtihafdllichkeaaGreatDoor
open Go.RowKit
set_option linter.unusedVariables false
set_option linter.unusedSimpArgs false
structure Cx.Keeps (c c':Cx) (l:List Nat):Prop where
 free: ∀b,c.free b->c'.free b/\c'.w.heap[b]? =c.w.heap[b]?
 ref: ∀id∈l,c.known id->c'.known id
 obj: ∀id∈l,∀o',aX c'.hp id=some o'-> ∃o,aX c.hp id=some o/\o.like (c.mu id) o' (c'.mu id)
theorem Cx.Keeps.sub {c c':Cx} {l m:List Nat} (h:c.Keeps c' l) (hs: ∀i∈m,i∈l):c.Keeps c' m:=⟨h.free,fun i hi=>h.ref i (hs i hi),fun i hi=>h.obj i (hs i hi)⟩
theorem Cx.Keeps.left {c c':Cx} {l m:List Nat} (h:c.Keeps c' (l++m)):c.Keeps c' l:=h.sub fun i hi=>List.mem_append_left _ hi
theorem Cx.Keeps.right {c c':Cx} {l m:List Nat} (h:c.Keeps c' (l++m)):c.Keeps c' m:=h.sub fun i hi=>List.mem_append_right _ hi
mutual
theorem aF.keeps {c c':Cx}: ∀(v:aA) (x:Value),c.Keeps c' (refs v)->aF c v x->aF c' v x
 |.undef,_,_,_=>by simp[aF]
 |.val t x,v,h,hv=>by
  simp only[aF]at hv ⊢
  exact⟨fun e=>let⟨cs,h1,h2⟩:=hv.1 e;⟨cs,h1,cu.mono h.free t x _ h2⟩,fun e=>cu.mono h.free t x _ (hv.2 e)⟩
 |.nils,_,_,hv=>by simpa only[aF] using hv
 |.emp,_,_,hv=>by simpa only[aF] using hv
 |.lst t x b,v,h,hv=>by
  simp only[aF]at hv ⊢
  exact⟨⟨fun e=>let⟨cs,h1,h2⟩:=hv.1.1 e;⟨cs,h1,cu.mono h.free (.list t) x _ h2⟩,fun e=>cu.mono h.free (.list t) x _ (hv.1.2 e)⟩,hv.2⟩
 |.nilp,_,_,hv=>by simpa only[aF] using hv
 |.nilfn,_,_,hv=>by simpa only[aF] using hv
 |.tup l,v,h,hv=>by simp only[aF]at hv ⊢;obtain⟨vs,h1,h2⟩:=hv;exact⟨vs,h1,aj.keeps l _ (by simpa [refs] using h) h2⟩
 |.agg l,v,h,hv=>by simp only[aF]at hv ⊢;obtain⟨vs,h1,h2,h3⟩:=hv;exact⟨vs,h1,aj.keeps l _ (by simpa [refs] using h) h2,h3⟩
 |.cellp t x,v,h,hv=>by
  simp only[aF]at hv ⊢
  obtain⟨b,o,zs,h1,h2,h3,h4⟩:=hv
  exact⟨b,o,zs,h1,(h.free b h2).1,h3.of_block (h.free b h2).2,cu.mono h.free t x _ h4⟩
 |.ptr id off,v,h,hv=>by
  simp only[aF]at hv ⊢
  obtain⟨hone,hv⟩:=hv
  refine⟨hone,h.ref id (by simp[refs]) hv.1,fun t cs hc=> ?_⟩
  obtain⟨o,h1,h2⟩:=h.obj id (by simp[refs]) _ hc
  cases o<;>simp only[aW.like]at h2
  rw[h2];exact hv.2 _ _ h1
 |.slf id,v,h,hv=>by
  simp only[aF]at hv ⊢
  obtain⟨hone,hv⟩:=hv
  refine⟨hone,h.ref id (by simp[refs]) hv.1,fun t cs hc=> ?_⟩
  obtain⟨o,h1,h2⟩:=h.obj id (by simp[refs]) _ hc
  cases o<;>simp only[aW.like]at h2
  rw[h2];exact hv.2 _ _ h1
 |.sd id ver,v,h,hv=>by
  simp only[aF]at hv ⊢
  obtain⟨hone,hv⟩:=hv
  refine⟨hone,h.ref id (by simp[refs]) hv.1,fun t u xs hc=> ?_⟩
  obtain⟨o,h1,h2⟩:=h.obj id (by simp[refs]) _ hc
  cases o with
  |arr t' v' xs'=>
   simp only[aW.like]at h2
   have h3:=hv.2 _ _ _ h1
   have:=h2.1
   refine⟨by omega,fun e=> ?_⟩
   obtain⟨e1,e2⟩:=h2.2 (by omega)
   rw[e2];exact h3.2 (by omega)
  |box _ _=>simp[aW.like]at h2
  |lp _ _ _ _ _ _ _ _=>simp[aW.like]at h2
  |dead=>simp[aW.like]at h2
  |mp _ _ _=>simp[aW.like]at h2
 |.slc id ver vw,v,h,hv=>by
  simp only[aF]at hv ⊢
  obtain⟨hone,hv⟩:=hv
  refine⟨hone,h.ref id (by simp[refs]) hv.1,fun t u xs hc=> ?_⟩
  obtain⟨o,h1,h2⟩:=h.obj id (by simp[refs]) _ hc
  cases o with
  |arr t' v' xs'=>
   simp only[aW.like]at h2
   have h3:=hv.2 _ _ _ h1
   have:=h2.1
   refine⟨by omega,fun e=> ?_⟩
   obtain⟨e1,e2⟩:=h2.2 (by omega)
   rw[e2,<-e1];exact h3.2 (by omega)
  |box _ _=>simp[aW.like]at h2
  |lp _ _ _ _ _ _ _ _=>simp[aW.like]at h2
  |dead=>simp[aW.like]at h2
  |mp _ _ _=>simp[aW.like]at h2
 |.ep id ver i off,v,h,hv=>by
  simp only[aF]at hv ⊢
  obtain⟨hone,hv⟩:=hv
  refine⟨hone,h.ref id (by simp[refs]) hv.1,fun t u xs hc=> ?_⟩
  obtain⟨o,h1,h2⟩:=h.obj id (by simp[refs]) _ hc
  cases o with
  |arr t' v' xs'=>
   simp only[aW.like]at h2
   have h3:=hv.2 _ _ _ h1
   have:=h2.1
   refine⟨by omega,fun e=> ?_⟩
   obtain⟨e1,e2⟩:=h2.2 (by omega)
   rw[e2,<-e1];exact h3.2 (by omega)
  |box _ _=>simp[aW.like]at h2
  |lp _ _ _ _ _ _ _ _=>simp[aW.like]at h2
  |dead=>simp[aW.like]at h2
  |mp _ _ _=>simp[aW.like]at h2
 |.fn f l,v,h,hv=>by simp only[aF]at hv ⊢;obtain⟨vs,h1,h2⟩:=hv;exact⟨vs,h1,aj.keeps l _ (by simpa [refs] using h) h2⟩
 |.mfn f l,v,h,hv=>by simp only[aF]at hv ⊢;obtain⟨vs,h1,h2⟩:=hv;exact⟨vs,h1,aj.keeps l _ (by simpa [refs] using h) h2⟩
 |.mpv id,v,h,hv=>by
  simp only[aF]at hv ⊢
  obtain⟨hone,hv⟩:=hv
  refine⟨hone,h.ref id (by simp[refs]) hv.1,fun kk vk es hc=> ?_⟩
  obtain⟨o,h1,h2⟩:=h.obj id (by simp[refs]) _ hc
  cases o<;>simp only[aW.like]at h2
  rw[h2];exact hv.2 _ _ _ h1
 |.yld id,v,h,hv=>by
  simp only[aF]at hv ⊢
  obtain⟨hone,hv⟩:=hv
  refine⟨hone,h.ref id (by simp[refs]) hv.1,fun f fr ps asg bd ky n p hc=> ?_⟩
  obtain⟨o,h1,h2⟩:=h.obj id (by simp[refs]) _ hc
  cases o<;>simp only[aW.like]at h2
  rw[h2];exact hv.2 _ _ _ _ _ _ _ _ h1
theorem aj.keeps {c c':Cx}: ∀(l:List aA) (xs:List Value),c.Keeps c' (kL l)->aj c l xs->aj c' l xs
 |[],[],_,_=>by simp[aj]
 |v::l,x::xs,h,hv=>by
  simp only[kL]at h
  simp only[aj]at hv ⊢;exact⟨aF.keeps v x h.left hv.1,aj.keeps l xs h.right hv.2⟩
 |[],_::_,_,hv=>by simp[aj]at hv
 |_::_,[],_,hv=>by simp[aj]at hv
end
theorem wB.keeps {c c':Cx}: ∀(fs:List (List aA)) (ts:List (Array Value)),c.Keeps c' (su fs)->wB c fs ts->wB c' fs ts
 |[],[],_,_=>trivial
 |f::fs,t::ts,h,hh=>by
  simp only[su]at h
  exact⟨aj.keeps _ _ h.left hh.1,wB.keeps fs ts h.right hh.2⟩
 |[],_::_,_,hh=>hh.elim
 |_::_,[],_,hh=>hh.elim
theorem iV (p:Nat->Bool): ∀(h:dN) (i:Nat),aX (h.filter fun e=>p e.1) i=if p i=true then aX h i else none
 |[],i=>by simp[aX]
 |(k,o)::h,i=>by
  rw[List.filter_cons]
  by_cases hk:p k=true
  ·simp only[hk,if_true,bH,iV p h i]
   by_cases e:k=i
   ·subst e;simp[hk]
   ·simp[e]
  ·rw[if_neg hk,iV p h i,bH]
   by_cases e:k=i
   ·subst e;simp[hk]
   ·simp[e]
theorem tZ: ∀(h:dN) (i:Nat) (o:aW),aX h i=some o->(i,o)∈h
 |[],i,o,hh=>by simp[aX]at hh
 |(k,o')::h,i,o,hh=>by
  rw[bH]at hh
  split at hh
  ·rename_i e;subst e;cases hh;simp
  ·exact List.mem_cons_of_mem _ (tZ h i o hh)
theorem yf: ∀(h:dN) (e:Nat×aW),e∈h-> ∀i∈e.2.refs,i∈ww h
 |[],e,he,i,hi=>by simp at he
 |(k,o)::h,e,he,i,hi=>by
  simp only[ww,List.mem_append]
  rcases List.mem_cons.1 he with e1|e1
  ·left;rw[e1]at hi;exact hi
  ·right;exact yf h e e1 i hi
theorem rC {d l:List Nat} (h:Dv d l=true): ∀i∈l,i∉d:=by
 intro i hi hd
 have:=List.all_eq_true.1 h i hi
 simp only[Bool.not_eq_true',Nw]at this
 have h2:d.any (Nat.beq i)=true:=List.any_eq_true.2 ⟨i,hd,by simp⟩
 rw[h2]at this;cases this
theorem Cx.keeps_filter {c:Cx} {p:Nat->Bool} {l:List Nat} (hno: ∀i∈l,i∉((c.hp.filter fun e=> !p e.1).map (·.1))):c.Keeps {c with hp:=c.hp.filter fun e=>p e.1} l:=by
 refine⟨fun b hb=>⟨⟨hb.1, ?_,hb.2.2⟩,rfl⟩,fun i hi hk=> ?_,fun i hi o' ho=> ?_⟩
 ·rintro ⟨i,o,h1,h2⟩
  rw[iV]at h1
  split at h1
  ·exact hb.2.1 ⟨i,o,h1,h2⟩
  ·cases h1
 ·rcases hk with ⟨o,ho⟩|hk
  ·left
   refine⟨o, ?_⟩
   rw[iV]
   split
   ·exact ho
   ·rename_i hp
    exfalso
    refine hno i hi (List.mem_map.2 ⟨(i,o),List.mem_filter.2 ⟨tZ _ _ _ ho,by simp[hp]⟩,rfl⟩)
  ·exact .inr hk
 ·rw[iV]at ho
  split at ho
  ·exact⟨o',ho,o'.like_refl _⟩
  ·cases ho
section
variable {P:Program} {T:TT} {W0:World} {b0 n:Nat} {rd:Option Nat} {c:Cx} {R:Type} {r:R} {st:St} {a:Act} {ats:List (Array Value)}
theorem IP (c:Cx) (p:Nat->Bool): ∀b,c.out b->({c with hp:=c.hp.filter fun e=>p e.1}:Cx).out b/\({c with hp:=c.hp.filter fun e=>p e.1}:Cx).w.heap[b]? =c.w.heap[b]? :=fun b hb=>⟨⟨hb.1,(by
 rintro ⟨i,o,h1,h2⟩
 simp only at h1 h2
 rw[iV]at h1
 split at h1
 ·exact hb.2.1 ⟨i,o,h1,h2⟩
 ·cases h1),hb.2.2⟩,rfl⟩
theorem Cx.Ok.filter (hc:c.Ok W0) {p:Nat->Bool} (hk:c.Keeps {c with hp:=c.hp.filter fun e=>p e.1} (ww (c.hp.filter fun e=>p e.1))):({c with hp:=c.hp.filter fun e=>p e.1}:Cx).Ok W0:=by
 have sub: ∀i o,aX (c.hp.filter fun e=>p e.1) i=some o->aX c.hp i=some o:=fun i o h=>by
  rw[iV]at h
  split at h
  ·exact h
  ·cases h
 refine⟨hc.bel,fun i o ho=> ?_,fun i j o q b h1 h2=>hc.inj i j o q b (sub i o h1) (sub j q h2),hc.mks,fun b hb=>⟨(hc.bar b hb).1,(fun⟨i,o,h1,h2⟩=>(hc.bar b hb).2.1 ⟨i,o,sub i o h1,h2⟩),(hc.bar b hb).2.2⟩,hc.phi⟩
 have h0:=hc.obj i o (sub i o ho)
 have hm:=tZ _ _ _ ho
 cases o with
 |box e cs=>
  obtain⟨h1,vs,h2,h3,h4⟩:=h0
  exact⟨h1,vs,h2,aj.keeps _ _ (hk.sub fun j hj=>yf _ _ hm j hj) h3,h4⟩
 |arr t ver xs=>
  obtain⟨h0,e,zs,h1,h2,h3⟩:=h0
  exact⟨h0,e,zs,h1,dA.mono (cu.mono hk.free t) _ _ h2,h3⟩
 |lp f fr ps asg bd ky n p=>
  obtain⟨h0,h1,L,h2,h3,h4⟩:=h0
  exact⟨h0,h1,L,h2,aj.keeps _ _ (hk.sub fun j hj=>yf _ _ hm j hj) h3,h4⟩
 |dead=>trivial
 |mp kk vk es=>exact h0
theorem fH.gc (hr:fH W0 b0 rd c st a ats) {mark:Nat} {v:aA} {u:Value} (hv:aF c v u) {st':St} (h:gc mark v st=some st'):
  ∃c',fH W0 b0 rd c' st' a ats/\aF c' v u/\c.Mono c'/\c'.w=c.w/\st'.stk=st.stk/\st'.fr=st.fr:=by
 obtain⟨fr,stk,hp,nxt⟩:=st
 simp only[Go.Proofs.YtihafdllichkeaaGreatDoor.gc]at h
 rw[cond_eq_ite]at h
 split at h
 ·rename_i hno
  cases h
  have hhp:=hr.hp
  simp only at hhp
  subst hhp
  have key: ∀p:Nat->Bool,Dv ((c.hp.filter fun e=> !p e.1).map (·.1)) (refs v++kL fr++su stk++ww (c.hp.filter fun e=>p e.1))=true->
    ∃c',fH W0 b0 rd c' ⟨fr,stk,c.hp.filter fun e=>p e.1,nxt⟩ a ats/\aF c' v u/\c.Mono c'/\c'.w=c.w/\stk=stk/\fr=fr:=fun p hno=>by
   have hno':=rC hno
   have hk:=Cx.keeps_filter (c:=c) (p:=p) hno'
   exact⟨{c with hp:=c.hp.filter fun e=>p e.1},⟨rfl,hr.nxt,hr.ok.filter (p:=p) hk.right,aj.keeps _ _ hk.left.left.right hr.fr,wB.keeps _ _ hk.left.right hr.stk,hr.df,hr.rd⟩,aF.keeps _ _ hk.left.left.left hv,⟨fun _ h=>h,fun b L h=>⟨L,h⟩,Nat.le_refl _,rfl,IP c p⟩,rfl,rfl,rfl⟩
  exact key (fun i=>Nat.blt i mark||Nw (aeq (c.hp.filter fun e=> !Nat.blt e.1 mark) 3 (refs v++kL fr++su stk++ww (c.hp.filter fun e=>Nat.blt e.1 mark))) i) hno
 ·cases h
theorem UD (f:aW->aW): ∀(h:dN) (i:Nat),aX (h.map fun e=>(e.1,f e.2)) i=(aX h i).map f
 |[],i=>rfl
 |(k,o)::h,i=>by
  simp only[List.map_cons,bH,UD f h i]
  split<;>rfl
def Cx.anew (c:Cx):Cx:={c with hp:=c.hp.map fun e=>(e.1,e.2.anew c.hp)}
theorem aW.anew_blk (h:dN) (o:aW) (l:Loc):(o.anew h).blk l=o.blk l:=by cases o<;>rfl
theorem Cx.anew_get (c:Cx) (i:Nat):aX c.anew.hp i=(aX c.hp i).map (aW.anew c.hp):=UD _ _ _
theorem Cx.anew_free (c:Cx): ∀b,c.free b->c.anew.free b/\c.anew.w.heap[b]? =c.w.heap[b]? :=fun b hb=>⟨⟨hb.1,by
 rintro ⟨i,o,h1,h2⟩
 rw[Cx.anew_get]at h1
 obtain⟨o',h3,rfl⟩:=Option.map_eq_some_iff.1 h1
 rw[aW.anew_blk]at h2
 exact hb.2.1 ⟨i,o',h3,h2⟩,hb.2.2⟩,rfl⟩
theorem Cx.anew_out (c:Cx): ∀b,c.out b->c.anew.out b/\c.anew.w.heap[b]? =c.w.heap[b]? :=fun b hb=>⟨⟨hb.1,(by
 rintro ⟨i,o,h1,h2⟩
 rw[Cx.anew_get]at h1
 obtain⟨o',h3,rfl⟩:=Option.map_eq_some_iff.1 h1
 rw[aW.anew_blk]at h2
 exact hb.2.1 ⟨i,o',h3,h2⟩),hb.2.2⟩,rfl⟩
theorem Cx.anew_known (c:Cx) {i:Nat} (h:c.known i):c.anew.known i:=by
 rcases h with ⟨o,ho⟩|h
 ·exact .inl ⟨_,by rw[Cx.anew_get,ho];rfl⟩
 ·exact .inr h
theorem wU {h:dN} {id ver:Nat} (hf:II h id ver=true): ∃t xs,aX h id=some (.arr t ver xs):=by
 simp only[II,aky]at hf
 cases ho:aX h id with
 |none=>rw[ho]at hf;cases hf
 |some o=>
  rw[ho]at hf
  cases o with
  |arr t v xs=>simp only[beq_iff_eq]at hf;subst hf;exact⟨t,xs,rfl⟩
  |_=>cases hf
mutual
theorem aF.anew {c:Cx}: ∀(v:aA) (x:Value),aF c v x->aF c.anew (Go.Proofs.YtihafdllichkeaaGreatDoor.anew c.hp v) x
 |.undef,_,_=>by simp[aF,Go.Proofs.YtihafdllichkeaaGreatDoor.anew]
 |.val t x,v,hv=>by
  simp only[aF,Go.Proofs.YtihafdllichkeaaGreatDoor.anew]at hv ⊢
  exact⟨fun e=>let⟨cs,h1,h2⟩:=hv.1 e;⟨cs,h1,cu.mono c.anew_free t x _ h2⟩,fun e=>cu.mono c.anew_free t x _ (hv.2 e)⟩
 |.nils,_,hv=>by simpa only[aF,Go.Proofs.YtihafdllichkeaaGreatDoor.anew] using hv
 |.emp,_,hv=>by simpa only[aF,Go.Proofs.YtihafdllichkeaaGreatDoor.anew] using hv
 |.lst t x b,v,hv=>by
  simp only[aF,Go.Proofs.YtihafdllichkeaaGreatDoor.anew]at hv ⊢
  exact⟨⟨fun e=>let⟨cs,h1,h2⟩:=hv.1.1 e;⟨cs,h1,cu.mono c.anew_free (.list t) x _ h2⟩,fun e=>cu.mono c.anew_free (.list t) x _ (hv.1.2 e)⟩,hv.2⟩
 |.nilp,_,hv=>by simpa only[aF,Go.Proofs.YtihafdllichkeaaGreatDoor.anew] using hv
 |.nilfn,_,hv=>by simpa only[aF,Go.Proofs.YtihafdllichkeaaGreatDoor.anew] using hv
 |.tup l,v,hv=>by simp only[aF,Go.Proofs.YtihafdllichkeaaGreatDoor.anew]at hv ⊢;obtain⟨vs,h1,h2⟩:=hv;exact⟨vs,h1,aj.anew l _ h2⟩
 |.agg l,v,hv=>by simp only[aF,Go.Proofs.YtihafdllichkeaaGreatDoor.anew]at hv ⊢;obtain⟨vs,h1,h2,h3⟩:=hv;exact⟨vs,h1,aj.anew l _ h2,h3⟩
 |.cellp t x,v,hv=>by
  simp only[aF,Go.Proofs.YtihafdllichkeaaGreatDoor.anew]at hv ⊢
  obtain⟨b,o,zs,h1,h2,h3,h4⟩:=hv
  exact⟨b,o,zs,h1,(c.anew_free b h2).1,h3.of_block (c.anew_free b h2).2,cu.mono c.anew_free t x _ h4⟩
 |.ptr id off,v,hv=>by
  simp only[aF,Go.Proofs.YtihafdllichkeaaGreatDoor.anew]at hv ⊢
  obtain⟨hone,hv⟩:=hv
  refine⟨hone,c.anew_known hv.1,fun t cs hc=> ?_⟩
  rw[Cx.anew_get]at hc
  obtain⟨o,h1,h2⟩:=Option.map_eq_some_iff.1 hc
  cases o<;>simp only[aW.anew,reduceCtorEq]at h2
  exact hv.2 _ _ h1
 |.slf id,v,hv=>by
  simp only[aF,Go.Proofs.YtihafdllichkeaaGreatDoor.anew]at hv ⊢
  obtain⟨hone,hv⟩:=hv
  refine⟨hone,c.anew_known hv.1,fun t cs hc=> ?_⟩
  rw[Cx.anew_get]at hc
  obtain⟨o,h1,h2⟩:=Option.map_eq_some_iff.1 hc
  cases o<;>simp only[aW.anew,reduceCtorEq]at h2
  exact hv.2 _ _ h1
 |.sd id ver,v,hv=>by
  simp only[aF,Go.Proofs.YtihafdllichkeaaGreatDoor.anew]at hv ⊢
  rw[cond_eq_ite]
  split
  ·rename_i hf
   obtain⟨t0,xs0,h0⟩:=wU hf
   simp only[aF]
   obtain⟨hone,hv⟩:=hv
   refine⟨hone,c.anew_known hv.1,fun t u xs hc=>⟨Nat.zero_le _,fun hu=> ?_⟩⟩
   exact(hv.2 _ _ _ h0).2 rfl
  ·simp[aF]
 |.slc id ver vw,v,hv=>by
  simp only[aF,Go.Proofs.YtihafdllichkeaaGreatDoor.anew]at hv ⊢
  rw[cond_eq_ite]
  split
  ·rename_i hf
   obtain⟨t0,xs0,h0⟩:=wU hf
   simp only[aF]
   obtain⟨hone,hv⟩:=hv
   refine⟨hone,c.anew_known hv.1,fun t u xs hc=>⟨Nat.zero_le _,fun hu=> ?_⟩⟩
   rw[Cx.anew_get,h0]at hc
   simp only[Option.map_some,aW.anew,Option.some.injEq,aW.arr.injEq]at hc
   obtain⟨e1,_,_⟩:=hc
   rw[<-e1]
   exact(hv.2 _ _ _ h0).2 rfl
  ·simp[aF]
 |.ep id ver i off,v,hv=>by
  simp only[aF,Go.Proofs.YtihafdllichkeaaGreatDoor.anew]at hv ⊢
  rw[cond_eq_ite]
  split
  ·rename_i hf
   obtain⟨t0,xs0,h0⟩:=wU hf
   simp only[aF]
   obtain⟨hone,hv⟩:=hv
   refine⟨hone,c.anew_known hv.1,fun t u xs hc=>⟨Nat.zero_le _,fun hu=> ?_⟩⟩
   rw[Cx.anew_get,h0]at hc
   simp only[Option.map_some,aW.anew,Option.some.injEq,aW.arr.injEq]at hc
   obtain⟨e1,_,_⟩:=hc
   rw[<-e1]
   exact(hv.2 _ _ _ h0).2 rfl
  ·simp[aF]
 |.fn f l,v,hv=>by simp only[aF,Go.Proofs.YtihafdllichkeaaGreatDoor.anew]at hv ⊢;obtain⟨vs,h1,h2⟩:=hv;exact⟨vs,h1,aj.anew l _ h2⟩
 |.mfn f l,v,hv=>by simp only[aF,Go.Proofs.YtihafdllichkeaaGreatDoor.anew]at hv ⊢;obtain⟨vs,h1,h2⟩:=hv;exact⟨vs,h1,aj.anew l _ h2⟩
 |.mpv id,v,hv=>by
  simp only[aF,Go.Proofs.YtihafdllichkeaaGreatDoor.anew]at hv ⊢
  obtain⟨hone,hv⟩:=hv
  refine⟨hone,c.anew_known hv.1,fun kk vk es hc=> ?_⟩
  rw[Cx.anew_get]at hc
  obtain⟨o,h1,h2⟩:=Option.map_eq_some_iff.1 hc
  cases o<;>simp only[aW.anew,reduceCtorEq]at h2
  exact hv.2 _ _ _ h1
 |.yld id,v,hv=>by
  simp only[aF,Go.Proofs.YtihafdllichkeaaGreatDoor.anew]at hv ⊢
  obtain⟨hone,hv⟩:=hv
  refine⟨hone,c.anew_known hv.1,fun f fr ps asg bd ky n p hc=> ?_⟩
  rw[Cx.anew_get]at hc
  obtain⟨o,h1,h2⟩:=Option.map_eq_some_iff.1 hc
  cases o<;>simp only[aW.anew,reduceCtorEq]at h2
  exact hv.2 _ _ _ _ _ _ _ _ h1
theorem aj.anew {c:Cx}: ∀(l:List aA) (xs:List Value),aj c l xs->aj c.anew (ut c.hp l) xs
 |[],[],_=>by simp[aj,ut]
 |v::l,x::xs,hv=>by
  simp only[aj,ut]at hv ⊢;exact⟨aF.anew v x hv.1,aj.anew l xs hv.2⟩
 |[],_::_,hv=>by simp[aj]at hv
 |_::_,[],hv=>by simp[aj]at hv
end
theorem wB.anew {c:Cx}: ∀(fs:List (List aA)) (ts:List (Array Value)),wB c fs ts->wB c.anew (fs.map (ut c.hp)) ts
 |[],[],_=>trivial
 |f::fs,t::ts,hh=>⟨aj.anew _ _ hh.1,wB.anew fs ts hh.2⟩
 |[],_::_,hh=>hh.elim
 |_::_,[],hh=>hh.elim
theorem fH.anew (hr:fH W0 b0 rd c st a ats): ∃c',fH W0 b0 rd c' (Nq st) a ats/\c.Mono c'/\c'.w=c.w:=by
 obtain⟨fr,stk,hp,nxt⟩:=st
 have hhp:=hr.hp
 simp only at hhp
 subst hhp
 refine⟨c.anew,⟨rfl,hr.nxt,⟨hr.ok.bel,fun i o ho=> ?_,fun i j o q b h1 h2 h3 h4=> ?_,hr.ok.mks,fun b hb=>(Cx.anew_out c b (hr.ok.bar b hb)).1,hr.ok.phi⟩,aj.anew _ _ hr.fr,wB.anew _ _ hr.stk,hr.df,hr.rd⟩,⟨fun _ h=>h,fun b L h=>⟨L,h⟩,Nat.le_refl _,rfl,Cx.anew_out c⟩,rfl⟩
 ·rw[Cx.anew_get]at ho
  obtain⟨o',h1,rfl⟩:=Option.map_eq_some_iff.1 ho
  have h0:=hr.ok.obj i o' h1
  cases o' with
  |box e cs=>
   obtain⟨h1,vs,h2,h3,h4⟩:=h0
   exact⟨h1,vs,h2,aj.anew _ _ h3,h4⟩
  |arr t ver xs=>
   obtain⟨h0,e,zs,h1,h2,h3⟩:=h0
   exact⟨h0,e,zs,h1,dA.mono (cu.mono c.anew_free t) _ _ h2,h3⟩
  |lp f fr ps asg bd ky n p=>
   obtain⟨h0,h1,L,h2,h3,h4⟩:=h0
   exact⟨h0,h1,L,h2,aj.anew _ _ h3,h4⟩
  |dead=>trivial
  |mp kk vk es=>exact h0
 ·rw[Cx.anew_get]at h1 h2
  obtain⟨o1,h5,rfl⟩:=Option.map_eq_some_iff.1 h1
  obtain⟨q1,h6,rfl⟩:=Option.map_eq_some_iff.1 h2
  rw[aW.anew_blk]at h3 h4
  exact hr.ok.inj i j o1 q1 b h5 h6 h3 h4
theorem um {l:List Nat}: ∀(i:Nat) (fr:List aA) (xs:List Value),aj c fr xs->aj c (zo l i fr) xs
 |i,[],[],_=>by simp[aj,zo]
 |i,v::fr,x::xs,h=>by
  simp only[aj,zo]at h ⊢
  refine⟨?_,um (i+1) fr xs h.2⟩
  rw[cond_eq_ite]
  split
  ·exact h.1
  ·simp[aF]
 |i,[],_::_,h=>by simp[aj]at h
 |i,_::_,[],h=>by simp[aj]at h
end
end Go.Proofs.YtihafdllichkeaaGreatDoor
namespace Go.Proofs.YtihafdllichkeaaGreatDoor
open Go.RowKit
set_option linter.unusedVariables false
set_option linter.unusedSimpArgs false
section
variable {P:Program} {T:TT} {W0:World} {b0 n:Nat} {rd:Option Nat} {c:Cx} {R:Type} {r:R} {st:St} {a:Act} {ats:List (Array Value)}
theorem akA {n lo hi:Int} (h:bu n lo hi=true):0<=lo/\lo<=hi/\hi<=n:=by
 simpa [bu,and_assoc] using h
theorem EC (hr:fH W0 b0 rd c st a ats) {s:Nat} {t:Ty} {st':St} (h:pg s t st=some st'): ∃c',fH W0 b0 rd c' st' a ats/\c.Mono c'/\c'.w=c.w:=by
 have hslot: ∀hs:s<a.tmps.toList.length,aF c (st.fr.getD s .undef) a.tmps.toList[s]:=fun hs=>by
  have:=hr.fr.getD s
  rwa [Array.getD,dif_pos (by simpa using hs)]at this
 obtain⟨fr,stk,hp,nxt⟩:=st
 simp only[pg]at h
 split at h
 ·rename_i hn
  simp only at hslot
  rw[hn]at hslot
  split at h
  ·cases h
  ·rename_i hg
   rw[cond_eq_ite]at h
   split at h
   ·rename_i hb
    cases h
    simp only[Bool.and_eq_true]at hb
    have h1:nxt<=1000000*stk.length+800000+s:=by simpa [Nat.ble_eq] using hb.1
    have h2:0<t.size:=by have:=hb.2;simp[Nat.blt]at this;omega
    obtain⟨c',hd,hw,hv⟩:=lX hr.ok (st:=⟨fr,stk,hp,nxt⟩) hr.hp hr.nxt hg h1 (Nat.le_refl nxt) (y:=t) h2 (xs:=[]) (v:=.slice none 0 0) (w:=c.w) (Below.refl _ _) kQ [] ⟨by simp,.inl ⟨rfl,rfl⟩⟩ (by simp[dA]) rfl (fun _=>rfl)
    have hr':=hr.did hd
    refine⟨c',⟨hr'.hp,hr'.nxt,hr'.ok,aj.setL _ _ _ hr'.fr fun hs=> ?_,hr'.stk,hr'.df,hr'.rd⟩,hd.le.mono,hw⟩
    have:=hslot hs
    simp only[aF]at this
    rw[this];exact hv
   ·cases h
 ·rename_i id ver vw hn
  simp only at hslot
  rw[hn]at hslot
  split at h
  ·rename_i u w xs hg
   rw[cond_eq_ite]at h
   split at h
   ·rename_i hver
    have hver:w=ver:=by simpa using hver
    subst hver
    split at h
    ·cases h;exact⟨c,hr,Cx.Mono.refl c,rfl⟩
    ·rename_i lo hi
     rw[cond_eq_ite]at h
     split at h
     ·rename_i hb
      cases h
      simp only[beq_iff_eq]at hb
      subst hb
      have hhp:=hr.hp
      simp only at hhp
      subst hhp
      have hobj:=hr.ok.obj id _ hg
      obtain⟨hpos,e,zs,hown,hL,hty⟩:=hobj
      by_cases hs:s<a.tmps.toList.length
      ·have hv:=hslot hs
       simp only[aF]at hv
       have hview:=(hv.2.2 _ _ _ hg).2 rfl
       have⟨hb1,hb2⟩:0<=hi/\hi<=ah xs:=by
        obtain⟨a1,n1,c1,e1,_,p2,p3,_⟩:=hview
        obtain⟨a2,c2,e2,_⟩:=lS hown
        rw[e2]at e1
        cases e1
        exact⟨p2,p3⟩
       obtain⟨hown',hblk⟩:=y8 hown hb1 hb2 hview
       have hk:(aW.arr u w xs).like (c.mu id) (.arr u (w+1) (xs.take hi.toNat)) ⟨(c.mu id).blk,a.tmps.toList[s]⟩:=⟨by omega,fun e=>by omega⟩
       have hle:=Cx.Le.put (w:=c.w) hr.ok hg hk (Nat.le_refl _) (fun _ _ _=>rfl) (fun b hb=>.inl (hblk b hb)) (fun b L _ hL=>⟨L,hL⟩)
       have hok:=Cx.Ok.put (w:=c.w) hr.ok hg hk hr.ok.bel (Nat.le_refl _) (fun _ _ _=>rfl) (fun b hb=>.inl (hblk b hb)) (fun b L _ hL=>⟨L,hL⟩) (by
        refine⟨hpos,e,zs.take (hi.toNat*u.size), ?_,dA.take _ _ _ (dA.mono (cu.mono hle.free u) _ _ hL),hty⟩
        have:(xs.take hi.toNat).length=hi.toNat:=by rw[List.length_take];simp only[ah]at hb2;omega
        rw[this]
        simp only[Cx.put,upd_same]
        exact hown')
       refine⟨c.put id (aW.arr u (w+1) (List.take hi.toNat xs)) ⟨(c.mu id).blk,a.tmps.toList[s]⟩ c.w,⟨rfl,hr.nxt,hok,aj.setL _ _ _ (aj.le hle _ _ hr.fr) fun _=> ?_,wB.le hle _ _ hr.stk, ?_, ?_⟩,hle.mono,rfl⟩
       ·simp only[aF]
        refine⟨hv.1,.inl ⟨_,Cx.put_get hg⟩,fun t' u' xs' hg'=> ?_⟩
        rw[Cx.put_get hg]at hg'
        cases hg'
        exact⟨Nat.le_refl _,fun _=>by simp[fO,Cx.put,upd_same]⟩
       ·obtain⟨ds,h1,h2,h3⟩:=hr.df
        exact⟨ds,h1,h2,h3⟩
       ·exact hr.rd
      ·exfalso
       have hl:=aj.length _ _ hr.fr
       rw[List.getD_eq_getElem?_getD,List.getElem?_eq_none (by simp only at hl;omega)]at hn
       cases hn
     ·cases h
   ·cases h
  ·cases h
 ·cases h
theorem BM (hr:fH W0 b0 rd c st a ats) {s:Nat} {t:Ty} {st':St} (h:tV s t st=some st'): ∃c',fH W0 b0 rd c' st' a ats/\c.Mono c'/\c'.w=c.w:=by
 have hslot: ∀hs:s<a.tmps.toList.length,aF c (st.fr.getD s .undef) a.tmps.toList[s]:=fun hs=>by
  have:=hr.fr.getD s
  rwa [Array.getD,dif_pos (by simpa using hs)]at this
 have empty: ∀(hv: ∀hs:s<a.tmps.toList.length,∃av,a.tmps.toList[s]=.slice av 0 0),∃c',fH W0 b0 rd c' {st with fr:=st.fr.set s (.val (.list t) [])} a ats/\c.Mono c'/\c'.w=c.w:=fun hv=>
  ⟨c,⟨hr.hp,hr.nxt,hr.ok,aj.setL _ _ _ hr.fr fun hs=>by
   obtain⟨av,hav⟩:=hv hs
   rw[hav]
   simp only[aF]
   exact(VD.leaf rfl).2 ⟨av,0,[],rfl,Nat.le_refl _,rfl,.inl rfl⟩,hr.stk,hr.df,hr.rd⟩,Cx.Mono.refl c,rfl⟩
 unfold tV at h
 split at h
 ·rename_i hn
  rw[hn]at hslot
  cases h
  exact empty fun hs=>⟨none,by have:=hslot hs;simpa only[aF] using this⟩
 ·rename_i hn
  rw[hn]at hslot
  cases h
  exact empty fun hs=>by have:=hslot hs;simpa only[aF] using this
 ·rename_i id ver hn
  rw[hn]at hslot
  split at h
  ·rename_i u w xs hg
   replace h:=aP h
   obtain⟨hb,h⟩:=h
   simp only[Bool.and_eq_true,beq_iff_eq]at hb
   obtain⟨rfl,hno⟩:=hb
   cases h
   obtain⟨fr,stk,hp,nxt⟩:=st
   have hhp:=hr.hp
   simp only at hhp hg hno hn
   subst hhp
   have hfr0:aj c (fr.set s .undef) a.tmps.toList:=aj.setL _ _ _ hr.fr fun _=>by simp[aF]
   have hk:=Cx.keeps_filter (c:=c) (p:=fun i=> !Nat.beq i id) (rC hno)
   have hok':=hr.ok.filter (p:=fun i=> !Nat.beq i id) hk.right
   have hrel:fH W0 b0 rd {c with hp:=c.hp.filter fun e=> !Nat.beq e.1 id} ⟨fr.set s .undef,stk,c.hp.filter fun e=> !Nat.beq e.1 id,nxt⟩ a ats:=
    ⟨rfl,hr.nxt,hok',aj.keeps _ _ hk.left.left hfr0,wB.keeps _ _ hk.left.right hr.stk,hr.df,hr.rd⟩
   refine⟨{c with hp:=c.hp.filter fun e=> !Nat.beq e.1 id},⟨rfl,hrel.nxt,hrel.ok, ?_,hrel.stk,hrel.df,hrel.rd⟩,⟨fun _ h=>h,fun b L h=>⟨L,h⟩,Nat.le_refl _,rfl,IP c fun i=> !Nat.beq i id⟩,rfl⟩
   have gB:=aj.setL (z:=.val (.list u) xs) s _ _ hrel.fr fun hs=>by
    have hv:=hslot hs
    simp only[aF]at hv ⊢
    have hu:=(hv.2.2 _ _ _ hg).2 rfl
    simp only[fO]at hu
    obtain⟨hpos,e,zs,hown,hL,hty⟩:=hr.ok.obj id _ hg
    rw[hu]
    have hL':=dA.mono (cu.mono hk.free u) _ _ hL
    rcases hown.2 with ⟨e1,e2⟩|⟨g,cap,cur,e1,e2,e3,e4,e5,e6,e7⟩
    ·have hx:xs=[]:=List.eq_nil_of_length_eq_zero e2
     subst hx
     rw[e1]
     exact(VD.leaf rfl).2 ⟨none,0,[],rfl,Nat.le_refl _,rfl,.inl rfl⟩
    ·obtain⟨a2,cp2,f1,f2,f3⟩:=Dn hown
     rw[e1]at f1
     cases f1
     rw[e1]
     refine(VD.leaf rfl).2 ⟨_,_,zs,rfl,e4,hL',f3.imp (fun h=>h) fun⟨g',q1,q2,q4,q3⟩=> ?_⟩
     cases q1
     refine⟨g,0,rfl,⟨q2, ?_, ?_,fun hb=>(hr.ok.bar _ hb).2.1 ⟨id,_,hg,by simp[aW.blk,e1,Value.ownBlock]⟩⟩,q3⟩
     ·rintro ⟨j,o,h1,h2⟩
      simp only at h1
      rw[iV (fun i=> !Nat.beq i id)]at h1
      split at h1
      ·rename_i hj
       have:=hr.ok.inj j id o _ g h1 hg h2 (by simp[aW.blk,e1,Value.ownBlock])
       subst this
       simp at hj
      ·cases h1
     ·intro hm
      obtain⟨_,hd⟩:=hr.ok.mks g hm
      rw[e3]at hd
      cases hd
   rw[List.set_set]at gB
   exact gB
  ·cases h
 ·cases h
 ·cases h
  exact⟨c,hr,Cx.Mono.refl c,rfl⟩
theorem QE (hr:fH W0 b0 rd c st a ats) {id off:Nat} {t:Ty} {st':St} (h:JF id off t st=some st'): ∃c',fH W0 b0 rd c' st' a ats/\c.Mono c'/\c'.w=c.w:=by
 have same:some st=some st'-> ∃c',fH W0 b0 rd c' st' a ats/\c.Mono c'/\c'.w=c.w:=fun h=>by cases h;exact⟨c,hr,Cx.Mono.refl c,rfl⟩
 obtain⟨fr,stk,hp,nxt⟩:=st
 simp only[JF]at h
 split at h
 ·rename_i bt cs hbox
  split at h
  ·rename_i hcell
   split at h
   ·rename_i t'
    cases h
    have hbox':aX c.hp id=some (.box bt cs):=by rw[hr.hp];exact hbox
    obtain⟨hB,us,h3,h4,h5⟩:=hr.ok.obj id _ hbox'
    have hnil: ∀ho:off<us.toList.length,us.toList[off]=.slice none 0 0:=fun ho=>by
     have:=aj.getD h4 off
     rw[hcell,Array.getD,dif_pos (by simpa using ho)]at this
     simp only[aF]at this
     exact this
    have hk2:(aW.box bt cs).like (c.mu id) (.box bt (cs.set off (.val (.list t') []))) (c.mu id):=rfl
    have hle2:=Cx.Le.put (w:=c.w) hr.ok hbox' hk2 (Nat.le_refl _) (fun _ _ _=>rfl) (fun b hb=>.inl hb) (fun b L _ hL=>⟨L,hL⟩)
    have hok2:=Cx.Ok.put (w:=c.w) hr.ok hbox' hk2 hr.ok.bel (Nat.le_refl _) (fun _ _ _=>rfl) (fun b hb=>.inl hb) (fun b L _ hL=>⟨L,hL⟩) (by
     refine⟨by simp only[Cx.put,upd_same];exact hB,us,by simp only[Cx.put,upd_same];exact h3, ?_,h5⟩
     exact aj.le hle2 _ _ (aj.setL off _ _ h4 fun ho=>by
      rw[hnil ho]
      simp only[aF]
      exact(VD.leaf rfl).2 ⟨none,0,[],rfl,Nat.le_refl _,rfl,.inl rfl⟩))
    refine⟨c.put id (.box bt (cs.set off (.val (.list t') []))) (c.mu id) c.w,⟨?_,hr.nxt,hok2,aj.le hle2 _ _ hr.fr,wB.le hle2 _ _ hr.stk, ?_, ?_⟩,hle2.mono,rfl⟩
    ·simp only[Cx.put]
     rw[hr.hp]
    ·obtain⟨ds,q1,q2,q3⟩:=hr.df
     exact⟨ds,q1,q2,q3⟩
    ·exact hr.rd
   generalize id+500000+2000*off=nm at h
   split at h
   ·cases h
   ·rename_i hg
    rw[cond_eq_ite]at h
    split at h
    ·rename_i hb
     cases h
     simp only[Bool.and_eq_true]at hb
     have h1:nxt<=nm:=by simpa [Nat.ble_eq] using hb.1
     have h2:0<t.size:=by have:=hb.2;simp[Nat.blt]at this;omega
     have hne:nm≠id:=fun e=>by rw[e,hbox]at hg;cases hg
     obtain⟨c',hd,hw,hv⟩:=lX hr.ok (st:=⟨fr,stk,hp,nxt⟩) hr.hp hr.nxt hg h1 (Nat.le_refl nxt) (y:=t) h2 (xs:=[]) (v:=.slice none 0 0) (w:=c.w) (Below.refl _ _) kQ [] ⟨by simp,.inl ⟨rfl,rfl⟩⟩ (by simp[dA]) rfl (fun _=>rfl)
     have hr':=hr.did hd
     have hbox':aX c'.hp id=some (.box bt cs):=by
      rw[hd.hp]
      simp only[bH]
      rw[if_neg hne]
      exact hbox
     obtain⟨hB,us,h3,h4,h5⟩:=hr'.ok.obj id _ hbox'
     have hnil: ∀ho:off<us.toList.length,us.toList[off]=.slice none 0 0:=fun ho=>by
      have:=aj.getD h4 off
      rw[hcell,Array.getD,dif_pos (by simpa using ho)]at this
      simp only[aF]at this
      exact this
     have hk2:(aW.box bt cs).like (c'.mu id) (.box bt (cs.set off (.slc nm 0 none))) (c'.mu id):=rfl
     have hle2:=Cx.Le.put (w:=c'.w) hr'.ok hbox' hk2 (Nat.le_refl _) (fun _ _ _=>rfl) (fun b hb=>.inl hb) (fun b L _ hL=>⟨L,hL⟩)
     have hok2:=Cx.Ok.put (w:=c'.w) hr'.ok hbox' hk2 hr'.ok.bel (Nat.le_refl _) (fun _ _ _=>rfl) (fun b hb=>.inl hb) (fun b L _ hL=>⟨L,hL⟩) (by
      refine⟨by simp only[Cx.put,upd_same];exact hB,us,by simp only[Cx.put,upd_same];exact h3, ?_,h5⟩
      exact aj.le hle2 _ _ (aj.setL off _ _ h4 fun ho=>by rw[hnil ho];exact hv))
     refine⟨c'.put id (.box bt (cs.set off (.slc nm 0 none))) (c'.mu id) c'.w,⟨?_,hr'.nxt,hok2,aj.le hle2 _ _ hr'.fr,wB.le hle2 _ _ hr'.stk, ?_, ?_⟩,hd.le.mono.trans hle2.mono,hw⟩
     ·simp only[Cx.put]
      rw[hd.hp]
     ·obtain⟨ds,q1,q2,q3⟩:=hr'.df
      exact⟨ds,q1,q2,q3⟩
     ·exact hr'.rd
    ·cases h
  ·exact same h
 ·exact same h
theorem MF (k:Nat) (o:aW) (i:Nat): ∀h:dN,aX (ag4 k o h) i=if k=i then some o else aX h i
 |[]=>by simp[ag4,bH]
 |(j,p)::h=>by
  simp only[ag4]
  rw[cond_eq_ite]
  split
  ·rw[bH]
  ·rename_i hb
   have hne:j≠k:=fun e=>hb (by subst e;exact by simp[Nat.ble_eq])
   rw[bH,MF k o i h,bH]
   split
   ·rename_i e;subst e;rw[if_neg (fun e=>hne e.symm)]
   ·rfl
theorem uZ (i:Nat): ∀h:dN,aX (jE h) i=aX h i
 |[]=>rfl
 |(k,o)::h=>by simp only[jE];rw[MF,uZ i h,bH]
theorem fH.sorted (hr:fH W0 b0 rd c st a ats): ∃c',fH W0 b0 rd c' {st with hp:=jE st.hp} a ats/\c.Mono c'/\c'.w=c.w:=by
 have hg: ∀i,aX (jE c.hp) i=aX c.hp i:=fun i=>uZ i _
 have hself: ∀(o:aW) (l:Loc),o.like l o l:=fun o l=>by
  cases o<;>simp[aW.like]
 have hle:c.Le {c with hp:=jE c.hp}:=by
  refine⟨fun b hb=>⟨⟨hb.1,fun⟨j,o,h1,h2⟩=>hb.2.1 ⟨j,o,by rw[<-hg];exact h1,h2⟩,hb.2.2⟩,rfl⟩,fun id hk=> ?_,fun id o' _ h=>⟨o',by rw[<-hg];exact h,hself _ _⟩,fun _ h=>h,fun b L h=>⟨L,h⟩,Nat.le_refl _,rfl⟩
  rcases hk with ⟨o,h⟩|h
  ·exact .inl ⟨o,by show aX (jE c.hp) id=some o;rw[hg];exact h⟩
  ·exact .inr h
 have hok:({c with hp:=jE c.hp}:Cx).Ok W0:=by
  refine⟨hr.ok.bel,fun id o h=> ?_,fun i j o p b h1 h2=>hr.ok.inj i j o p b (by rw[<-hg];exact h1) (by rw[<-hg];exact h2),hr.ok.mks,fun b hb=>(hle.out b (hr.ok.bar b hb)).1,hr.ok.phi⟩
  exact(hr.ok.obj id o (by rw[<-hg];exact h)).le hle rfl fun b _=>rfl
 exact⟨{c with hp:=jE c.hp},⟨by show jE c.hp=jE st.hp;rw[hr.hp],hr.nxt,hok,aj.le hle _ _ hr.fr,wB.le hle _ _ hr.stk,hr.df,hr.rd⟩,hle.mono,rfl⟩
theorem SK (hr:fH W0 b0 rd c st a ats) {id off:Nat} {t:Ty} {st':St} (h:CE id off t st=some st'): ∃c',fH W0 b0 rd c' st' a ats/\c.Mono c'/\c'.w=c.w:=by
 simp only[CE]at h
 split at h
 ·rename_i st1 h1
  cases h
  obtain⟨c1,r1,m1,w1⟩:=QE hr h1
  obtain⟨c2,r2,m2,w2⟩:=r1.sorted
  exact⟨c2,r2,m1.trans m2,w2.trans w1⟩
 ·cases h
theorem Tf (hr:fH W0 b0 rd c st a ats) {s:Nat} {t:Ty} {st':St} (h:BR s t st=some st'): ∃c',fH W0 b0 rd c' st' a ats/\c.Mono c'/\c'.w=c.w:=by
 have hslot: ∀hs:s<a.tmps.toList.length,aF c (st.fr.getD s .undef) a.tmps.toList[s]:=fun hs=>by
  have:=hr.fr.getD s
  rwa [Array.getD,dif_pos (by simpa using hs)]at this
 unfold BR at h
 generalize hN:1000000*st.stk.length+800000+s=N at h
 split at h
 ·rename_i id ver hn
  rw[hn]at hslot
  rw[cond_eq_ite]at h
  split at h
  ·cases h;exact hr.sorted
  ·rename_i hne
   have hne:id≠N:=fun e=>hne (by simp[e])
   split at h
   ·rename_i u w xs hg
    obtain⟨hb,h⟩:=aP h
    simp only[Bool.and_eq_true]at hb
    obtain⟨hnx,hno⟩:=hb
    cases h
    obtain⟨fr,stk,hp,nxt⟩:=st
    have hhp:=hr.hp
    have hcn:=hr.nxt
    simp only at hhp hg hno hn hnx hcn
    subst hhp
    subst hcn
    have hnx:c.nxt<=N:=by simpa [Nat.ble_eq] using hnx
    have hno': ∀i∈kL (fr.set s .undef)++su stk++ww (c.hp.filter fun e=> !(Nat.beq e.1 id||Nat.beq e.1 N)),i≠id/\i≠N:=fun i hi=>by
     have:=rC hno i hi
     simp only[List.mem_cons,List.not_mem_nil,or_false,not_or]at this
     exact this
    have hget2: ∀i,aX (jE ((N,.arr u w xs)::c.hp.filter fun e=> !(Nat.beq e.1 id||Nat.beq e.1 N))) i=if N=i then some (.arr u w xs)else if i=id then none else aX c.hp i:=fun i=>by
     rw[uZ,bH]
     split
     ·rfl
     ·rename_i hNi
      rw[iV (fun i=> !(Nat.beq i id||Nat.beq i N))]
      have h1:Nat.beq i N=false:=Bool.eq_false_iff.2 fun h=>hNi (Nat.eq_of_beq_eq_true h).symm
      by_cases e:i=id
      ·simp[e]
      ·have h2:Nat.beq i id=false:=Bool.eq_false_iff.2 fun h=>e (Nat.eq_of_beq_eq_true h)
       rw[h1,h2,if_neg e];rfl
    generalize hH:jE ((N,.arr u w xs)::c.hp.filter fun e=> !(Nat.beq e.1 id||Nat.beq e.1 N))=H at*
    generalize hc2:({c with mu:=Go.Proofs.YtihafdllichkeaaGreatDoor.upd c.mu N (c.mu id),hp:=H}:Cx)=c2
    have e_hp:c2.hp=H:=by rw[<-hc2]
    have e_w:c2.w=c.w:=by rw[<-hc2]
    have e_nxt:c2.nxt=c.nxt:=by rw[<-hc2]
    have e_mks:c2.mks=c.mks:=by rw[<-hc2]
    have e_bar:c2.bar=c.bar:=by rw[<-hc2]
    have e_muN:c2.mu N=c.mu id:=by rw[<-hc2];exact upd_same ..
    have e_mu: ∀i,i≠N->c2.mu i=c.mu i:=fun i hi=>by rw[<-hc2];simp[Go.Proofs.YtihafdllichkeaaGreatDoor.upd,hi]
    have claim: ∀b,(∃i o,aX c2.hp i=some o/\o.blk (c2.mu i)=some b)-> ∃i o,aX c.hp i=some o/\o.blk (c.mu i)=some b:=fun b ⟨i,o,h1,h2⟩=>by
     rw[e_hp,hget2]at h1
     split at h1
     ·rename_i e;subst e;cases h1;rw[e_muN]at h2;exact⟨id,_,hg,h2⟩
     ·rename_i e
      split at h1
      ·cases h1
      ·rw[e_mu i (fun q=>e q.symm)]at h2;exact⟨i,o,h1,h2⟩
    have hout: ∀b,c.out b->c2.out b:=fun b hb=>⟨by rw[e_w];exact hb.1,fun h=>hb.2.1 (claim b h),by rw[e_mks];exact hb.2.2⟩
    have hfree: ∀b,c.free b->c2.free b/\c2.w.heap[b]? =c.w.heap[b]? :=fun b hb=>⟨⟨by rw[e_w];exact hb.1,fun h=>hb.2.1 (claim b h),by rw[e_mks,e_bar];exact hb.2.2⟩,by rw[e_w]⟩
    have keeps: ∀l:List Nat,(∀i∈l,i≠id/\i≠N)->c.Keeps c2 l:=fun l hl=>by
     refine⟨hfree,fun i hi hk=> ?_,fun i hi o' ho=> ?_⟩
     ·rcases hk with ⟨o,ho⟩|hk
      ·left
       refine⟨o, ?_⟩
       rw[e_hp,hget2,if_neg (fun e=>(hl i hi).2 e.symm),if_neg (hl i hi).1]
       exact ho
      ·right;rw[e_nxt];exact hk
     ·rw[e_hp,hget2,if_neg (fun e=>(hl i hi).2 e.symm),if_neg (hl i hi).1]at ho
      refine⟨o',ho, ?_⟩
      rw[e_mu i (hl i hi).2]
      exact o'.like_refl _
    have hmemf: ∀i o,i≠id->i≠N->aX c.hp i=some o->(i,o)∈c.hp.filter fun e=> !(Nat.beq e.1 id||Nat.beq e.1 N):=fun i o hi hi2 ho=>List.mem_filter.2 ⟨tZ _ _ _ ho,by
     have h1:Nat.beq i N=false:=Bool.eq_false_iff.2 fun h=>hi2 (Nat.eq_of_beq_eq_true h)
     have h2:Nat.beq i id=false:=Bool.eq_false_iff.2 fun h=>hi (Nat.eq_of_beq_eq_true h)
     show(!(Nat.beq i id||Nat.beq i N))=true
     rw[h1,h2];rfl⟩
    have hok:c2.Ok W0:=by
     refine⟨by rw[e_w];exact hr.ok.bel,fun i o ho=> ?_,fun i j o q b h1 h2 h3 h4=> ?_,fun r hrm=>by rw[e_w];exact hr.ok.mks r (by rw[<-e_mks];exact hrm),fun b hb=>hout b (hr.ok.bar b (by rw[<-e_bar];exact hb)),hr.ok.phi⟩
     ·rw[e_hp,hget2]at ho
      split at ho
      ·rename_i e;subst e;cases ho
       obtain⟨hpos,e,zs,hown,hL,hty⟩:=hr.ok.obj id _ hg
       refine⟨hpos,e,zs, ?_, ?_,hty⟩
       ·rw[e_muN,e_w];exact hown
       ·rw[e_w]
        have:=dA.mono (cu.mono hfree u) _ _ hL
        rwa [e_w]at this
      ·rename_i e
       split at ho
       ·cases ho
       ·rename_i e2
        have h0:=hr.ok.obj i o ho
        have hm:=hmemf i o e2 (fun q=>e q.symm) ho
        have hk:=fun j hj=>hno' j (List.mem_append_right _ (yf _ _ hm j hj))
        have hmu:=e_mu i (fun q=>e q.symm)
        cases o with
        |box e cs=>
         obtain⟨h1,vs,h2,h3,h4⟩:=h0
         refine⟨by rw[hmu];exact h1,vs,by rw[hmu,e_w];exact h2,aj.keeps _ _ (keeps _ hk) h3,h4⟩
        |arr t ver xs=>
         obtain⟨h0,e,zs,h1,h2,h3⟩:=h0
         refine⟨h0,e,zs,by rw[hmu,e_w];exact h1, ?_,h3⟩
         have:=dA.mono (cu.mono hfree t) _ _ h2
         exact this
        |lp f fr ps asg bd ky n p=>
         obtain⟨h0,h1,L,h2,h3,h4⟩:=h0
         refine⟨h0,by rw[hmu];exact h1,L,by rw[hmu,e_w];exact h2,aj.keeps _ _ (keeps _ hk) h3,h4⟩
        |dead=>trivial
        |mp kk vk es=>
         have hmp:=h0
         simp only[Cx.ORel,hmu,e_w]at hmp ⊢
         exact hmp
     ·rw[e_hp,hget2]at h1 h2
      split at h1<;>split at h2
      ·rename_i e1 e2;exact e1.symm.trans e2
      ·rename_i e1 e2
       split at h2
       ·cases h2
       ·rename_i e3
        subst e1
        cases h1
        rw[e_muN]at h3
        rw[e_mu j (fun q=>e2 q.symm)]at h4
        exact absurd (hr.ok.inj id j _ q b hg h2 h3 h4).symm e3
      ·rename_i e1 e2
       split at h1
       ·cases h1
       ·rename_i e3
        subst e2
        cases h2
        rw[e_muN]at h4
        rw[e_mu i (fun q=>e1 q.symm)]at h3
        exact absurd (hr.ok.inj i id o _ b h1 hg h3 h4) e3
      ·rename_i e1 e2
       split at h1
       ·cases h1
       ·split at h2
        ·cases h2
        ·rw[e_mu i (fun q=>e1 q.symm)]at h3
         rw[e_mu j (fun q=>e2 q.symm)]at h4
         exact hr.ok.inj i j o q b h1 h2 h3 h4
    have hfr0:aj c (fr.set s .undef) a.tmps.toList:=aj.setL _ _ _ hr.fr fun _=>by simp[aF]
    have kl:=keeps _ hno'
    have hfr1:=aj.keeps _ _ kl.left.left hfr0
    have gB:=aj.setL (z:=.slc N ver none) s _ _ hfr1 fun hs=>by
     have hv:=hslot hs
     simp only[aF]at hv ⊢
     refine⟨hv.1,.inl ⟨_,by rw[e_hp,hget2,if_pos rfl]⟩,fun t' u' xs' hg'=> ?_⟩
     rw[e_hp,hget2,if_pos rfl]at hg'
     cases hg'
     have:=hv.2.2 _ _ _ hg
     refine⟨this.1,fun e=> ?_⟩
     have h2:=this.2 e
     simp only[fO]at h2 ⊢
     rw[e_muN];exact h2
    rw[List.set_set]at gB
    exact⟨c2,⟨by rw[e_hp],e_nxt,hok,gB,wB.keeps _ _ kl.left.right hr.stk,by rw[e_mks];exact hr.df,by rw[e_w];exact hr.rd⟩,
     ⟨fun _ h=>by rw[e_mks];exact h,fun b L h=>⟨L,by rw[e_w];exact h⟩,by rw[e_w];exact Nat.le_refl _,e_bar,fun b hb=>⟨hout b hb,by rw[e_w]⟩⟩,e_w⟩
   ·cases h
 ·cases ho:pg s t st with
  |none=>rw[ho]at h;cases h
  |some st1=>
   rw[ho]at h
   cases h
   obtain⟨c1,hr1,hm1,hw1⟩:=EC hr ho
   obtain⟨c2,hr2,hm2,hw2⟩:=hr1.sorted
   exact⟨c2,hr2,hm1.trans hm2,hw2.trans hw1⟩
theorem J4 {s:Nat} {t:Ty} {l:List (Nat×Ty)} {st st':St} (h:gZ ((s,t)::l) st=some st'):(∃t' st1,tV s t' st=some st1/\gZ l st1=some st')\/(∃t' st1,CE (s/100) (s %100) t' st=some st1/\gZ l st1=some st')\/(∃t' st1,BR s t' st=some st1/\gZ l st1=some st')\/ ∃st1,pg s t st=some st1/\gZ l st1=some st':=by
 have own:(match pg s t st with|some st=>gZ l st|none=>none)=some st'-> ∃st1,pg s t st=some st1/\gZ l st1=some st':=fun h=>by
  cases ho:pg s t st with
  |none=>rw[ho]at h;cases h
  |some st1=>rw[ho]at h;exact⟨st1,rfl,h⟩
 cases t with
 |pair x y=>
  cases x with
  |unit=>
   left
   simp only[gZ]at h
   cases ho:tV s y st with
   |none=>rw[ho]at h;cases h
   |some st1=>rw[ho]at h;exact⟨y,st1,ho,h⟩
  |list z=>
   cases z with
   |unit=>
    right;left
    simp only[gZ]at h
    cases ho:CE (s/100) (s %100) y st with
    |none=>rw[ho]at h;cases h
    |some st1=>rw[ho]at h;exact⟨y,st1,ho,h⟩
   |bool=>
    right;right;left
    simp only[gZ]at h
    cases ho:BR s y st with
    |none=>rw[ho]at h;cases h
    |some st1=>rw[ho]at h;exact⟨y,st1,ho,h⟩
   |_=>right;right;right;exact own h
  |_=>right;right;right;exact own h
 |_=>right;right;right;exact own h
theorem lT: ∀(l:List (Nat×Ty)) {c:Cx} {st:St},fH W0 b0 rd c st a ats-> ∀{st':St},gZ l st=some st'-> ∃c',fH W0 b0 rd c' st' a ats/\c.Mono c'/\c'.w=c.w
 |[],c,st,hr,st',h=>by cases h;exact⟨c,hr,Cx.Mono.refl c,rfl⟩
 |(s,t)::l,c,st,hr,st',h=>by
  rcases J4 h with ⟨t',st1,h1,h2⟩|⟨t',st1,h1,h2⟩|⟨t',st1,h1,h2⟩|⟨st1,h1,h2⟩
  ·obtain⟨c1,hr1,hm1,hw1⟩:=BM hr h1
   obtain⟨c2,hr2,hm2,hw2⟩:=lT l hr1 h2
   exact⟨c2,hr2,hm1.trans hm2,hw2.trans hw1⟩
  ·obtain⟨c1,hr1,hm1,hw1⟩:=SK hr h1
   obtain⟨c2,hr2,hm2,hw2⟩:=lT l hr1 h2
   exact⟨c2,hr2,hm1.trans hm2,hw2.trans hw1⟩
  ·obtain⟨c1,hr1,hm1,hw1⟩:=Tf hr h1
   obtain⟨c2,hr2,hm2,hw2⟩:=lT l hr1 h2
   exact⟨c2,hr2,hm1.trans hm2,hw2.trans hw1⟩
  ·obtain⟨c1,hr1,hm1,hw1⟩:=EC hr h1
   obtain⟨c2,hr2,hm2,hw2⟩:=lT l hr1 h2
   exact⟨c2,hr2,hm1.trans hm2,hw2.trans hw1⟩
theorem kU (hr:fH W0 b0 rd c st a ats) {slots:List Nat} {owns:List (Nat×Ty)} {st':St} (h:Bd slots owns st=some st'): ∃c',fH W0 b0 rd c' st' a ats/\c.Mono c'/\c'.w=c.w:=by
 have hr0:fH W0 b0 rd c {st with fr:=zo slots 0 st.fr} a ats:=⟨hr.hp,hr.nxt,hr.ok,um 0 _ _ hr.fr,hr.stk,hr.df,hr.rd⟩
 have go: ∀{c0:Cx} {st0:St},fH W0 b0 rd c0 st0 a ats->(match gZ owns st0 with
   |some st=>match gc (1000000*st.stk.length) .undef st with
    |some st=>some (Nq st)
    |none=>none
   |none=>none)=some st'-> ∃c',fH W0 b0 rd c' st' a ats/\c0.Mono c'/\c'.w=c0.w:=fun {c0 st0} hr0 h=>by
  split at h
  ·rename_i st1 h1
   obtain⟨c1,hr1,hm1,hw1⟩:=lT owns hr0 h1
   split at h
   ·rename_i st2 h2
    cases h
    obtain⟨c2,hr2,_,hm2,hw2,_,_⟩:=hr1.gc (v:=.undef) (u:=undef) (by simp[aF]) h2
    obtain⟨c3,hr3,hm3,hw3⟩:=hr2.anew
    exact⟨c3,hr3,(hm1.trans hm2).trans hm3,hw3.trans (hw2.trans hw1)⟩
   ·cases h
  ·cases h
 unfold Bd at h
 split at h
 ·rename_i st1 h1
  split at h1
  ·cases h1;exact go hr0 h
  ·obtain⟨c1,hr1,_,hm1,hw1,_,_⟩:=hr0.gc (v:=.undef) (u:=undef) (by simp[aF]) h1
   obtain⟨c2,hr2,hm2,hw2⟩:=go hr1 h
   exact⟨c2,hr2,hm1.trans hm2,hw2.trans hw1⟩
 ·cases h
theorem y9: ∀(l:List (Nat×Ty)) {c:Cx} {st:St},fH W0 b0 rd c st a ats-> ∀{st':St},yD l st=some st'-> ∃c',fH W0 b0 rd c' st' a ats/\c.Mono c'/\c'.w=c.w
 |[],c,st,hr,st',h=>by cases h;exact⟨c,hr,Cx.Mono.refl c,rfl⟩
 |(s,t)::l,c,st,hr,st',h=>by
  simp only[yD]at h
  split at h
  ·rename_i st1 h1
   obtain⟨c1,hr1,hm1,hw1⟩:=BM hr h1
   obtain⟨c2,hr2,hm2,hw2⟩:=y9 l hr1 h
   exact⟨c2,hr2,hm1.trans hm2,hw2.trans hw1⟩
  ·cases h
theorem MW (hr:fH W0 b0 rd c st a ats) {k:dB} {st':St} (h:ahs k st=some st'): ∃c',fH W0 b0 rd c' st' a ats/\c.Mono c'/\c'.w=c.w:=by
 simp only[ahs]at h
 split at h
 ·rename_i st1 h1
  have hr0:fH W0 b0 rd c {st with fr:=zo k.rets 0 st.fr} a ats:=⟨hr.hp,hr.nxt,hr.ok,um 0 _ _ hr.fr,hr.stk,hr.df,hr.rd⟩
  obtain⟨c1,hr1,hm1,hw1⟩:=y9 k.give hr0 h1
  split at h
  ·rename_i st2 h2
   cases h
   obtain⟨c2,hr2,_,hm2,hw2,_,_⟩:=hr1.gc (v:=.undef) (u:=undef) (by simp[aF]) h2
   obtain⟨c3,hr3,hm3,hw3⟩:=hr2.anew
   exact⟨c3,hr3,(hm1.trans hm2).trans hm3,hw3.trans (hw2.trans hw1)⟩
  ·cases h
 ·cases h
end
end Go.Proofs.YtihafdllichkeaaGreatDoor
namespace Go.Proofs.YtihafdllichkeaaGreatDoor
open Go.RowKit
set_option linter.unusedVariables false
set_option linter.unusedSimpArgs false
def jM {R:Type} (P:Program) (call:dI R):Prop:=
 ∀(W0:World) (b0:Nat) (rd:Option Nat) (fv:aA) (args:List aA) (dst:Option Nat) (st:St) (K:aA->St->Option R) (r:R),call fv args dst st K=some r->
  ∀(c:Cx) (a:Act) (ats:List (Array Value)) (fv':Value) (args':Array Value),fH W0 b0 rd c st a ats->aF c fv fv'->aj c args args'.toList->
   ∃z v,K z st=some r/\aF c z v/\ ∀w',y7 c w'->(∃g args'',(do let d<-Deferred.ofValue fv' args';invoke d.target d.args:Sem Next).run P w'=.ok (.enter g args'') w'/\
    Calls P g args'' w' (fun e w''=>e=.returned v/\y7 c w''))\/(do let d<-Deferred.ofValue fv' args';invoke d.target d.args:Sem Next).run P w'=.ok (.value v) w'
section
variable {P:Program} {T:TT} {W0:World} {b0 n:Nat} {rd:Option Nat} {c:Cx} {R:Type} {r:R} {st:St} {a:Act} {ats:List (Array Value)}
theorem fH.ext (h:fH W0 b0 rd c st a ats) {w:World} (hw:y7 c w):fH W0 b0 rd (c.at_ w) st a ats:=by
 have hle:=Cx.Le.ext hw
 exact⟨h.hp,h.nxt,h.ok.ext hw,aj.le hle _ _ h.fr,wB.le hle _ _ h.stk,let⟨ds,h1,h2,h3⟩:=h.df;⟨ds,h1,h2,h3⟩,fun l hl=>let⟨L,hL⟩:=h.rd l hl;hle.lp l L hL⟩
theorem SX (hT:TOk P T) {cl:Bool} {call:dI R} (hcall:jM P call) {o:Oper} (hq:iw o.op=true) {K:aA->St->Option R} (h:bK T cl call o st K=some r) (hr:fH W0 b0 rd c st a ats):
  ∃z v,K z st=some r/\aF c z v/\ ∀w',y7 c w'->o.quietAtIn (FW rd) n P a (y7 c) w' v:=by
 by_cases hq2:dZ o.op=true
 ·obtain⟨z,u,h1,h2,h3⟩:=ul hT hr.ok hq2 hr.hp hr.fr h
  refine⟨z,u,h1,h2,fun w' hw'=> ?_⟩
  unfold Oper.quietAtIn
  rw[h3 w' hw']
  exact⟨rfl,rfl⟩
 ·obtain⟨dst,op,ty,pos,after,guard⟩:=o
  cases op<;>simp only[iw,Bool.false_eq_true]at hq<;>(try (exact absurd rfl hq2))
  case call cc=>
   obtain⟨callee,args,argTypes⟩:=cc
   cases callee with
   |builtin b=>cases b<;>simp only[Bool.false_eq_true]at hq<;>exact absurd rfl hq2
   |invoke x m=>simp only[Bool.false_eq_true]at hq
   |value f=>
    simp only[bK]at h
    obtain⟨z,v,h1,h2,h3⟩:=hcall W0 b0 rd _ _ dst st K r h c a ats (a.eval f) (args.map a.eval) hr (aY hr.fr f) (by
     have:=aj.map_eval (c:=c) hr.fr args.toList
     simpa using this)
    refine⟨z,v,h1,h2,fun w' hw'=> ?_⟩
    unfold Oper.quietAtIn
    rcases h3 w' hw' with ⟨g,args'',h4,h5⟩|h4
    ·have h6:(execOp a.eval ⟨dst,.call {callee:=.value f,args:=args,argTypes:=argTypes},ty,pos,after,guard⟩).run P w'=.ok (.enter g args'') w':=h4
     rw[h6]
     exact⟨rfl,oz rd,(callsIn_wide (n:=n-1)).2 h5⟩
    ·have h6:(execOp a.eval ⟨dst,.call {callee:=.value f,args:=args,argTypes:=argTypes},ty,pos,after,guard⟩).run P w'=.ok (.value v) w':=h4
     rw[h6]
     exact⟨rfl,rfl⟩
theorem Ef (hT:TOk P T) {cl:Bool} {call:dI R} (hcall:jM P call) (ops:Array Oper) {K:St->Option R}: ∀(l:List Oper) (st:St) (a:Act),(∀o∈l,iw o.op=true)->dW T cl call ops K l st=some r->fH W0 b0 rd c st a ats->
  wpQuietIn (FW rd) n P ops (y7 c) (fun a'=> ∃st',K st'=some r/\fH W0 b0 rd c st' a' ats) l a
 |[],st,a,hq,h,hr=>by
  simp only[dW]at h
  exact⟨st,h,hr⟩
 |o::l,st,a,hq,h,hr=>by
  simp only[dW]at h
  have hq': ∀o∈l,iw o.op=true:=fun o' ho'=>hq o' (List.mem_cons_of_mem _ ho')
  have step: ∀(st:St) (a:Act),fH W0 b0 rd c st a ats->bK T cl call o st (fun v st=>dW T cl call ops K l (st.put o.dst v))=some r->
    o.quietIn (FW rd) n P a (y7 c) (wpQuietIn (FW rd) n P ops (y7 c) (fun a'=> ∃st',K st'=some r/\fH W0 b0 rd c st' a' ats) l):=fun st a hr h=>by
   obtain⟨z,v,h1,h2,h3⟩:=SX (n:=n) hT hcall (hq o (by simp)) h hr
   exact⟨v,h3,Ef hT hcall ops l _ _ hq' h1 (hr.put h2)⟩
  have skip: ∀(st:St),fH W0 b0 rd c st a ats->dW T cl call ops K l (st.put o.dst (.tup []))=some r->wpQuietIn (FW rd) n P ops (y7 c) (fun a'=> ∃st',K st'=some r/\fH W0 b0 rd c st' a' ats) l (a.put o.dst undef):=fun st hr h=>
   Ef hT hcall ops l (st.put o.dst (.tup [])) (a.put o.dst undef) hq' h (hr.put (by simp only[aF];exact⟨#[],rfl,by simp[aj]⟩))
  simp only[wpQuietIn]
  refine⟨fun _ _ _ _=>trivial, ?_⟩
  cases hg:o.guard with
  |none=>
   rw[hg]at h
   rw[if_pos (by simp[Region.wanted,hg])]
   exact step st a hr h
  |some jw=>
   obtain⟨j,want⟩:=jw
   rw[hg]at h
   simp only at h
   split at h
   ·cases h
   ·rename_i d hd
    have hy:=zB ops j d hd a.tmps
    have hsl:=hr.fr.getD d
    split at h
    ·rename_i b hb
     rw[hb]at hsl
     simp only[aF]at hsl
     have hv:=hsl.bool_inv
     have hdl:d<a.tmps.size:=by
      rcases Nat.lt_or_ge d a.tmps.size with h1|h1
      ·exact h1
      ·rw[Array.getD,dif_neg (by omega)]at hv
       simp[undef]at hv
     have hv2:a.tmps[d]? =some (.bool b):=by
      rw[Array.getD,dif_pos hdl]at hv
      rw[Array.getElem?_eq_getElem hdl]
      simpa using hv
     rw[hv2]at hy
     simp only at hy
     have hself:a.put (some d) (.bool b)=a:=by
      simp only[Act.put]
      obtain⟨hh1,hh2⟩:=Array.getElem?_eq_some_iff.1 hv2
      have:a.tmps.setIfInBounds d (.bool b)=a.tmps:=by
       apply Array.ext
       ·rw[Array.size_setIfInBounds]
       ·intro i h1 h2
        rw[Array.getElem_setIfInBounds (by rwa [Array.size_setIfInBounds]at h1)]
        split
        ·rename_i hi
         subst hi
         exact hh2.symm
        ·rfl
      rw[this]
     have hr2:fH W0 b0 rd c (st.put (some d) (.val .bool b)) a ats:=by
      have:=hr.put (dst:=some d) (z:=.val .bool b) (v:=.bool b) (by simp only[aF];exact VD.bool_mk)
      rwa [hself]at this
     cases b<;>cases want<;>(try simp only[cond_true,cond_false]at h)
     ·rw[if_pos (by simp[Region.wanted,hg,hy])]
      exact step _ a hr2 h
     ·rw[if_neg (by simp[Region.wanted,hg,hy])]
      exact skip _ hr2 h
     ·rw[if_neg (by simp[Region.wanted,hg,hy])]
      exact skip _ hr2 h
     ·rw[if_pos (by simp[Region.wanted,hg,hy])]
      exact step _ a hr2 h
    ·rename_i hb
     rw[hb]at hsl
     simp only[aF]at hsl
     obtain⟨vs,hv,_⟩:=hsl
     have hy2:yielded ops a.tmps j=none:=by
      rw[hy]
      cases he:a.tmps[d]? with
      |none=>rfl
      |some x=>
       obtain⟨hh1,hh2⟩:=Array.getElem?_eq_some_iff.1 he
       rw[Array.getD,dif_pos hh1]at hv
       simp at hv
       rw[<-hh2,hv]
     rw[if_neg (by simp[Region.wanted,hg,hy2])]
     exact skip st hr h
    ·cases h
section
variable {ops:Array Oper} {md:Region.Mode} {C:World->Prop} {F:Fence}
theorem IJ {o:Oper} (hd:lM o.op=false) {a:Act} {K:Act->Prop} {K':Act->World->Prop} {Q':Exit->Act->World->Prop} {w:World} (hw:C w) (h: ∀a w',C w'->K a->K' a w')
  (ha:o.askedIn F P a C) (hh:o.quietIn F n P a C K):o.wpIn F n P a w K' Q':=by
 obtain⟨v,h1,h2⟩:=hh
 have h3:=h1 w hw
 unfold Oper.quietAtIn at h3
 unfold Oper.wpIn
 refine⟨ha w hw, ?_⟩
 rw[pV hd]
 generalize (execOp a.eval o).run P w=r at*
 cases r with
 |ok x w'=>
  cases x<;>simp only[Oper.quietUponIn]at h3<;>simp only[Oper.uponIn]
  case value u=>
   obtain⟨e1,e2⟩:=h3
   rw[e1,e2]
   exact h _ _ hw h2
  case skip=>
   obtain⟨e1,e2⟩:=h3
   rw[e1,<-e2]
   exact h _ _ hw h2
  case enter f args=>
   obtain⟨e1,hd,hc⟩:=h3
   rw[e1]
   exact⟨hd,hc.mono fun e w'' ⟨he,hw''⟩=>by subst he;exact h _ _ hw'' h2⟩
 |halt x w'=>simp only[Oper.quietUponIn]at h3
theorem Dl {i:Nat} (hd: ∀(i:Nat) (o:Oper),ops[i]? =some o->lM o.op=false) {a:Act} {K:Act->Prop} {K':Act->World->Prop} {Q':Exit->Act->World->Prop} {w:World} (hC:C w) (h: ∀a w',C w'->K a->K' a w')
  (hh:qOpIn F n P ops C i K a):wpOpIn F n P ops Q' i K' a w:=by
 unfold qOpIn at hh
 unfold wpOpIn
 split
 ·rename_i ho;simp only[ho]at hh;exact h _ _ hC hh
 ·rename_i o ho
  simp only[ho]at hh
  obtain⟨ha,hh⟩:=hh
  split
  ·rename_i hw;simp only[hw,if_true]at hh;exact IJ (hd i o ho) hC h ha hh
  ·rename_i hw;simp only[hw]at hh;exact⟨ha w hC,h _ _ hC hh⟩
theorem rG {Q:Act->Prop} {Q':Exit->Act->World->Prop} (hd: ∀(i:Nat) (o:Oper),ops[i]? =some o->lM o.op=false) (hQ: ∀a w,C w->Q a->Q' .normal a w): ∀(fuel:Nat) (listed:Array Bool) (a:Act) (w:World),C w->
  wpAnyQIn F n P md ops C Q fuel listed a->wpAnyIn F n P md ops Q' fuel listed a w
 |0,_,_,_,hw,h=>⟨h.1,hQ _ _ hw h.2⟩
 |fuel+1,_,_,_,hw,h=>⟨fun h0=>hQ _ _ hw (h.1 h0),fun i hi=>Dl hd hw (fun a' w' hw'=>rG hd hQ fuel _ a' w' hw') (h.2 i hi)⟩
theorem Aw {id:Nat} {Q:Exit->Act->World->Prop} {a:Act} {w:World} (hd: ∀(i:Nat) (o:Oper),ops[i]? =some o->lM o.op=false) (hm:P.follows .mixedOrders=true) (hB:Region.lexB .any ops=true) (hC:C {w with drawn:=w.drawn+1})
  (h:wpQuietIn F n P ops C (fun a'=> ∀w',C w'->Q .normal a' w') ops.toList a):(Code.region id ops true).wpIn F n P Q a w:=by
 simp only[Region.lexB,Bool.and_eq_true]at hB
 refine wpIn_region_any hm (rG (Q:=fun a'=> ∀w',C w'->Q .normal a' w') hd (fun _ w' hw' h=>h w' hw') _ _ _ _ hC ?_)
 have:=wpAnyQIn_lex (F:=F) (n:=n) (C:=C) (md:=.any) hB.1 ops.toList 0 (Array.replicate ops.size false) a (by simp) (by simpa using hB.2) h
 simpa using this
end
theorem ql {F:Fence} {ops:Array Oper} {C:World->Prop} {Q Q':Act->Prop} (h: ∀a,Q a->Q' a): ∀(l:List Oper) (a:Act),wpQuietIn F n P ops C Q l a->wpQuietIn F n P ops C Q' l a
 |[],a,hh=>h a hh
 |o::l,a,hh=>by
  simp only[wpQuietIn]at hh ⊢
  refine⟨hh.1, ?_⟩
  have h2:=hh.2
  split
  ·rename_i hw
   rw[if_pos hw]at h2
   exact Oper.quietIn_mono (ql h l) h2
  ·rename_i hw
   rw[if_neg hw]at h2
   exact ql h l _ h2
theorem J9 {op:Op} (h:iw op=true):lM op=false:=by cases op<;>first|rfl|(simp[iw]at h)
theorem Fg (hT:TOk P T) (hm:P.follows .mixedOrders=true) {cl:Bool} {call:dI R} (hcall:jM P call) {id:Nat} {ops:Array Oper} (hok:AA ops=true) {K:St->Option R} {Q:Exit->Act->World->Prop}
  (h:dW T cl call ops K ops.toList st=some r) (hr:fH W0 b0 rd c st a ats) (hQ: ∀c' st' a',K st'=some r->fH W0 b0 rd c' st' a' ats->c.Mono c'->Q .normal a' c'.w):
  (Code.region id ops true).wpIn (FW rd) n P Q a c.w:=by
 simp only[AA,Bool.and_eq_true]at hok
 have hq: ∀o∈ops.toList,iw o.op=true:=List.all_eq_true.1 hok.1
 refine Aw (C:=y7 c) (fun i o ho=>J9 (hq o (by have:=Array.mem_of_getElem? ho;simpa using this))) hm hok.2 ⟨rfl,rfl,rfl,Nat.le_refl _,fun _ _=>rfl⟩ ?_
 refine ql (fun a' ha' w' hw'=> ?_) _ _ (Ef (n:=n) hT hcall ops ops.toList st a hq h hr)
 obtain⟨st',h1,h2⟩:=ha'
 exact hQ (c.at_ w') st' a' h1 (h2.ext hw') (Cx.Le.ext hw').mono
end
end Go.Proofs.YtihafdllichkeaaGreatDoor
namespace Go.Proofs.YtihafdllichkeaaGreatDoor
open Go.RowKit
set_option linter.unusedVariables false
set_option linter.unusedSimpArgs false
section
variable {P:Program} {T:TT} {W0:World} {b0 n:Nat} {rd:Option Nat} {c:Cx} {R:Type} {r:R} {st:St} {a:Act} {ats:List (Array Value)} {t:TypeId}
theorem ajL (hT:TOk P T) (hok:c.Ok W0) {cl:Bool} {call:dI R} {o:Oper} {st:St} {a:Act} {K:aA->St->Option R} (hq:Ad o.op=true) (hhp:c.hp=st.hp) (hfr:aj c st.fr a.tmps.toList)
  (h:bK T cl call o st K=some r): ∃z u,K z st=some r/\aF c z u/\ ∀w',(execOp a.eval o).run P w'=.ok (.value u) w':=by
 have hval: ∀{s:Sem Value} {u:Value} {w':World},s.run P w'=.ok u w'->(do pure (Next.value (<-s)):Sem Next).run P w'=.ok (.value u) w':=fun hs=>by
  simp[Sem.run_bind,hs]
 obtain⟨dst,op,ty,pos,after,guard⟩:=o
 simp only at hq
 cases op<;>simp only[Ad,Bool.false_eq_true]at hq
 case move x=>exact⟨_,_,h,aY hfr x,fun w'=>rfl⟩
 case assign x=>exact⟨_,_,h,aY hfr x,fun w'=>rfl⟩
 case pick x y z=>
  simp only[bK]at h
  have hc:=aY hfr x
  split at h
  ·rename_i b hb
   rw[hb]at hc
   simp only[aF]at hc
   have hc':=hc.bool_inv
   cases b
   ·exact⟨_,_,h,aY hfr z,fun w'=>by simp[execOp,hc',asBool]⟩
   ·exact⟨_,_,h,aY hfr y,fun w'=>by simp[execOp,hc',asBool]⟩
  ·cases h
 case nilCheck x=>
  simp only[bK]at h
  have hx:=aY hfr x
  split at h
  ·rename_i id off he
   rw[he]at hx
   split at h
   ·rename_i bt cs hcs
    have hx':=hx
    simp only[aF]at hx
    rw[<-hhp]at hcs
    have hv:=hx.2.2 _ _ hcs
    exact⟨_,_,h,hx',fun w'=>by simp[execOp,hv]⟩
   ·cases h
  ·rename_i y e he
   rw[he]at hx
   have hx':=hx
   simp only[aF]at hx
   obtain⟨b,o,zs,hv,_⟩:=hx
   exact⟨_,_,h,hx',fun w'=>by simp[execOp,hv]⟩
  ·rename_i id ver i off he
   rw[he]at hx
   split at h
   ·rename_i e u xs harr
    replace h:=aP h
    obtain⟨h0,h⟩:=h
    have h0:u=ver:=by simpa using h0
    subst h0
    have hx':=hx
    simp only[aF]at hx
    rw[<-hhp]at harr
    obtain⟨g,n,cp,_,hv⟩:=(hx.2.2 _ _ _ harr).2 rfl
    exact⟨_,_,h,hx',fun w'=>by simp[execOp,hv]⟩
   ·cases h
  ·cases h
 case binOp op t x y yt=>
  simp only[bK]at h
  rw[<-hhp]at h
  obtain⟨z,u,h1,h2,h3⟩:=afC (P:=P) (ox:=x) (oy:=y) (K:=fun v=>K v st) hT hok h (aY hfr x) (aY hfr y)
  exact⟨z,u,h1,h2,fun w'=>hval (h3 w')⟩
 case unOp op t x=>
  simp only[bK]at h
  obtain⟨z,u,h1,h2,h3⟩:=arM (P:=P) (K:=fun v=>K v st) h (aY hfr x)
  exact⟨z,u,h1,h2,fun w'=>hval (h3 w')⟩
 case slice t x lo hi mx=>
  simp only[bK]at h
  rw[<-hhp]at h
  obtain⟨z,u,h1,h2,h3⟩:=YE (P:=P) (K:=fun v=>K v st) hT hok h (aY hfr x) (jh.map hfr lo) (jh.map hfr hi) (jh.map hfr mx)
  exact⟨z,u,h1,h2,fun w'=>hval (h3 w')⟩
 case fieldAddr t x f=>
  simp only[bK]at h
  rw[<-hhp]at h
  obtain⟨z,u,h1,h2,h3⟩:=EK (P:=P) (K:=fun v=>K v st) hT h (aY hfr x)
  exact⟨z,u,h1,h2,fun w'=>hval (h3 w')⟩
 case field t x f=>
  simp only[bK]at h
  obtain⟨z,u,h1,h2,h3⟩:=Zw (P:=P) (K:=fun v=>K v st) hT h (aY hfr x)
  exact⟨z,u,h1,h2,fun w'=>hval (h3 w')⟩
 case indexAddr t x i=>
  simp only[bK]at h
  rw[<-hhp]at h
  obtain⟨z,u,h1,h2,h3⟩:=Fe (P:=P) (K:=fun v=>K v st) hT hok h (aY hfr x) (aY hfr i)
  exact⟨z,u,h1,h2,fun w'=>hval (h3 w')⟩
 case index t x i=>
  simp only[bK]at h
  split at h
  ·rename_i s n hs hn
   replace h:=dG h
   obtain⟨h1,h⟩:=h
   have hx:=aY hfr x
   rw[hs]at hx
   obtain⟨h2,h3⟩:=ZN (P:=P) hT hx (aY hfr i) hn h1
   exact⟨_,_,h,h2,fun w'=>hval (h3 w')⟩
  ·cases h
 case extract x n=>
  simp only[bK]at h
  have hx:=aY hfr x
  split at h
  ·rename_i l hl
   rw[hl]at hx
   split at h
   ·rename_i v hv
    simp only[aF]at hx
    obtain⟨vs,he,hvs⟩:=hx
    obtain⟨hn,hv⟩:=List.getElem?_eq_some_iff.1 hv
    have hlen:=aj.length _ _ hvs
    simp at hlen
    have h1:=aj.get _ _ hvs n hn (by simp;omega)
    rw[hv]at h1
    simp only[Array.getElem_toList]at h1
    refine⟨_,_,h,h1,fun w'=>hval ?_⟩
    rw[he]
    have:vs[n]? =some vs[n]:=Array.getElem?_eq_getElem (by omega)
    simp[Instr.extract,this]
   ·cases h
  ·cases h
 case call cc=>
  obtain⟨callee,args,argTypes⟩:=cc
  simp only at hq
  have hargs:=aj.map_eval (c:=c) hfr args.toList
  split at hq
  all_goals try (cases hq;done)
  ·
   simp only[bK,iH]at h
   split at h<;>try (cases h;done)
   ·rename_i x hb hx
    split at h<;>try (cases h;done)
    rename_i t ht
    rw[<-hhp]at h
    obtain⟨x0,hx0⟩: ∃x0,args= #[x0]:=by
     obtain⟨l⟩:=args
     match l,hx with
     |[x0],_=>exact⟨x0,rfl⟩
    subst hx0
    obtain⟨t0⟩:=argTypes
    simp only at ht
    subst ht
    simp only[List.map_cons,List.map_nil,List.cons.injEq,and_true]at hx
    subst hx
    obtain⟨z,u,h1,h2,h3⟩:=q_len (P:=P) (K:=fun v=>K v st) hT hok h (aY hfr x0) (ty:=ty)
    exact⟨z,u,h1,h2,fun w'=>by simp[execOp,resolve,invoke,builtin,Sem.run_bind,h3 w']⟩
   all_goals (rename_i hb _;cases hb)
  ·
   simp only[bK,iH]at h
   split at h<;>try (cases h;done)
   all_goals try (rename_i hb _;cases hb;done)
   rename_i k n l hb hx
   split at h<;>try (cases h;done)
   rename_i ns hns
   rw[hx]at hargs
   obtain⟨al⟩:=args
   cases al with
   |nil=>simp[aj]at hargs
   |cons x0 al=>
    simp only[List.map_cons,aj]at hargs
    have h0:=hargs.1
    simp only[aF]at h0
    have h1:=h0.int_inv
    have h2:=nO _ _ _ hns hargs.2
    exact⟨_,_,h,by simp only[aF];exact VD.int_mk,fun w'=>by simp[execOp,resolve,invoke,builtin,Sem.run_bind,Builtin.min_,h1,h2,Ib]⟩
  ·
   simp only[bK,iH]at h
   split at h<;>try (cases h;done)
   all_goals try (rename_i hb _;cases hb;done)
   rename_i k n l hb hx
   split at h<;>try (cases h;done)
   rename_i ns hns
   rw[hx]at hargs
   obtain⟨al⟩:=args
   cases al with
   |nil=>simp[aj]at hargs
   |cons x0 al=>
    simp only[List.map_cons,aj]at hargs
    have h0:=hargs.1
    simp only[aF]at h0
    have h1:=h0.int_inv
    have h2:=nO _ _ _ hns hargs.2
    exact⟨_,_,h,by simp only[aF];exact VD.int_mk,fun w'=>by simp[execOp,resolve,invoke,builtin,Sem.run_bind,Builtin.max_,h1,h2,Jl]⟩
def eQ {α:Type} (x:Sem α):Prop:= ∀P w v w',x.run P w=.ok v w'->Below w.heap.size w w'
theorem eQ.pure {α:Type} (v:α):eQ (pure v:Sem α):=fun P w v w' h=>by simp at h;rw[h.2];exact Below.refl _ _
theorem eQ.looks {α:Type} {x:Sem α} (h:x.Looks):eQ x:=fun P w v w' hr=>by rw[h.ok hr];exact Below.refl _ _
theorem eQ.bind {α β:Type} {x:Sem α} {f:α->Sem β} (hx:eQ x) (hf: ∀a,eQ (f a)):eQ (x>>=f):=fun P w v w' h=>by
 rw[Sem.run_bind]at h
 cases hr:x.run P w with
 |halt e w1=>rw[hr]at h;cases h
 |ok u w1=>
  rw[hr,Result.andThen_ok]at h
  have h1:=hx P w u w1 hr
  exact h1.trans ((hf u P w1 v w' h).mono h1.size)
theorem eQ.never {α:Type} {x:Sem α} (h: ∀P w v w',x.run P w≠ .ok v w'):eQ x:=fun P w v w' hr=>absurd hr (h P w v w')
theorem eQ.ite {α:Type} {p:Prop} [Decidable p] {x y:Sem α} (hx:eQ x) (hy:eQ y):eQ (if p then x else y):=by split<;>assumption
theorem eQ.new (o:Obj):eQ (newObj o):=fun P w v w' h=>by
 have e:(newObj o).run P w=.ok w.heap.size (w.alloc o):=rfl
 rw[e]at h
 cases h
 exact(Below.refl _ _).alloc (Nat.le_refl _) o
theorem o8 (t:TypeId):eQ (underlying t):=.looks (underlying_looks t)
theorem VP (t:TypeId):eQ (typeInfo t):=.looks (typeInfo_looks t)
theorem He (t:TypeId):eQ (sizeOf t):=.looks (sizeOf_looks t)
theorem kY {α:Type} (s:String):eQ (stuck s:Sem α):=.looks (stuck_looks s)
theorem zu {α:Type} (u:Unsupported):eQ (unsupported u:Sem α):=.looks (unsupported_looks u)
theorem Y4 (t:TypeId):eQ (isAgg t):=by
 unfold isAgg
 refine(o8 t).bind fun d=> ?_
 split<;>exact .pure _
theorem TG (t:TypeId):eQ (zeroValue t):=by
 unfold zeroValue
 refine(VP t).bind fun d=> ?_
 split
 ·exact .pure _
 ·exact zu _
theorem XW (v:Value):eQ (Instr.sureAddr v):=by
 unfold Instr.sureAddr
 split
 ·exact .pure _
 ·exact kY _
theorem abq (t:TypeId) (a:Addr):eQ (loadVar t a):=by
 unfold loadVar
 refine(Y4 t).bind fun d=> ?_
 split
 ·exact(He t).bind fun k=>(eQ.looks (loadCells_looks a k)).bind fun _=>.pure _
 ·exact .looks (load_looks _ _)
theorem abl (v:Value):eQ (asIntOf v):=by
 unfold asIntOf
 split
 ·exact .pure _
 ·exact zu _
 ·exact kY _
theorem agD (v:Value):eQ (asBool v):=by
 unfold asBool
 split
 ·exact .pure _
 ·exact kY _
theorem jY {α β:Type} {x:Sem α} {f:α->Sem β} (hf: ∀a P w v w',(f a).run P w≠ .ok v w'): ∀P w v w',(x>>=f).run P w≠ .ok v w':=fun P w v w' h=>by
 rw[Sem.run_bind]at h
 cases hr:x.run P w with
 |halt e w1=>rw[hr]at h;cases h
 |ok u w1=>rw[hr,Result.andThen_ok]at h;exact hf u P w1 v w' h
theorem nC {α:Type} (v:Value): ∀P w u w',(goPanic v:Sem α).run P w≠ .ok u w':=fun P w u w' h=>by cases h
theorem Ac {α:Type} (e:RuntimeError): ∀P w u w',(runtimePanic e:Sem α).run P w≠ .ok u w':=by
 unfold runtimePanic
 refine jY fun p=> ?_
 dsimp only
 split<;>first
  |exact nC _
  |exact jY fun _=>nC _
  |exact jY fun _=>jY fun _=>nC _
  |exact jY fun _=>jY fun _=>jY fun _=>nC _
theorem Ko {α:Type} (k:IntKind) (x y:Int) (code:BoundsCode):eQ (boundsPanic k x y code:Sem α):=by
 unfold boundsPanic
 dsimp only
 split<;>exact .never (jY fun _=>Ac _)
theorem UT (e:TypeId) (cs:Array Value):eQ (newRow e cs):=by
 unfold newRow
 exact(eQ.new _).bind fun _=>.pure _
theorem amQ (t:TypeId) (cs:Array Value) (off:Nat):eQ (part t cs off):=by
 unfold part
 refine(Y4 t).bind fun b=> ?_
 split
 ·exact(He t).bind fun _=>.pure _
 ·split
  ·exact .pure _
  ·exact kY _
theorem agE (t:TypeId) (v:Value):eQ (Instr.loadAt t v):=by
 unfold Instr.loadAt
 exact(XW v).bind fun a=>abq t a
theorem ab2 (t:Value) (i:Nat):eQ (Instr.extract t i):=by
 unfold Instr.extract
 split
 ·split
  ·exact .pure _
  ·exact kY _
 ·exact kY _
theorem aj9 (t:TypeId) (x i:Value):eQ (Instr.index t x i):=by
 unfold Instr.index
 refine(abl i).bind fun ki=> ?_
 refine(o8 t).bind fun d=> ?_
 repeat' first
  |exact Ko _ _ _ _
  |exact kY _
  |exact .pure _
  |exact(He _).bind fun _=>amQ _ _ _
  |split
  |dsimp only
theorem aoz (t:TypeId) (v:Value):eQ (Instr.box t v):=by
 unfold Instr.box newVar
 exact(UT _ _).bind fun _=>.pure _
theorem ai3 (t:TypeId):eQ (Instr.alloc t true (.tuple #[])):=by
 unfold Instr.alloc
 refine(TG t).bind fun z=> ?_
 dsimp only
 unfold newVar
 exact(UT _ _).bind fun _=>.pure _
theorem QO (r:Nat):(getObj r).Looks:=fun _=>trivial
theorem TE (r:Nat):eQ (getObj r):=.looks (QO r)
theorem ai4 (r:Nat):eQ (Go.shape r):=.looks (fun _=>trivial)
theorem afo (r:Nat):eQ (viewAt r):=by
 unfold viewAt
 repeat' first
  |exact .pure _
  |exact ai4 _
  |exact TE _
  |(refine eQ.bind ?_ fun _=> ?_)
  |split
  |dsimp only
theorem agR (t:TypeId):eQ (elemOf t):=by
 unfold elemOf
 refine(o8 t).bind fun d=> ?_
 split
 ·exact .pure _
 ·exact kY _
theorem arR (ts:Array TypeId) (ty:TypeId) (args:Array Value):eQ (Builtin.len_ ts ty args):=by
 unfold Builtin.len_
 repeat' first
  |exact .pure _
  |exact kY _
  |exact o8 _
  |exact TE _
  |(refine eQ.bind ?_ fun _=> ?_)
  |split
  |dsimp only
theorem Tv (ts:Array TypeId) (ty:TypeId) (args:Array Value):eQ (Builtin.unsafeSliceData_ ts ty args):=by
 obtain⟨l⟩:=args
 match l with
 |[]=>exact kY _
 |_::_::_=>exact kY _
 |[v]=>
  cases v with
  |slice a n c=>
   cases a with
   |none=>exact eQ.pure _
   |some a=>
    have e:Builtin.unsafeSliceData_ ts ty #[.slice (some a) n c]=(do
      if c≠0 then pure (.pointer (some a))
      else if(<-viewAt a.block).isSome then pure (.pointer (some a))
      else pure (.pointer (some ⟨<-newObj (.view a (<-elemOf ty)),0,none⟩))):=rfl
    rw[e]
    repeat' first
     |exact .pure _
     |exact afo _
     |exact agR _
     |exact eQ.new _
     |(refine eQ.bind ?_ fun _=> ?_)
     |split
     |dsimp only
  |_=>exact kY _
theorem U8 {o:Oper} (hk:FH o.op=true) (ρ:Operand->Value) (P:Program) (w:World) (v:Next) (w':World) (h:(execOp ρ o).run P w=.ok v w'):(∃u,v=.value u)/\Below w.heap.size w w':=by
 have hv: ∀{s:Sem Value},eQ s->(do pure (Next.value (<-s)):Sem Next).run P w=.ok v w'->(∃u,v=.value u)/\Below w.heap.size w w':=fun {s} hs h=>by
  rw[Sem.run_bind]at h
  cases hr:s.run P w with
  |halt e w1=>rw[hr]at h;cases h
  |ok u w1=>
   rw[hr,Result.andThen_ok,Sem.run_pure]at h
   cases h
   exact⟨⟨u,rfl⟩,hs P w u w' hr⟩
 obtain⟨dst,op,ty,pos,after,guard⟩:=o
 simp only at hk
 cases op<;>simp only[FH,Bool.false_eq_true]at hk
 case move x=>cases h;exact⟨⟨_,rfl⟩,Below.refl _ _⟩
 case assign x=>cases h;exact⟨⟨_,rfl⟩,Below.refl _ _⟩
 case pick x y z=>
  have e:execOp ρ ⟨dst,.pick x y z,ty,pos,after,guard⟩=(do pure (Next.value (<-(do pure (if<-asBool (ρ x)then ρ y else ρ z):Sem Value))):Sem Next):=by
   simp[execOp,bind_assoc]
  rw[e]at h
  exact hv ((agD _).bind fun _=>.pure _) h
 case load t x=>exact hv (agE t (ρ x)) h
 case index t x i=>exact hv (aj9 t (ρ x) (ρ i)) h
 case extract x i=>exact hv (ab2 (ρ x) i) h
 case box t x=>exact hv (aoz t (ρ x)) h
 case alloc t=>exact hv (ai3 t) h
 case call cc=>
  obtain⟨callee,args,ts⟩:=cc
  cases callee with
  |builtin b=>
   cases b<;>simp only[Bool.false_eq_true]at hk
   case len=>
    have e:execOp ρ ⟨dst,.call {callee:=.builtin .len,args:=args,argTypes:=ts},ty,pos,after,guard⟩=(do pure (Next.value (<-Builtin.len_ ts ty (args.map ρ))):Sem Next):=by
     simp[execOp,resolve,invoke,builtin]
    rw[e]at h
    exact hv (arR _ _ _) h
   case unsafeSliceData=>
    have e:execOp ρ ⟨dst,.call {callee:=.builtin .unsafeSliceData,args:=args,argTypes:=ts},ty,pos,after,guard⟩=(do pure (Next.value (<-Builtin.unsafeSliceData_ ts ty (args.map ρ))):Sem Next):=by
     simp[execOp,resolve,invoke,builtin]
    rw[e]at h
    exact hv (Tv _ _ _) h
  |_=>simp at hk
theorem ku {ops:Array Oper} (h:jC ops=true) (i:Nat) (o:Oper) (ho:ops[i]? =some o):lM o.op=false/\ ∀cs b,o.op≠ .select cs b:=by
 have:=List.all_eq_true.1 h o (by have:=Array.mem_of_getElem? ho;simpa using this)
 cases hop:o.op<;>simp_all [lM]
def kZ (P:Program) (ops:Array Oper) (C:World->Prop) (o:Oper) (v:Value) (a:Act):Prop:=
 (Region.wanted o (yielded ops a.tmps)=true/\ ∀w,C w->(execOp a.eval o).run P w=.ok (.value v) w)\/(Region.wanted o (yielded ops a.tmps)=false/\v=undef)
def PO (P:Program) (C:World->Prop) (o:Oper):Prop:=(∀w,C w)\/ ∀ρ w v w',C w->(execOp ρ o).run P w=.ok v w'->(∃u,v=.value u)/\C w'
variable {ops:Array Oper} {C:World->Prop} {Q:Exit->Act->World->Prop}
theorem kZ.of_same {o:Oper} {v:Value} {a a':Act} (hy:kZ P ops C o v a) (he:execOp a'.eval o=execOp a.eval o)
  (hw:Region.wanted o (yielded ops a'.tmps)=Region.wanted o (yielded ops a.tmps)):kZ P ops C o v a':=by
 rcases hy with ⟨h1,h2⟩|⟨h1,h2⟩
 ·exact .inl ⟨by rw[hw];exact h1,fun w hc=>by rw[he];exact h2 w hc⟩
 ·exact .inr ⟨by rw[hw];exact h1,h2⟩
theorem kZ.wpOpIn {i:Nat} {o:Oper} {v:Value} {a:Act} (hd:jC ops=true) (hi:ops[i]? =some o) (hy:kZ P ops C o v a) {K:Act->World->Prop} {w:World} (hw:C w) (h:K (a.put o.dst v) w):wpOpIn (FW rd) n P ops Q i K a w:=by
 unfold Go.wpOpIn
 simp only[hi]
 rcases hy with ⟨h1,h2⟩|⟨h1,rfl⟩
 ·rw[if_pos h1]
  refine⟨lW o w _, ?_⟩
  rw[pV (ku hd i o hi).1,h2 w hw]
  exact h
 ·rw[if_neg (by rw[h1];simp)]
  exact⟨lW o w _,h⟩
theorem Uk {j:Nat} {oi oj:Oper} {v:Value} (hd:jC ops=true) (hi: ∃i:Nat,ops[i]? =some oi) (hj:ops[j]? =some oj) (hap:oi.apart ops oj=true) (hkeep:PO P C oj) (hQ: ∀c a w,¬Q (.panic c) a w) {K:Act->World->Prop} {a:Act} {w:World} (hw:C w)
  (hy:kZ P ops C oi v a) (h:wpOpIn (FW rd) n P ops Q j K (a.put oi.dst v) w):wpOpIn (FW rd) n P ops Q j (fun a' w'=>C w'/\kZ P ops C oi v a'/\K (a'.put oi.dst v) w') a w:=by
 obtain⟨h1,h2,h3⟩:=Oper.apart_spec hap
 obtain⟨i,hi⟩:=hi
 have hsi:=(ku hd i oi hi).2
 obtain⟨hdj,hsj⟩:=ku hd j oj hj
 have keep: ∀(a:Act),kZ P ops C oi v a-> ∀u,kZ P ops C oi v (a.put oj.dst u):=fun a hy u=>hy.of_same (execOp_put oi hsi a oj.dst u h3) (wanted_put oi a oj.dst u h3)
 unfold wpOpIn at*
 simp only[hj]at*
 rw[wanted_put oj a oi.dst v h1]at h
 split
 ·rename_i hwt
  rw[if_pos hwt]at h
  unfold Oper.wpIn at*
  refine⟨lW oj w _, ?_⟩
  have h:=h.2
  rw[pV hdj,execOp_put oj hsj a oi.dst v h1]at h
  rw[pV hdj]
  have hk:(∀w,C w)\/ ∀x w',(execOp a.eval oj).run P w=.ok x w'->(∃u,x=.value u)/\C w':=by
   rcases hkeep with hk|hk
   ·exact .inl hk
   ·exact .inr fun x w' hx=>hk _ w x w' hw hx
  generalize (execOp a.eval oj).run P w=r at*
  cases r with
  |ok x w'=>
   have hall:(∀w,C w)\/((∃u,x=.value u)/\C w'):=by
    rcases hk with hk|hk
    ·exact .inl hk
    ·exact .inr (hk x w' rfl)
   cases x<;>simp only[Oper.uponIn]at h ⊢
   case value u=>
    have hc:C w':=by
     rcases hall with hk|hk
     ·exact hk w'
     ·exact hk.2
    exact⟨hc,keep a hy u,by rw[<-Act.put_comm a v u h2];exact h⟩
   case skip=>
    rcases hall with hk|hk
    ·exact⟨hk w',keep a hy _,by rw[<-Act.put_comm a v undef h2];exact h⟩
    ·obtain⟨⟨u,hu⟩,_⟩:=hk;cases hu
   case defer d=>
    rcases hall with hk|hk
    ·have keepD: ∀d,kZ P ops C oi v {a with defers:=d::a.defers}:=fun d=>hy.of_same rfl rfl
     refine⟨hk w',keep _ (keepD d) _, ?_⟩
     rw[<-Act.put_comm _ v undef h2,<-Act.put_defers]
     exact h
    ·obtain⟨⟨u,hu⟩,_⟩:=hk;cases hu
   case enter f args=>
    rcases hall with hk|hk
    ·refine⟨h.1,CallsIn.mono h.2 fun e w'' he=> ?_⟩
     cases e with
     |returned u=>exact⟨hk w'',keep a hy u,by rw[<-Act.put_comm a v u h2];exact he⟩
     |panicked c=>exact absurd he (hQ _ _ _)
     |outgrown=>exact he
    ·obtain⟨⟨u,hu⟩,_⟩:=hk;cases hu
   case row row args=>
    rcases hall with hk|hk
    ·exact⟨h.1,RowsIn.mono h.2 fun u w'' he=>⟨hk w'',keep a hy u,by rw[<-Act.put_comm a v u h2];exact he⟩⟩
    ·obtain⟨⟨u,hu⟩,_⟩:=hk;cases hu
   case round l f tmps assign body=>
    rcases hall with hk|hk
    ·refine⟨h.1,RoundIn.mono h.2 fun e w'' he=> ?_⟩
     cases e with
     |returned u=>exact⟨hk w'',keep a hy u,by rw[<-Act.put_comm a v u h2];exact he⟩
     |panicked c=>exact absurd he (hQ _ _ _)
     |outgrown=>exact he
    ·obtain⟨⟨u,hu⟩,_⟩:=hk;cases hu
  |halt x w'=>
   cases x<;>simp only[Oper.uponIn]at h ⊢
   case panic u=>exact absurd h (hQ _ _ _)
 ·rename_i hwt
  rw[if_neg hwt]at h
  exact⟨lW oj w _,hw,keep a hy _,by rw[<-Act.put_comm a v undef h2];exact h.2⟩
theorem D6 {l:List Nat} {i:Nat}:LU l i=true↔i∈l:=by
 unfold LU
 rw[List.any_eq_true]
 constructor
 ·rintro ⟨x,hx,hb⟩;rw[Nat.eq_of_beq_eq_true hb];exact hx
 ·intro h;exact⟨i,h,Nat.beq_refl i⟩
theorem wH {i:Nat} {oi:Oper} {v:Value} (hd:jC ops=true) (hi:ops[i]? =some oi) (hQ: ∀c a w,¬Q (.panic c) a w) (D:List Nat) (hD: ∀j∈D,j≠i->wR ops j D=true):
  ∀(fuel:Nat) (listed:Array Bool) (a:Act) (w:World),C w->(∀j∈D,listed.getD j true=false)->
   (∀j oj,ops[j]? =some oj->j∉D->listed.getD j true=false->oi.apart ops oj=true/\PO P C oj)->i∈D->
   i∈Region.ready .any ops listed->kZ P ops C oi v a->
   wpAnyIn (FW rd) n P .any ops Q fuel (listed.setIfInBounds i true) (a.put oi.dst v) w->wpAnyIn (FW rd) n P .any ops Q (fuel+1) listed a w:=by
 have hnot: ∀(listed:Array Bool) (j:Nat),(∀j∈D,listed.getD j true=false)->j∈Region.ready .any ops listed->j≠i->j∉D:=fun listed j hl hj hji hjD=>by
  have hw:=hD j hjD hji
  unfold wR at hw
  obtain⟨_,oj,hoj,hall⟩:=mem_ready.1 hj
  rw[hoj]at hw
  obtain⟨e,he,hb⟩:=Array.any_eq_true'.1 hw
  simp only[Bool.and_eq_true]at hb
  have h1:=hall e he hb.1
  have h2:=hl e.on (D6.1 hb.2)
  rcases Nat.lt_or_ge e.on listed.size with h'|h'
  ·simp[h']at h1 h2;rw[h2]at h1;cases h1
  ·simp[Array.getElem?_eq_none h']at h1
 intro fuel
 induction fuel with
 |zero=>
  intro listed a w hw hl _ hiD hr hy H
  refine⟨fun h=>(by rw[h]at hr;cases hr),fun j hj=> ?_⟩
  by_cases hji:j=i
  ·subst hji;exact hy.wpOpIn hd hi hw H
  ·have:=ready_mono hj hji
   rw[H.1]at this
   cases this
 |succ fuel ih=>
  intro listed a w hw hl hfree hiD hr hy H
  refine⟨fun h=>(by rw[h]at hr;cases hr),fun j hj=> ?_⟩
  by_cases hji:j=i
  ·subst hji;exact hy.wpOpIn hd hi hw H
  ·have h1:=H.2 j (ready_mono hj hji)
   have hjD:=hnot listed j hl hj hji
   obtain⟨hjun,oj,hoj,hall⟩:=mem_ready.1 hj
   obtain⟨hap,hkp⟩:=hfree j oj hoj hjD hjun
   have h2:=Uk hd ⟨i,hi⟩ hoj hap hkp hQ hw hy h1
   have hl': ∀k∈D,(listed.setIfInBounds j true).getD k true=false:=fun k hk=>by
    rw[getD_set_ne true (fun e=>hjD (by rw[e];exact hk))];exact hl k hk
   have hfree': ∀k ok,ops[k]? =some ok->k∉D->(listed.setIfInBounds j true).getD k true=false->oi.apart ops ok=true/\PO P C ok:=fun k ok hk hkD hun=>by
    refine hfree k ok hk hkD ?_
    by_cases hjk:j=k
    ·subst hjk;exact hjun
    ·rw[getD_set_ne true hjk]at hun;exact hun
   refine wpOpIn_mono (fun a' w' h3=>ih (listed.setIfInBounds j true) a' w' h3.1 hl' hfree' hiD (ready_mono hr (Ne.symm hji)) h3.2.1 ?_) h2
   rw[Array.setIfInBounds_comm _ _ hji]
   exact h3.2.2
theorem Cm {cl:Bool} {call:dI R} {K:St->Option R} (o:Oper) (l:List Oper) (st:St):dW T cl call ops K (o::l) st=dW T cl call ops (dW T cl call ops K l) [o] st:=by
 simp only[dW]
theorem Ul {cl:Bool} {call:dI R} {K:St->Option R} {o:Oper} (h:dW T cl call ops K [o] st=some r) (hr:fH W0 b0 rd c st a ats):
  (Region.wanted o (yielded ops a.tmps)=true/\ ∃st1,fH W0 b0 rd c st1 a ats/\bK T cl call o st1 (fun v st=>K (st.put o.dst v))=some r)\/
  (Region.wanted o (yielded ops a.tmps)=false/\ ∃st1,fH W0 b0 rd c st1 (a.put o.dst undef) ats/\K st1=some r):=by
 simp only[dW]at h
 have skip: ∀(st:St),fH W0 b0 rd c st a ats->fH W0 b0 rd c (st.put o.dst (.tup [])) (a.put o.dst undef) ats:=fun st hr=>hr.put (by simp only[aF];exact⟨#[],rfl,by simp[aj]⟩)
 cases hg:o.guard with
 |none=>
  rw[hg]at h
  exact .inl ⟨by simp[Region.wanted,hg],st,hr,h⟩
 |some jw=>
  obtain⟨j,want⟩:=jw
  rw[hg]at h
  simp only at h
  split at h
  ·cases h
  ·rename_i d hd
   have hy:=zB ops j d hd a.tmps
   have hsl:=hr.fr.getD d
   have hsz:=aj.length _ _ hr.fr
   rw[Array.length_toList]at hsz
   split at h
   ·rename_i b hb
    rw[hb]at hsl
    simp only[aF]at hsl
    have hv:=hsl.bool_inv
    have hdl:d<a.tmps.size:=by
     rcases Nat.lt_or_ge d a.tmps.size with h1|h1
     ·exact h1
     ·rw[Array.getD,dif_neg (by omega)]at hv
      simp[undef]at hv
    have hv2:a.tmps[d]? =some (.bool b):=by
     rw[Array.getD,dif_pos hdl]at hv
     rw[Array.getElem?_eq_getElem hdl]
     simpa using hv
    rw[hv2]at hy
    simp only at hy
    have hself:a.put (some d) (.bool b)=a:=by
     simp only[Act.put]
     obtain⟨hh1,hh2⟩:=Array.getElem?_eq_some_iff.1 hv2
     have:a.tmps.setIfInBounds d (.bool b)=a.tmps:=by
      apply Array.ext
      ·rw[Array.size_setIfInBounds]
      ·intro i h1 h2
       rw[Array.getElem_setIfInBounds (by rwa [Array.size_setIfInBounds]at h1)]
       split
       ·rename_i hi
        subst hi
        exact hh2.symm
       ·rfl
     rw[this]
    have hr2:fH W0 b0 rd c (st.put (some d) (.val .bool b)) a ats:=by
     have:=hr.put (dst:=some d) (z:=.val .bool b) (v:=.bool b) (by simp only[aF];exact VD.bool_mk)
     rwa [hself]at this
    cases b<;>cases want<;>(try simp only[cond_true,cond_false]at h)
    ·exact .inl ⟨by simp[Region.wanted,hg,hy],_,hr2,h⟩
    ·exact .inr ⟨by simp[Region.wanted,hg,hy],_,skip _ hr2,h⟩
    ·exact .inr ⟨by simp[Region.wanted,hg,hy],_,skip _ hr2,h⟩
    ·exact .inl ⟨by simp[Region.wanted,hg,hy],_,hr2,h⟩
   ·rename_i hb
    rw[hb]at hsl
    simp only[aF]at hsl
    obtain⟨vs,hv,_⟩:=hsl
    have hy2:yielded ops a.tmps j=none:=by
     rw[hy]
     cases he:a.tmps[d]? with
     |none=>rfl
     |some x=>
      obtain⟨hh1,hh2⟩:=Array.getElem?_eq_some_iff.1 he
      rw[Array.getD,dif_pos hh1]at hv
      simp at hv
      rw[<-hh2,hv]
    exact .inr ⟨by simp[Region.wanted,hg,hy2],_,skip st hr,h⟩
   ·cases h
theorem Ug {listed:Array Bool} {i:Nat} {pure:Bool} {oi:Oper} (hi:ops[i]? =some oi) (h:Hr ops listed i pure=true): ∃D:List Nat,i∈D/\(∀j∈D,listed.getD j true=false)/\(∀j∈D,j≠i->wR ops j D=true)/\
  ∀j oj,ops[j]? =some oj->j∉D->listed.getD j true=false->oi.apart ops oj=true/\(pure=true\/FH oj.op=true):=by
 unfold Hr at h
 rw[hi]at h
 simp only[Bool.and_eq_true]at h
 obtain⟨h1,h2,h3⟩:=h
 refine⟨_,D6.1 h1,fun j hj=> ?_,fun j hj hne=> ?_,fun j oj hoj hjD hl=> ?_⟩
 ·have:=List.all_eq_true.1 h2 j hj
  simp only[Bool.and_eq_true,Bool.not_eq_true']at this
  exact this.1
 ·have:=List.all_eq_true.1 h2 j hj
  simp only[Bool.and_eq_true,Bool.or_eq_true]at this
  rcases this.2 with h4|h4
  ·exact absurd (Nat.eq_of_beq_eq_true h4) hne
  ·exact h4
 ·have:=List.all_eq_true.1 h3 j (List.mem_range.2 (Array.getElem?_eq_some_iff.1 hoj).1)
  rw[hoj]at this
  simp only[Bool.or_eq_true,Bool.and_eq_true]at this
  rcases this with h4|h4|⟨h4,h5⟩
  ·rw[hl]at h4;cases h4
  ·exact absurd (D6.1 h4) hjD
  ·exact⟨h4,h5⟩
theorem Dt {f:Op->Bool} {i:Nat} (h:Wj ops f i=true): ∃o,ops[i]? =some o/\f o.op=true:=by
 unfold Wj at h
 split at h
 ·rename_i o ho;exact⟨o,ho,h⟩
 ·cases h
theorem VF {op:Op} (h:Ad op=true):dZ op=true:=by
 cases op<;>simp_all [Ad,dZ,iw]
theorem xY (hT:TOk P T) {cl:Bool} {call:dI R} (hcall:jA P W0 n call) (hd:jC ops=true) {K:St->Option R} {Q:Act->World->Prop}:
  ∀(fuel:Nat) (listed:Array Bool) (l:List Nat) (c:Cx) (st:St) (a:Act),nU ops fuel listed=some l->dW T cl call ops K (l.filterMap fun i=>ops[i]?) st=some r->fH W0 b0 rd c st a ats->
   (∀c' st' a',K st'=some r->fH W0 b0 rd c' st' a' ats->c.Mono c'->Q a' c'.w)->wpAnyIn (FW rd) n P .any ops (fun e a w=>e=.normal/\Q a w) fuel listed a c.w
 |0,listed,l,c,st,a,hp,h,hr,hQ=>by
  simp only[nU]at hp
  rw[cond_eq_ite]at hp
  split at hp
  ·rename_i he
   cases hp
   simp only[List.filterMap_nil,dW]at h
   exact⟨by simpa using he,rfl,hQ c st a h hr (Cx.Mono.refl c)⟩
  ·cases hp
 |fuel+1,listed,l,c,st,a,hp,h,hr,hQ=>by
  have hQ0: ∀c (a:Act) (w:World),¬(Exit.panic c=.normal/\Q a w):=fun c a w h=>by cases h.1
  have take: ∀(i:Nat) (pr:Bool) (l':List Nat),i∈Region.ready .any ops listed->(if pr then Wj ops Ad i=true else Wj ops dZ i=true)->Hr ops listed i pr=true->nU ops fuel (listed.setIfInBounds i true)=some l'->
    dW T cl call ops K ((i::l').filterMap fun i=>ops[i]?) st=some r->wpAnyIn (FW rd) n P .any ops (fun e a w=>e=.normal/\Q a w) (fuel+1) listed a c.w:=fun i pr l' hir hop htk hpl h=>by
   obtain⟨oi,hoi,hq,hpure⟩: ∃oi,ops[i]? =some oi/\dZ oi.op=true/\(pr=true->Ad oi.op=true):=by
    cases pr with
    |true=>obtain⟨oi,h1,h2⟩:=Dt (by simpa using hop);exact⟨oi,h1,VF h2,fun _=>h2⟩
    |false=>obtain⟨oi,h1,h2⟩:=Dt (by simpa using hop);exact⟨oi,h1,h2,fun h=>by cases h⟩
   obtain⟨D,d1,d2,d3,d4⟩:=Ug hoi htk
   simp only[List.filterMap_cons,hoi]at h
   rw[Cm]at h
   have hfree: ∀j oj,ops[j]? =some oj->j∉D->listed.getD j true=false->oi.apart ops oj=true/\PO P (fun w=>pr=true\/y7 c w) oj:=fun j oj hoj hjD hl=>by
    obtain⟨e1,e2⟩:=d4 j oj hoj hjD hl
    refine⟨e1, ?_⟩
    rcases e2 with e2|e2
    ·exact .inl fun w=>.inl e2
    ·refine .inr fun ρ w v w' hw hx=> ?_
     obtain⟨hu,hb⟩:=U8 e2 ρ P w v w' hx
     exact⟨hu,hw.imp (fun h=>h) fun hw=>hw.trans (hb.mono hw.size)⟩
   have hcw:pr=true\/y7 c c.w:=.inr (Below.refl _ _)
   rcases Ul h hr with ⟨hwt,st1,hr1,h1⟩|⟨hwt,st1,hr1,h1⟩
   ·have hy: ∃z u,dW T cl call ops K (l'.filterMap fun i=>ops[i]?) (st1.put oi.dst z)=some r/\aF c z u/\kZ P ops (fun w=>pr=true\/y7 c w) oi u a:=by
     cases pr with
     |true=>
      obtain⟨z,u,k1,k2,k3⟩:=ajL hT hr1.ok (hpure rfl) hr1.hp hr1.fr h1
      exact⟨z,u,k1,k2,.inl ⟨hwt,fun w _=>k3 w⟩⟩
     |false=>
      obtain⟨z,u,k1,k2,k3⟩:=ul hT hr1.ok hq hr1.hp hr1.fr h1
      exact⟨z,u,k1,k2,.inl ⟨hwt,fun w hw=>k3 w (hw.resolve_left (by simp))⟩⟩
    obtain⟨z,u,k1,k2,k3⟩:=hy
    exact wH hd hoi hQ0 D d3 fuel listed a c.w hcw d2 hfree d1 hir k3 (xY hT hcall hd fuel _ l' c (st1.put oi.dst z) (a.put oi.dst u) hpl k1 (hr1.put k2) hQ)
   ·exact wH hd hoi hQ0 D d3 fuel listed a c.w hcw d2 hfree d1 hir (.inr ⟨hwt,rfl⟩) (xY hT hcall hd fuel _ l' c st1 (a.put oi.dst undef) hpl h1 hr1 hQ)
  simp only[nU]at hp
  split at hp
  ·rename_i hrd
   cases hp
   simp only[List.filterMap_nil,dW]at h
   exact⟨fun _=>⟨rfl,hQ c st a h hr (Cx.Mono.refl c)⟩,by rw[hrd];simp⟩
  ·rename_i k rs hrd
   split at hp
   ·rename_i i hf
    have hf1:=List.find?_some hf
    have hf2:=List.mem_of_find?_eq_some hf
    simp only[Bool.and_eq_true]at hf1
    split at hp
    ·rename_i l' hpl
     cases hp
     exact take i true l' (by rw[hrd];exact hf2) (by simpa using hf1.1) hf1.2 hpl h
    ·cases hp
   ·split at hp
    ·rename_i i hf
     have hf1:=List.find?_some hf
     have hf2:=List.mem_of_find?_eq_some hf
     simp only[Bool.and_eq_true]at hf1
     split at hp
     ·rename_i l' hpl
      cases hp
      exact take i false l' (by rw[hrd];exact hf2) (by simpa using hf1.1) hf1.2 hpl h
     ·cases hp
    ·split at hp
     ·split at hp
      ·rename_i l' hpl
       cases hp
       obtain⟨_,ok,hok,_⟩:=mem_ready.1 (show k∈Region.ready .any ops listed by rw[hrd];simp)
       simp only[List.filterMap_cons,hok]at h
       rw[Cm]at h
       refine wpAnyIn_all hrd (by simp) fun j hj=> ?_
       obtain rfl:j=k:=by simpa using hj
       unfold wpOpIn
       simp only[hok]
       rcases Ul h hr with ⟨hwt,st1,hr1,h1⟩|⟨hwt,st1,hr1,h1⟩
       ·rw[if_pos hwt]
        exact IM hT hcall h1 hr1 fun c' z u st' k1 k2 k3 k4=>xY hT hcall hd fuel _ l' c' (st'.put ok.dst z) (a.put ok.dst u) hpl k1 (k2.put k3) fun c'' st'' a'' q1 q2 q3=>hQ c'' st'' a'' q1 q2 (k4.trans q3)
       ·rw[if_neg (by rw[hwt];simp)]
        exact⟨lW ok c.w _,xY hT hcall hd fuel _ l' c st1 (a.put ok.dst undef) hpl h1 hr1 hQ⟩
      ·cases hp
     ·cases hp
theorem Kv (hT:TOk P T) (hm:P.follows .mixedOrders=true) {cl:Bool} {call:dI R} (hcall:jA P W0 n call) {id:Nat} {l:List Oper} (hp:WX ops=some l) {K:St->Option R} {Q:Exit->Act->World->Prop}
  (h:dW T cl call ops K l st=some r) (hr:fH W0 b0 rd c st a ats) (hQ: ∀c' st' a',K st'=some r->fH W0 b0 rd c' st' a' ats->c.Mono c'->Q .normal a' c'.w):
  (Code.region id ops true).wpIn (FW rd) n P Q a c.w:=by
 unfold WX at hp
 rw[cond_eq_ite]at hp
 split at hp
 ·rename_i hd
  split at hp
  ·rename_i l' hpl
   cases hp
   have hext:y7 c {c.w with drawn:=c.w.drawn+1}:=⟨rfl,rfl,rfl,Nat.le_refl _,fun _ _=>rfl⟩
   have h2:=xY (Q:=fun a w=>Q .normal a w) hT hcall hd ops.size _ l' (c.at_ {c.w with drawn:=c.w.drawn+1}) st a hpl h (hr.ext hext) fun c' st' a' k1 k2 k3=>hQ c' st' a' k1 k2 ((Cx.Le.ext hext).mono.trans k3)
   exact Code.wpIn_mono (fun e a w he=>by obtain⟨rfl,he⟩:=he;exact he) (wpIn_region_any hm h2)
  ·cases hp
 ·cases hp
end
end Go.Proofs.YtihafdllichkeaaGreatDoor
namespace Go.Proofs.YtihafdllichkeaaGreatDoor
open Go.RowKit
set_option linter.unusedVariables false
set_option linter.unusedSimpArgs false
def oO {R:Type} (P:Program) (W0:World) (ex:jH R):Prop:=
 ∀(f:FuncId) (args:List aA) (st:St) (K:aA->St->Option R) (r:R),ex (.call f args) st K=some r->
  ∀(b0:Nat) (rd:Option Nat) (c:Cx) (a:Act) (ats:List (Array Value)) (args':Array Value),fH W0 b0 rd c st a ats->aj c args args'.toList->
   ∀Rr:Ending->World->Prop,(∀c' z u st',K z st'=some r->fH W0 b0 rd c' st' a ats->aF c' z u->c.Mono c'->Rr (.returned u) c'.w)->
    (callFunc f args').run P c.w=.ok (.enter f args') c.w/\Calls P f args' c.w Rr
section
variable {P:Program} {T:TT} {W0:World} {b0 n:Nat} {rd:Option Nat} {c:Cx} {R:Type} {r:R} {st:St} {a:Act} {ats:List (Array Value)}
def Ex.xt:Ex->Exit
 |.normal=>.normal
 |.exit i=>.exit i
 |.goto l=>.goto l
 |.ret=>.ret
section
variable {F:Fence} {b:Frame} {k:List Item} {cs:List Frame} {w:World} {Q:Exit->Act->World->Prop}
theorem lD {x:Code}:step P (lone (b.atR a (.code (.scope x)::k)) cs w)=.next (lone (b.atR a (.code x:: .inScope x::k)) cs w):=
 step_lone_go (by simp[stepG,stepG.exec,Frame.atR])
theorem J5 {x:Code}:step P (lone (b.atR a (.inScope x::k)) cs w)=.next (lone (b.atR a k) cs w):=
 step_lone_go (by simp[stepG,stepG.exec,Frame.atR])
theorem WT {x:Code} (h:x.wpIn F n P (fun e a w=>(∀l,e≠ .goto l)/\Q e a w) a w):(Code.scope x).wpIn F n P Q a w:=by
 intro b k cs hro hb hr
 have h0:(lone (b.atR a (.code (.scope x)::k)) cs w).fenced P F:=fenced_calm hb hr rfl
 obtain⟨e,a₁,w₁,⟨hng,hq⟩,harr⟩:=h b (.inScope x::k) cs hro hb hr
 cases e with
 |normal=>exact⟨.normal,a₁,w₁,hq,.head h0 lD (StepsIn.trans harr (.one (fenced_calm hb hr rfl) J5))⟩
 |exit id'=>
  have hx:exitTo id' (.inScope x::k)=exitTo id' k:=by simp[exitTo]
  exact⟨.exit id',a₁,w₁,hq,fun k' hk=>.head h0 lD (harr.1 k' (by rw[hx];exact hk)),
   fun hr' hk=>let⟨k₁,h1,h2⟩:=harr.2 hr' (by rw[hx];exact hk);⟨k₁,h1,.head h0 lD h2⟩⟩
 |goto l=>exact absurd rfl (hng l)
 |ret=>exact⟨_,a₁,w₁,hq,.of_steps (.one h0 lD) harr⟩
 |panic ch=>exact⟨_,a₁,w₁,hq,.of_steps (.one h0 lD) harr⟩
 |outgrown=>exact⟨_,a₁,w₁,hq,.of_steps (.one h0 lD) harr⟩
end
theorem ah3 (hok:c.Ok W0):c.Le {c with w:=c.w.alloc (.deferred (some [])),mks:=c.w.heap.size::c.mks}/\({c with w:=c.w.alloc (.deferred (some [])),mks:=c.w.heap.size::c.mks}:Cx).Ok W0:=by
 have hb:=jT c.w (.deferred (some []))
 have hle:c.Le {c with w:=c.w.alloc (.deferred (some [])),mks:=c.w.heap.size::c.mks}:=
  ⟨fun b hf=>⟨⟨Nat.lt_of_lt_of_le hf.1 hb.size,hf.2.1,by
    intro hm
    rcases List.mem_cons.1 hm with e|e
    ·have:=hf.1;omega
    ·exact hf.2.2 e⟩,hb.block b hf.1⟩,fun _ h=>h,fun id o _ ho=>⟨o,ho,o.like_refl _⟩,fun r hr=>List.mem_cons_of_mem _ hr,fun b L hL=>⟨L,(hb.block b (Array.getElem?_eq_some_iff.1 hL).1).trans hL⟩,hb.size,rfl⟩
 refine⟨hle,⟨hok.bel.trans (hb.mono hok.size),fun id o ho=>(hok.obj id o ho).le hle rfl fun b hb'=>hb.block b ((hok.obj id o ho).lt hb').2,hok.inj,fun r hr=> ?_,fun b hb=>(hle.out b (hok.bar b hb)).1,hok.phi⟩⟩
 rcases List.mem_cons.1 hr with e|e
 ·subst e;exact⟨hok.size,World.alloc_heap_new _ _⟩
 ·exact⟨(hok.mks r e).1,(hb.block r (hok.mark_lt e)).trans (hok.mks r e).2⟩
theorem alG (hok:c.Ok W0) {st:St} (h1:c.hp=st.hp) (h2:c.nxt=st.nxt) {id n':Nat} (h3:aX st.hp id=none) (h4:st.nxt<=id) (h5:st.nxt<=n') {f:FuncId} {fr:List aA} {L:Loop} (hv:aj c fr L.tmps.toList) (hs:L.state=.ready) (hp:L.pending=none) {ky:Option Nat} (hky: ∀k,ky=some k->og f k=some (L.assign,L.body)):
  ∃c',wF W0 c st c' {st with hp:=(id,.lp f fr L.params.toList L.assign L.body ky 0 none)::st.hp,nxt:=n'}/\c'.w=c.w.alloc (.loop L)/\aF c' (.yld id) (.func (.yield c.w.heap.size) #[] #[])/\c'.mks=c.mks:=by
 have hk:=sO h1 h2 h3 h4
 have hb:=jT c.w (.loop L)
 have hl: ∀b,aW.blk (.lp f fr L.params.toList L.assign L.body ky 0 none) ⟨c.w.heap.size,undef⟩=some b->c.w.heap.size<=b:=fun b hb=>by
  simp only[aW.blk,Option.some.injEq]at hb;omega
 have hle:=Cx.Le.push (o:=.lp f fr L.params.toList L.assign L.body ky 0 none) (l:=⟨c.w.heap.size,undef⟩) (nxt:=n') (w:=c.w.alloc (.loop L)) hk (by omega) hb.size hb.block hl
 have ho:(c.push id (.lp f fr L.params.toList L.assign L.body ky 0 none) ⟨c.w.heap.size,undef⟩ n' (c.w.alloc (.loop L))).ORel W0.heap.size id (.lp f fr L.params.toList L.assign L.body ky 0 none):=by
  refine⟨hky,by simp[Cx.push,upd_same];exact hok.size,L, ?_,aj.le hle _ _ hv,rfl,rfl,rfl,hs,hp⟩
  simp only[Cx.push,upd_same]
  exact World.alloc_heap_new c.w _
 refine⟨_,⟨?_,rfl,rfl,rfl,hok.push hk (by omega) hb hl ho,hle⟩,rfl, ?_,rfl⟩
 ·simp[Cx.push,h1]
 ·simp only[aF]
  refine⟨rfl,.inl ⟨_,by simp[Cx.push,bH];rfl⟩,fun _ _ _ _ _ _ _ _ _=>by simp[Cx.push,upd_same]⟩
theorem Aj (hok:c.Ok W0) {id:Nat} {f:FuncId} {fr:List aA} {ps:List Nat} {asg bd:Code} {ky:Option Nat} {k:Nat} {p:Option Ex} (hg:aX c.hp id=some (.lp f fr ps asg bd ky k p)) {L:Loop} (hL:c.w.heap[(c.mu id).blk]? =some (.loop L)) (L':Loop)
  {o':aW} (ho':o'=.dead\/(∃k' p',o'=.lp f fr ps asg bd ky k' p'/\ad1 k' p' L'/\L'.tmps=L.tmps/\L'.params=L.params/\L'.assign=L.assign/\L'.body=L.body)):
  ∃c',c'.hp=gB c.hp id o'/\c'.nxt=c.nxt/\c.Le c'/\c'.Ok W0/\c'.w=c.w.putObj (c.mu id).blk (.loop L')/\c'.mks=c.mks:=by
 have hlt:(c.mu id).blk<c.w.heap.size:=(Array.getElem?_eq_some_iff.1 hL).1
 obtain⟨hky,hB,L0,hL0,hv,e1,e2,e3,e4⟩:=hok.obj id _ hg
 rw[hL]at hL0
 have eL:L0=L:=by cases hL0;rfl
 subst eL
 have hk:(aW.lp f fr ps asg bd ky k p).like (c.mu id) o' (c.mu id):=by
  rcases ho' with rfl|⟨k',p',rfl,_⟩<;>simp[aW.like]
 have hs:c.w.heap.size<=(c.w.putObj (c.mu id).blk (.loop L')).heap.size:=by simp
 have hb: ∀b,b<c.w.heap.size->(aW.lp f fr ps asg bd ky k p).blk (c.mu id)≠some b->(c.w.putObj (c.mu id).blk (.loop L')).heap[b]? =c.w.heap[b]? :=fun b _ hne=>
  World.putObj_heap_other fun e=>hne (by rw[e];rfl)
 have hl: ∀b,o'.blk (c.mu id)=some b->(aW.lp f fr ps asg bd ky k p).blk (c.mu id)=some b\/c.w.heap.size<=b:=fun b hb=>by
  rcases ho' with rfl|⟨k',p',rfl,_⟩
  ·cases hb
  ·exact .inl hb
 have hlp: ∀(b:Nat) (L1:Loop),(aW.lp f fr ps asg bd ky k p).blk (c.mu id)=some b->c.w.heap[b]? =some (Obj.loop L1)-> ∃L2:Loop,(c.w.putObj (c.mu id).blk (.loop L')).heap[b]? =some (Obj.loop L2):=fun b L1 hb _=>by
  simp only[aW.blk,Option.some.injEq]at hb
  subst hb
  exact⟨L',World.putObj_heap_same hlt⟩
 have hw:Below W0.heap.size W0 (c.w.putObj (c.mu id).blk (.loop L')):=
  ⟨hok.bel.os,hok.bel.tape,hok.bel.output,by simpa using hok.bel.size,fun j hj=>(World.putObj_heap_other (by omega)).trans (hok.bel.block j hj)⟩
 have hle:=Cx.Le.put hok hg hk hs hb hl hlp
 refine⟨c.put id o' (c.mu id) (c.w.putObj (c.mu id).blk (.loop L')),rfl,rfl,hle,Cx.Ok.put hok hg hk hw hs hb hl hlp ?_,rfl,rfl⟩
 rcases ho' with rfl|⟨k',p',rfl,h1,h2,h3,h4,h5⟩
 ·trivial
 ·refine⟨hky,by simp only[Cx.put,upd_same];exact hB,L', ?_,aj.le hle _ _ (by rw[h2];exact hv),by rw[h3];exact e1,by rw[h4];exact e2,by rw[h5];exact e3,h1⟩
  simp only[Cx.put,upd_same]
  exact World.putObj_heap_same hlt
end
end Go.Proofs.YtihafdllichkeaaGreatDoor
namespace Go.Proofs.YtihafdllichkeaaGreatDoor
open Go.RowKit
set_option linter.unusedVariables false
set_option linter.unusedSimpArgs false
section
variable {T:TT} {cl:Bool} {R:Type} {r:R} {sg:FuncId->Option Sum}
theorem tX {dst:Option Nat} {o:aW} {st:St} {K:Nat->St->Option R} (h:alloc cl dst o st K=some r): ∃i st',K i st'=some r:=by
 unfold alloc at h
 split at h
 ·cases h
 ·replace h:=aP h
  exact⟨_,_,h.2⟩
theorem atc {b:Bool} {k:Option R} (h:jr b k=some r):k=some r:=(aP h).2
theorem amu {op:BinOp} {t:TypeId} {x y:aA} {K:aA->Option R} (h:Tc T op t x y K=some r): ∃z,K z=some r:=by
 unfold Tc at h
 simp only[jr,cond_eq_ite]at h
 repeat' split at h
 all_goals first|cases h;done|exact⟨_,h⟩
theorem aik {hp:dN} {op:BinOp} {t:TypeId} {x y:aA} {K:aA->Option R} (h:I8 T hp op t x y K=some r): ∃z,K z=some r:=by
 unfold I8 at h
 simp only[cond_eq_ite]at h
 repeat' split at h
 all_goals first|cases h;done|exact⟨_,h⟩|exact amu h
theorem aom {op:UnOp} {x:aA} {K:aA->Option R} (h:ahz op x K=some r): ∃z,K z=some r:=by
 unfold ahz at h
 repeat' split at h
 all_goals first|cases h;done|exact⟨_,h⟩
theorem ais {hp:dN} {t:TypeId} {a:aA} {K:aA->Option R} (h:D7 T hp t a K=some r): ∃z,K z=some r:=by
 unfold D7 at h
 simp only[cond_eq_ite]at h
 repeat' split at h
 all_goals first|cases h;done|exact⟨_,h⟩
theorem anc {old:dN} {st:St} {a v:aA} {K:St->Option R} (h:SC old st a v K=some r): ∃z,K z=some r:=by
 unfold SC at h
 simp only[cond_eq_ite]at h
 repeat' split at h
 all_goals first|cases h;done|exact⟨_,h⟩
theorem aho {st:St} {t:TypeId} {a v:aA} {K:St->Option R} (h:Cf T st t a v K=some r): ∃z,K z=some r:=by
 unfold Cf at h
 simp only[cond_eq_ite]at h
 repeat' split at h
 all_goals first|cases h;done|exact⟨_,h⟩
theorem XT {s d:TypeId} {x:aA} {hp:dN} {K:aA->Option R} (h:uj T s d x hp K=some r): ∃z,K z=some r:=by
 unfold uj at h
 simp only[jr,cond_eq_ite]at h
 repeat' split at h
 all_goals first|cases h;done|exact⟨_,h⟩
theorem afd {hp:dN} {t:TypeId} {x:aA} {lo hi mx:Option aA} {K:aA->Option R} (h:Bo T hp t x lo hi mx K=some r): ∃z,K z=some r:=by
 unfold Bo at h
 simp only[jr,cond_eq_ite]at h
 repeat' split at h
 all_goals first|cases h;done|exact⟨_,h⟩
theorem O8 {hp:dN} {t:TypeId} {x:aA} {f:Nat} {K:aA->Option R} (h:nM T hp t x f K=some r): ∃z,K z=some r:=by
 unfold nM at h
 simp only[cond_eq_ite]at h
 repeat' split at h
 all_goals first|cases h;done|exact⟨_,h⟩
theorem af1 {t:TypeId} {x:aA} {f:Nat} {K:aA->Option R} (h:Bz T t x f K=some r): ∃z,K z=some r:=by
 unfold Bz at h
 repeat' split at h
 all_goals first|cases h;done|exact⟨_,h⟩
theorem Oz {hp:dN} {t:TypeId} {x i:aA} {K:aA->Option R} (h:nJ T hp t x i K=some r): ∃z,K z=some r:=by
 unfold nJ at h
 simp only[jr,cond_eq_ite]at h
 repeat' split at h
 all_goals first|cases h;done|exact⟨_,h⟩
theorem anI {hp:dN} {t:TypeId} {x:aA} {K:aA->Option R} (h:RI T hp t x K=some r): ∃z,K z=some r:=by
 unfold RI at h
 simp only[jr,cond_eq_ite]at h
 repeat' split at h
 all_goals first|cases h;done|exact⟨_,h⟩
theorem ab4 {dst:Option Nat} {t:TypeId} {s x:aA} {st:St} {K:aA->St->Option R} (h:Ce T cl dst t s x st K=some r): ∃z st',K z st'=some r:=by
 unfold Ce at h
 simp only[jr,cond_eq_ite]at h
 repeat' split at h
 all_goals first|cases h;done|exact⟨_,_,h⟩|(obtain⟨_,_,h⟩:=tX h;exact⟨_,_,h⟩)
theorem Vb {dst:Option Nat} {t t':TypeId} {s x:aA} {st:St} {K:aA->St->Option R} (h:tY T cl dst t t' s x st K=some r): ∃z st',K z st'=some r:=by
 unfold tY at h
 simp only[jr,cond_eq_ite]at h
 repeat' split at h
 all_goals first|cases h;done|exact⟨_,_,h⟩|(obtain⟨_,_,h⟩:=tX h;exact⟨_,_,h⟩)
theorem WO {o:Oper} {b:Builtin} {ts:List TypeId} {args:List aA} {st:St} {K:aA->St->Option R} (h:iH T cl o b ts args st K=some r): ∃z st',K z st'=some r:=by
 unfold iH at h
 simp only[jr,cond_eq_ite]at h
 repeat' split at h
 all_goals first|cases h;done|exact⟨_,_,h⟩|(obtain⟨_,h⟩:=anI h;exact⟨_,_,h⟩)|exact ab4 h|exact Vb h
def rU (sg:FuncId->Option Sum) (call:dI R):Prop:= ∀g s args dst st (K:aA->St->Option R) r,sg g=some s->call (.fn g []) args dst st K=some r-> ∃z st',K z st'=some r
theorem adQ {s:Sum} {args:List aA} {dst:Option Nat} {st:St} {K:aA->St->Option R} (h:s.call cl args dst st K=some r): ∃z st',K z st'=some r:=by
 unfold Sum.call at h
 simp only[cond_eq_ite]at h
 split at h
 ·split at h
  ·rename_i x hx
   cases hf:s.f x with
   |none=>rw[hf]at h;simp[ai]at h
   |some y=>
    rw[hf]at h
    simp only[ai]at h
    repeat' split at h
    all_goals first|cases h;done|exact⟨_,_,h⟩|(obtain⟨_,_,h⟩:=tX h;exact⟨_,_,h⟩)
  ·cases h
 ·cases h
theorem aar {call:dI R} (hx:rU sg call) {o:Oper} {st:St} {K:aA->St->Option R} (hp:oU sg o.op=true) (h:bK T cl call o st K=some r): ∃z st',K z st'=some r:=by
 obtain⟨dst,op,ty,pos,after,guard⟩:=o
 cases op with
 |call c=>
  simp only[bK]at h
  simp only[oU]at hp
  split at h
  ·exact WO h
  ·rename_i f hf
   rw[hf]at hp
   cases f with
   |func g=>
    simp only at hp
    cases hs:sg g with
    |none=>rw[hs]at hp;cases hp
    |some s=>exact hx g s _ _ _ _ _ hs h
   |_=>simp at hp
  ·cases h
 |store t x y=>
  simp only[bK]at h
  obtain⟨_,h⟩:=aho h
  obtain⟨_,h⟩:=anc h
  exact⟨_,_,h⟩
 |_=>
  simp only[bK,jr,cond_eq_ite]at h
  repeat' split at h
  all_goals first
   |cases h;done
   |exact⟨_,_,h⟩
   |(obtain⟨_,_,h⟩:=tX h;exact⟨_,_,h⟩)
   |(obtain⟨_,_,h⟩:=tX h;obtain⟨_,_,h⟩:=tX h;exact⟨_,_,h⟩)
   |(obtain⟨_,h⟩:=ais h;exact⟨_,_,h⟩)
   |(obtain⟨_,h⟩:=aik h;exact⟨_,_,h⟩)
   |(obtain⟨_,h⟩:=aom h;exact⟨_,_,h⟩)
   |(obtain⟨_,h⟩:=XT h;exact⟨_,_,h⟩)
   |(obtain⟨_,h⟩:=afd h;exact⟨_,_,h⟩)
   |(obtain⟨_,h⟩:=O8 h;exact⟨_,_,h⟩)
   |(obtain⟨_,h⟩:=af1 h;exact⟨_,_,h⟩)
   |(obtain⟨_,h⟩:=Oz h;exact⟨_,_,h⟩)
theorem QG {E:Env} {ex:jH R}:rU E.sg (qi E ex):=fun g s args dst st K r hs h=>by
 simp only[qi,hs]at h
 exact adQ h
theorem al2:rU (R:=R) sg (yX sg cl):=fun g s args dst st K r hs h=>by
 simp only[yX,hs]at h
 exact adQ (aP h).2
theorem adr {o:Op} (h:dZ o=true):oU sg o=true:=by
 cases o with
 |call c=>
  simp only[dZ]at h
  simp only[oU]
  split at h<;>simp_all
 |_=>rfl
theorem zJ {call:dI R} (hx:rU sg call) {ops:Array Oper} {old:List aA}: ∀(l:List Nat) {st:St} {K:St->Option R},ru T cl call ops old l st K=some r-> ∃st',K st'=some r
 |[],st,K,h=>⟨st,h⟩
 |i::l,st,K,h=>by
  simp only[ru]at h
  split at h
  ·rw[cond_eq_ite]at h
   split at h
   ·rename_i hq
    obtain⟨_,_,h⟩:=aar hx (adr hq) h
    exact zJ hx l (aP h).2
   ·exact zJ hx l (aP h).2
  ·cases h
theorem Nz {call:dI R} (hx:rU sg call) {ops:Array Oper} (hp: ∀o∈ops.toList,oU sg o.op=true) {j:Nat} {log:List Nat} {st:St} {K:St->Option R} (h:nR T cl call ops j log st K=some r): ∃st',K st'=some r:=by
 unfold nR at h
 split at h
 ·rename_i oj hoj
  obtain⟨_,_,h⟩:=aar hx (hp oj (by have:=Array.mem_of_getElem? hoj;simpa using this)) (aP h).2
  split at h
  ·exact zJ hx _ h
  ·cases h
 ·cases h
theorem J7 {α β:Type} {o:Option α} {k:α->Option β} {y:β} (h:ai o k=some y): ∃x,o=some x/\k x=some y:=by
 cases o with
 |none=>simp[ai]at h
 |some x=>exact⟨x,rfl,h⟩
theorem rD {k:Option R} {r:R}: ∀(l:List (Option Unit)),F8 l k=some r->k=some r/\ ∀x∈l,x=some ()
 |[],h=>⟨h,fun _ hx=>by cases hx⟩
 |o::l,h=>by
  simp only[F8]at h
  obtain⟨⟨⟩,h1,h2⟩:=J7 h
  obtain⟨h3,h4⟩:=rD l h2
  exact⟨h3,fun x hx=>by
   rcases List.mem_cons.1 hx with rfl|hx
   ·exact h1
   ·exact h4 x hx⟩
theorem H8 {ops:Array Oper} (hp: ∀o∈ops.toList,oU sg o.op=true) {callS:dI St} {callU:dI Unit} (hxS:rU sg callS) (hxU:rU sg callU): ∀(n:Nat) {R:Type} {r:R} {call:dI R},rU sg call-> ∀(listed:Array Bool) (log:List Nat) (st:St) (K:St->Option R),
  jy T cl sg callS callU ops n call listed log st K=some r-> ∃st',K st'=some r
 |0,R,r,call,hx,listed,log,st,K,h=>by simp[jy]at h
 |n+1,R,r,call,hx,listed,log,st,K,h=>by
  have hpi: ∀{i:Nat} {oi:Oper},ops[i]? =some oi->oU sg oi.op=true:=fun {i oi} hoi=>hp oi (by have:=Array.mem_of_getElem? hoi;simpa using this)
  simp only[jy]at h
  split at h
  ·exact⟨st,h⟩
  ·split at h
   ·split at h
    ·rename_i hoi
     obtain⟨_,_,h⟩:=aar hx (hpi hoi) (aP h).2
     exact H8 hp hxS hxU n hx _ _ _ _ h
    ·cases h
   ·split at h
    ·split at h
     ·rename_i hoi
      obtain⟨_,_,h⟩:=aar (al2 (sg:=sg)) (hpi hoi) (aP h).2
      exact H8 hp hxS hxU n hx _ _ _ _ h
     ·cases h
    ·split at h
     ·obtain⟨_,h⟩:=Nz hx hp h
      exact H8 hp hxS hxU n hx _ _ _ _ h
     ·rw[cond_eq_ite]at h
      split at h
      ·split at h
       ·exact⟨_,h⟩
       ·cases h
      ·obtain⟨_,h⟩:=Nz hx hp h
       obtain⟨_,h⟩:=H8 hp hxS hxU n hx _ _ _ _ h
       replace h:=(aP h).2
       split at h
       ·exact⟨_,(rD _ h).1⟩
       ·cases h
end
end Go.Proofs.YtihafdllichkeaaGreatDoor
namespace Go.Proofs.YtihafdllichkeaaGreatDoor
open Go.RowKit
set_option linter.unusedVariables false
set_option linter.unusedSimpArgs false
section
variable {P:Program} {T:TT} {W0:World} {b0 n:Nat} {rd:Option Nat} {c:Cx} {st:St} {a:Act} {sg:FuncId->Option Sum} {cl:Bool} {ats:List (Array Value)} {ops:Array Oper}
def jo:(t:Ty)->t.den->List Value
 |.unit,_=>[]
 |.bool,x=>[.bool x]
 |.int k,x=>[.int k x]
 |.str,x=>[.string ⟨x.toArray⟩]
 |.list _,_=>[]
 |.pair a b,x=>jo a x.1++jo b x.2
theorem lI {w:World} {fr:Nat->Prop}: ∀(t:Ty) (x:t.den),t.rigid=true-> ∀cs,cu w fr t x cs↔cs=jo t x
 |.unit,x,_,cs=>by simp[cu,jo]
 |.bool,x,_,cs=>by simp[cu,jo]
 |.int k,x,_,cs=>by simp[cu,jo]
 |.str,x,_,cs=>by simp[cu,jo]
 |.list t,x,h,cs=>by simp[Ty.rigid]at h
 |.pair a b,x,h,cs=>by
  simp only[Ty.rigid,Bool.and_eq_true]at h
  simp only[cu,jo,lI a x.1 h.1,lI b x.2 h.2]
  constructor
  ·rintro ⟨l1,l2,h1,rfl,rfl⟩;exact h1
  ·intro h1;exact⟨_,_,h1,rfl,rfl⟩
def BB (t:Ty) (x:t.den):Value:=if t.isAgg then .agg (jo t x).toArray else(jo t x).headD undef
theorem VD.rigid {t:Ty} {x:t.den} (h:t.rigid=true) (v:Value):VD c t x v↔v=BB t x:=by
 cases ha:t.isAgg with
 |true=>
  rw[VD.agg ha]
  simp only[BB,ha,if_true,lI t x h]
  constructor
  ·rintro ⟨cs,rfl,h2⟩;rw[<-h2]
  ·intro e;exact⟨_,e,by simp⟩
 |false=>
  rw[VD.leaf ha,lI t x h]
  have: ∃u,jo t x=[u]:=by cases t<;>first|exact⟨_,rfl⟩|(simp[Ty.rigid]at h;done)|(simp[Ty.isAgg]at ha;done)
  obtain⟨u,hu⟩:=this
  simp only[BB,ha,hu]
  simp
def rv1:aA->Value
 |.val t x=>BB t x
 |_=>undef
def rv:aA->Value
 |.tup l=>.tuple (l.map rv1).toArray
 |v=>rv1 v
theorem YJ {v:aA} (h:v.rigid=true) (u:Value):aF c v u↔u=rv1 v:=by
 cases v<;>simp only[aA.rigid,Bool.false_eq_true]at h
 simp only[aF,rv1]
 exact VD.rigid h u
theorem Zl: ∀(l:List aA),l.all aA.rigid=true-> ∀us,aj c l us↔us=l.map rv1
 |[],_,[]=>by simp[aj]
 |[],_,u::us=>by simp[aj]
 |v::l,_,[]=>by simp[aj]
 |v::l,h,u::us=>by
  simp only[List.all_cons,Bool.and_eq_true]at h
  simp only[aj,YJ h.1,Zl l h.2,List.map_cons,List.cons.injEq]
theorem Aa {v:aA} (h:v.rigidR=true) (u:Value):aF c v u↔u=rv v:=by
 cases v with
 |tup l=>
  simp only[aA.rigidR]at h
  simp only[aF,rv,Zl l h]
  constructor
  ·rintro ⟨vs,rfl,h2⟩;rw[<-h2]
  ·intro e;exact⟨_,e,by simp⟩
 |val t x=>exact YJ (v:=.val t x) h u
 |_=>simp[aA.rigidR,aA.rigid]at h
theorem Af (id:Nat): ∀(rs:List (Ty×Bool)) y,(rs.all fun r=> !r.2&&r.1.rigid)=true->(jO id rs y).all aA.rigid=true
 |[],_,_=>rfl
 |(t,true)::rs,y,h=>by simp at h
 |(t,false)::rs,y,h=>by
  simp only[List.all_cons,Bool.not_false,Bool.true_and,Bool.and_eq_true]at h
  simp only[jO,List.all_cons,aA.rigid,h.1,Bool.true_and]
  exact Af id rs y.2 h.2
theorem G5: ∀(l:List aA),l.all aA.rigid=true->(Bj l).rigidR=true
 |[],_=>rfl
 |[v],h=>by
  simp only[List.all_cons,List.all_nil,Bool.and_true]at h
  cases v<;>simp only[aA.rigid,Bool.false_eq_true]at h
  exact h
 |v::v2::l,h=>h
theorem aj.mk {c:Cx}: ∀(l:List aA) (xs:List Value),l.length=xs.length->(∀(i:Nat) (h:i<l.length) (h':i<xs.length),aF c l[i] xs[i])->aj c l xs
 |[],[],_,_=>by simp[aj]
 |[],_::_,h,_=>by simp at h
 |_::_,[],h,_=>by simp at h
 |v::l,x::xs,h,hh=>by
  simp only[aj]
  exact⟨hh 0 (by simp) (by simp),aj.mk l xs (by simpa using h) fun i h1 h2=>by
   have:=hh (i+1) (by simp;omega) (by simp;omega)
   simpa using this⟩
def oJ (ops:Array Oper) (k:Nat):Option Nat:=(ops[k]?).bind (·.dst)
def dE (ops:Array Oper) (a:Act):List (Nat×Value)->Act
 |[]=>a
 |(k,v)::l=>(dE ops a l).put (oJ ops k) v
theorem sF (a:Act): ∀(q l:List (Nat×Value)),dE ops a (q++l)=dE ops (dE ops a l) q
 |[],l=>rfl
 |(k,v)::q,l=>by simp only[List.cons_append,dE];rw[sF a q l]
theorem rY (a:Act): ∀l,(dE ops a l).defers=a.defers
 |[]=>rfl
 |(k,v)::l=>by rw[dE,put_defers,rY a l]
theorem lC (a:Act): ∀l,(dE ops a l).tmps.size=a.tmps.size
 |[]=>rfl
 |(k,v)::l=>by
  rw[dE]
  cases oJ ops k with
  |none=>exact lC a l
  |some d=>simp only[Act.put,Array.size_setIfInBounds];exact lC a l
def aeC (ops:Array Oper) (x y:Oper):Prop:= ∀d,y.dst=some d->d∉x.looksAt ops/\x.dst≠some d
theorem Es {x y:Oper} (h:yw ops x y=true):aeC ops x y:=fun d hd=>by
 simp only[yw,hd,Bool.and_eq_true,Bool.not_eq_true',bne_iff_ne]at h
 exact⟨by simpa using h.1,h.2⟩
theorem qc (a:Act) {d:Option Nat} {v:Value}: ∀(l:List (Nat×Value)),(∀m∈l.map (·.1),∀e,oJ ops m=some e->d≠some e)->dE ops (a.put d v) l=(dE ops a l).put d v
 |[],_=>rfl
 |(k,u)::l,h=>by
  rw[dE,dE,qc a l fun m hm=>h m (List.mem_cons_of_mem _ hm)]
  exact(Act.put_comm _ u v fun e he=>h k List.mem_cons_self e he).symm
theorem wP (a:Act) {o:Oper} (hs: ∀cs b,o.op≠ .select cs b): ∀(l:List (Nat×Value)),(∀m∈l.map (·.1),∀e,oJ ops m=some e->e∉o.looksAt ops)->execOp (dE ops a l).eval o=execOp a.eval o
 |[],_=>rfl
 |(k,u)::l,h=>by
  rw[dE,execOp_put (ops:=ops) o hs _ _ _ (h k List.mem_cons_self)]
  exact wP a hs l fun m hm=>h m (List.mem_cons_of_mem _ hm)
def eF (ops:Array Oper) (lA:Array Bool) (log:List Nat):List Nat->Prop
 |[]=>True
 |k::l=>eF ops lA log l/\lA.getD k true=false/\k∈log/\k∉l/\ ∃ok,ops[k]? =some ok/\iw ok.op=true/\ok.guard=none/\(∀d,ok.dst=some d->d∉ok.looksAt ops)/\
   (∀e∈ok.after,Region.binds .any e=true->lA.getD e.on false=true\/e.on∈l)/\
   (∀m∈l,∃om,ops[m]? =some om/\aeC ops om ok/\(ni ops k m=false->om.apart ops ok=true))
def Aq (rd:Option Nat) (n:Nat) (P:Program) (c:Cx) (a:Act) (o:Oper) (v:Value):Prop:= ∀w',y7 c w'->o.quietAtIn (FW rd) n P a (y7 (c.at_ w')) w' v
theorem Aq.congr {a a':Act} {o:Oper} {v:Value} (h:execOp a'.eval o=execOp a.eval o) (hq:Aq rd n P c a o v):Aq rd n P c a' o v:=fun w' hw=>by
 have:=hq w' hw
 unfold Oper.quietAtIn at this ⊢
 rw[h]
 exact this
theorem Aq.of_run {a:Act} {o:Oper} {v:Value} (h: ∀w',y7 c w'->(execOp a.eval o).run P w'=.ok (.value v) w'):Aq rd n P c a o v:=fun w' hw=>by
 unfold Oper.quietAtIn
 rw[h w' hw]
 exact⟨rfl,rfl⟩
theorem Aq.ext {a:Act} {o:Oper} {v:Value} {w:World} (hw:y7 c w) (h:Aq rd n P c a o v):Aq rd n P (c.at_ w) a o v:=fun w' hw'=>h w' (Below.trans hw (hw'.mono hw.size))
theorem Aq.wpOp {a:Act} {i:Nat} {o:Oper} {v:Value} (hd:jC ops=true) (hi:ops[i]? =some o) (hg:o.guard=none) (h:Aq rd n P c a o v) {Q:Exit->Act->World->Prop} {K:Act->World->Prop} (hK: ∀w',y7 c w'->K (a.put o.dst v) w'):wpOpIn (FW rd) n P ops Q i K a c.w:=by
 unfold Go.wpOpIn
 simp only[hi]
 rw[if_pos (by simp[Region.wanted,hg])]
 refine⟨lW o c.w _, ?_⟩
 rw[pV (ku hd i o hi).1]
 have h1:=h c.w (Below.refl _ _)
 unfold Oper.quietAtIn at h1
 generalize (execOp a.eval o).run P c.w=x at h1 ⊢
 match x,h1 with
 |.ok (.value u) w',h1=>
  obtain⟨e1,e2⟩:=h1
  subst e1 e2
  exact hK _ (Below.refl _ _)
 |.ok .skip w',h1=>
  obtain⟨e1,e2⟩:=h1
  subst e1 e2
  exact hK _ (Below.refl _ _)
 |.ok (.enter f args) w',h1=>
  obtain⟨e1,e2,e3⟩:=h1
  subst e1
  refine⟨e2,CallsIn.mono e3 fun e w'' he=> ?_⟩
  obtain⟨e4,e5⟩:=he
  subst e4
  exact hK _ e5
def iP (rd:Option Nat) (n:Nat) (P:Program) (ops:Array Oper) (c:Cx) (a:Act):List (Nat×Value)->Prop
 |[]=>True
 |(k,v)::l=>iP rd n P ops c a l/\ ∃ok,ops[k]? =some ok/\Aq rd n P c (dE ops a l) ok v
theorem iP.ext {w:World} (hw:y7 c w) {a:Act}: ∀{l:List (Nat×Value)},iP rd n P ops c a l->iP rd n P ops (c.at_ w) a l
 |[],_=>trivial
 |(k,v)::l,h=>⟨iP.ext hw h.1,let⟨ok,h1,h2⟩:=h.2;⟨ok,h1,h2.ext hw⟩⟩
def nT (sg:FuncId->Option Sum) (cl:Bool) (o:Oper) (fr:List aA) (z:aA):Prop:=
 iw o.op=true/\(∃cc fo,o.op=.call cc/\cc.callee=.value fo)/\z.rigidR=true/\(∀d,o.dst=some d->z=fr.getD d .undef)/\
  ∃fv args,ig o fr=fv::args/\ ∀(dst:Option Nat) (st':St) (K:aA->St->Option Unit),yX sg cl fv args dst st' K=K z st'
theorem GV (hT:TOk P T) (hq:jM (R:=Unit) P (yX sg cl)) {o:Oper} {z:aA} {fr':List aA} (hfit:nT sg cl o fr' z) (he:ig o fr'=ig o st.fr) {a:Act} (hr:fH W0 b0 rd c st a ats):aF c z (rv z)/\Aq rd n P c a o (rv z):=by
 obtain⟨h1,⟨cc,fo,h2,h3⟩,h4,_,fv,args,h5,h6⟩:=hfit
 rw[he]at h5
 refine⟨(Aa h4 _).2 rfl,fun w' hw=> ?_⟩
 classical
 have h:bK T cl (yX sg cl) o st (fun z' _=>if z'=z then some ()else none)=some ():=by
  obtain⟨dst,op,ty,pos,after,guard⟩:=o
  simp only at h2
  subst h2
  obtain⟨callee,as',ts⟩:=cc
  simp only at h3
  subst h3
  simp only[ig,List.cons.injEq]at h5
  simp only[bK]
  rw[h5.1,h5.2,h6]
  simp
 obtain⟨z',v,g1,g2,g3⟩:=SX (n:=n) hT hq h1 h (hr.ext hw)
 have hz:z'=z:=by
  by_cases e:z'=z
  ·exact e
  ·rw[if_neg e]at g1;cases g1
 rw[hz]at g2
 rw[<-(Aa h4 v).1 g2]
 exact g3 w' (Below.refl _ _)
def Eb (sg:FuncId->Option Sum) (cl:Bool) (ops:Array Oper) (fr:List aA) (l:List Nat):Prop:= ∀k∈l,∀ok,ops[k]? =some ok->dZ ok.op=false-> ∃z,nT sg cl ok fr z
theorem pI {l:Array Bool} {m:Nat} (h1:l.getD m false=true) (h2:l.getD m true=false):False:=by
 rcases Nat.lt_or_ge m l.size with h|h
 ·simp[h]at h1 h2;rw[h1]at h2;cases h2
 ·simp[Array.getElem?_eq_none h]at h1
theorem IE {lA:Array Bool} {j m:Nat} (hj:j∈Region.ready .any ops lA) (hm:lA.getD m true=false):ni ops j m=false:=by
 obtain⟨_,oj,hoj,hall⟩:=mem_ready.1 hj
 unfold ni
 rw[hoj]
 cases hb:oj.after.any fun e=>Region.binds .any e&&Nat.beq e.on m with
 |false=>exact hb
 |true=>
  obtain⟨e,he,hb⟩:=Array.any_eq_true'.1 hb
  simp only[Bool.and_eq_true]at hb
  have:=hall e he hb.1
  rw[Nat.eq_of_beq_eq_true hb.2]at this
  exact(pI this hm).elim
theorem eF.un {lA:Array Bool} {log:List Nat}: ∀{l:List Nat},eF ops lA log l-> ∀k∈l,lA.getD k true=false
 |k::l,h,m,hm=>by
  rcases List.mem_cons.1 hm with e|hm
  ·rw[e];exact h.2.1
  ·exact eF.un h.1 m hm
theorem eF.log {lA:Array Bool} {log:List Nat}: ∀{l:List Nat},eF ops lA log l-> ∀k∈l,k∈log
 |k::l,h,m,hm=>by
  rcases List.mem_cons.1 hm with e|hm
  ·rw[e];exact h.2.2.1
  ·exact eF.log h.1 m hm
theorem eF.mono {lA:Array Bool} {log log':List Nat} (hl: ∀k∈log,k∈log'): ∀{l:List Nat},eF ops lA log l->eF ops lA log' l
 |[],_=>trivial
 |k::l,h=>⟨eF.mono hl h.1,h.2.1,hl _ h.2.2.1,h.2.2.2⟩
theorem eF.set {lA:Array Bool} {log:List Nat} {j:Nat}: ∀{l:List Nat},eF ops lA log l->j∉l->eF ops (lA.setIfInBounds j true) log l
 |[],_,_=>trivial
 |k::l,h,hj=>by
  obtain⟨h1,h2,h3,h4,ok,h5,h6,h7,h8,h9,h10⟩:=h
  refine⟨eF.set h1 fun h=>hj (List.mem_cons_of_mem _ h), ?_,h3,h4,ok,h5,h6,h7,h8,fun e he hb=> ?_,h10⟩
  ·rw[getD_set_ne true (fun e=>hj (by rw[e];exact List.mem_cons_self))];exact h2
  ·exact(h9 e he hb).imp getD_set_true fun h=>h
theorem qo {lA:Array Bool} {j:Nat} (hj:j<lA.size):(lA.setIfInBounds j true).getD j false=true:=by simp[hj]
theorem eF.take {lA:Array Bool} {log:List Nat} {k:Nat} (hk:k<lA.size): ∀{l:List Nat},eF ops lA log l->k∈l->eF ops (lA.setIfInBounds k true) log (l.erase k)
 |m::l,h,hm=>by
  obtain⟨h1,h2,h3,h4,ok,h5,h6,h7,h8,h9,h10⟩:=h
  by_cases e:m=k
  ·subst e
   rw[List.erase_cons_head]
   exact eF.set h1 h4
  ·rw[List.erase_cons_tail (by simpa using e)]
   have hkl:k∈l:=(List.mem_cons.1 hm).resolve_left fun h=>e h.symm
   refine⟨eF.take hk h1 hkl, ?_,h3,fun h=>h4 (List.mem_of_mem_erase h),ok,h5,h6,h7,h8,fun e' he hb=> ?_,fun x hx=>h10 x (List.mem_of_mem_erase hx)⟩
   ·rw[getD_set_ne true (fun h=>e h.symm)];exact h2
   ·rcases h9 e' he hb with h|h
    ·exact .inl (getD_set_true h)
    ·by_cases e2:e'.on=k
     ·rw[e2];exact .inl (qo hk)
     ·exact .inr ((List.mem_erase_of_ne e2).2 h)
theorem lU {k:Nat} {o:Oper} (h:ops[k]? =some o):oJ ops k=o.dst:=by simp[oJ,h]
theorem iP.put {a:Act} {c:Cx} (hd:jC ops=true) {d:Option Nat} {v:Value}: ∀{l:List (Nat×Value)},iP rd n P ops c a l->
  (∀m∈l.map (·.1),∃om,ops[m]? =some om/\(∀e,om.dst=some e->d≠some e)/\(∀e,d=some e->e∉om.looksAt ops))->iP rd n P ops c (a.put d v) l
 |[],_,_=>trivial
 |(k,u)::l,h,hh=>by
  obtain⟨h1,ok,h2,h3⟩:=h
  refine⟨iP.put hd h1 fun m hm=>hh m (List.mem_cons_of_mem _ hm),ok,h2,h3.congr ?_⟩
  obtain⟨om,g1,g2,g3⟩:=hh k List.mem_cons_self
  rw[h2]at g1
  cases g1
  rw[qc a l fun m hm e he=> ?_,execOp_put (ops:=ops) ok (ku hd k ok h2).2 _ _ _ g3]
  ·obtain⟨om,g4,g5,_⟩:=hh m (List.mem_cons_of_mem _ hm)
   exact g5 e (by rw[<-lU g4];exact he)
theorem Kz {a:Act} {c:Cx} (hd:jC ops=true) {lA:Array Bool} {log:List Nat} {k:Nat} {ok:Oper} (hok:ops[k]? =some ok) (hk:k∈Region.ready .any ops lA):
  ∀{l:List (Nat×Value)},eF ops lA log (l.map (·.1))->iP rd n P ops c a l->k∈l.map (·.1)->
   ∃v l',Aq rd n P c a ok v/\l'.map (·.1)=(l.map (·.1)).erase k/\iP rd n P ops c (a.put ok.dst v) l'/\dE ops (a.put ok.dst v) l'=dE ops a l
 |(m,u)::l,hs,hr,hm=>by
  obtain⟨s1,s2,s3,s4,om,s5,s6,s7,s8,s9,s10⟩:=hs
  obtain⟨r1,om',r2,r3⟩:=hr
  rw[s5]at r2
  cases r2
  by_cases e:m=k
  ·subst e
   rw[hok]at s5
   cases s5
   have hap: ∀x∈l.map (·.1),∃ox,ops[x]? =some ox/\ox.apart ops ok=true:=fun x hx=>by
    obtain⟨ox,g1,g2,g3⟩:=s10 x hx
    exact⟨ox,g1,g3 (IE hk (eF.un s1 x hx))⟩
   refine⟨u,l,r3.congr ?_,by simp,iP.put hd r1 fun x hx=> ?_, ?_⟩
   ·rw[<-wP a (ku hd m ok hok).2 l fun x hx e he=> ?_]
    ·obtain⟨ox,g1,g2⟩:=hap x hx
     exact(Oper.apart_spec g2).1 e (by rw[<-lU g1];exact he)
   ·obtain⟨ox,g1,g2⟩:=hap x hx
    obtain⟨h1,h2,h3⟩:=Oper.apart_spec g2
    exact⟨ox,g1,fun e he h=>h2 e he (by rw[h]),h3⟩
   ·rw[dE,lU hok]
    refine qc a l fun x hx e he h=> ?_
    obtain⟨ox,g1,g2⟩:=hap x hx
    exact(Oper.apart_spec g2).2.1 e (by rw[<-lU g1];exact he) h
  ·have hkl:k∈l.map (·.1):=(List.mem_cons.1 hm).resolve_left fun h=>e h.symm
   obtain⟨v,l',h1,h2,h3,h4⟩:=Kz hd hok hk s1 r1 hkl
   refine⟨v,(m,u)::l',h1, ?_,⟨h3,om,s5,by rw[h4];exact r3⟩,by rw[dE,dE,h4]⟩
   simp only[List.map_cons]
   rw[List.erase_cons_tail (by simpa using e),h2]
theorem sU {α:Type} {f:α->α->Bool} (hf: ∀x y,f x y=true->x=y): ∀(a b:List α),qw f a b=true->a=b
 |[],[],_=>rfl
 |[],_::_,h=>by simp[qw]at h
 |_::_,[],h=>by simp[qw]at h
 |x::l,y::m,h=>by
  simp only[qw,Bool.and_eq_true]at h
  rw[hf x y h.1,sU hf l m h.2]
theorem DI: ∀(t:Ty) (x y:t.den),NL t x y=true->x=y
 |.unit,(),(),_=>rfl
 |.bool,x,y,h=>by simpa [NL] using h
 |.int _,x,y,h=>by simpa [NL,aH] using h
 |.str,x,y,h=>by simpa [NL,cO] using h
 |.list t,x,y,h=>sU (DI t) x y h
 |.pair a b,x,y,h=>by
  simp only[NL,Bool.and_eq_true]at h
  exact Prod.ext (DI a _ _ h.1) (DI b _ _ h.2)
theorem ahN {t u:Ty} {x:t.den} {y:u.den} (h:(match iL t y with|some y=>NL t x y|none=>false)=true): ∃e:u=t,x=cast (congrArg Ty.den e) y:=by
 split at h
 ·rename_i z hz
  obtain⟨e,h2⟩:=jv hz
  exact⟨e,by rw[DI t _ _ h,h2]⟩
 ·cases h
theorem abd {a b:Option (Int×Int)} (h:Vh a b=true):a=b:=by
 cases a<;>cases b<;>simp_all [Vh,aH,Prod.ext_iff]
theorem gz {a b:Nat} (h:Nat.beq a b=true):a=b:=Nat.eq_of_beq_eq_true h
mutual
theorem afy: ∀(a b:aA),JX a b=true->a=b
 |.undef,b,h=>by cases b<;>simp[JX]at h<;>rfl
 |.val t x,b,h=>by
  cases b<;>simp only[JX,Bool.false_eq_true]at h
  obtain⟨e,h⟩:=ahN h
  subst e
  rw[h];rfl
 |.nils,b,h=>by cases b<;>simp[JX]at h<;>rfl
 |.nilp,b,h=>by cases b<;>simp[JX]at h<;>rfl
 |.nilfn,b,h=>by cases b<;>simp[JX]at h<;>rfl
 |.emp,b,h=>by cases b<;>simp[JX]at h<;>rfl
 |.tup l,b,h=>by
  cases b<;>simp only[JX,Bool.false_eq_true]at h
  rw[kJ l _ h]
 |.agg l,b,h=>by
  cases b<;>simp only[JX,Bool.false_eq_true]at h
  rw[kJ l _ h]
 |.cellp t x,b,h=>by
  cases b<;>simp only[JX,Bool.false_eq_true]at h
  obtain⟨e,h⟩:=ahN h
  subst e
  rw[h];rfl
 |.lst t x n,b,h=>by
  cases b<;>simp only[JX,Bool.false_eq_true,Bool.and_eq_true]at h
  obtain⟨h1,h2⟩:=h
  split at h2
  ·rename_i z hz
   obtain⟨e,h3⟩:=jv hz
   have h4:=DI (.list t) x z h2
   cases e
   simp only[beq_iff_eq]at h1
   rw[h4,h1,h3];rfl
  ·cases h2
 |.ptr i o,b,h=>by
  cases b<;>simp only[JX,Bool.false_eq_true,Bool.and_eq_true]at h
  rw[gz h.1,gz h.2]
 |.slc i v w,b,h=>by
  cases b<;>simp only[JX,Bool.false_eq_true,Bool.and_eq_true]at h
  rw[gz h.1,gz h.2.1,abd h.2.2]
 |.ep i v m o,b,h=>by
  cases b<;>simp only[JX,Bool.false_eq_true,Bool.and_eq_true]at h
  rw[gz h.1,gz h.2.1,gz h.2.2.1,gz h.2.2.2]
 |.fn f l,b,h=>by
  cases b<;>simp only[JX,Bool.false_eq_true,Bool.and_eq_true]at h
  rw[gz h.1,kJ l _ h.2]
 |.mfn f l,b,h=>by
  cases b<;>simp only[JX,Bool.false_eq_true,Bool.and_eq_true]at h
  rw[gz h.1,kJ l _ h.2]
 |.mpv i,b,h=>by
  cases b<;>simp only[JX,Bool.false_eq_true]at h
  rw[gz h]
 |.yld i,b,h=>by
  cases b<;>simp only[JX,Bool.false_eq_true]at h
  rw[gz h]
 |.slf i,b,h=>by
  cases b<;>simp only[JX,Bool.false_eq_true]at h
  rw[gz h]
 |.sd i v,b,h=>by
  cases b<;>simp only[JX,Bool.false_eq_true,Bool.and_eq_true]at h
  rw[gz h.1,gz h.2]
theorem kJ: ∀(a b:List aA),zW a b=true->a=b
 |[],[],_=>rfl
 |[],_::_,h=>by simp[zW]at h
 |_::_,[],h=>by simp[zW]at h
 |a::l,b::m,h=>by
  simp only[zW,Bool.and_eq_true]at h
  rw[afy a b h.1,kJ l m h.2]
end
theorem jG: ∀(B:List Nat) (fr:List aA),(kS ops B fr).length=fr.length
 |[],_=>rfl
 |i::B,fr=>by
  simp only[kS]
  split
  ·rw[List.length_set];exact jG B fr
  ·exact jG B fr
theorem Td {k d:Nat} {B:List Nat} {fr:List aA} (h:oJ ops k=some d):kS ops (k::B) fr=(kS ops B fr).set d .undef:=by
 have h':(ops[k]?).bind (·.dst)=some d:=h
 simp only[kS,h']
theorem Sj {k:Nat} {B:List Nat} {fr:List aA} (h:oJ ops k=none):kS ops (k::B) fr=kS ops B fr:=by
 have h':(ops[k]?).bind (·.dst)=none:=h
 simp only[kS,h']
theorem KA: ∀(B:List Nat) (fr:List aA) (i:Nat) (h:i<fr.length) (h':i<(kS ops B fr).length),(kS ops B fr)[i]=.undef\/((kS ops B fr)[i]=fr[i]/\ ∀k∈B,oJ ops k≠some i)
 |[],fr,i,h,h'=>.inr ⟨rfl,fun k hk=>by cases hk⟩
 |k::B,fr,i,h,h'=>by
  have hl:=jG (ops:=ops) B fr
  have ih:=KA B fr i h (by rw[hl];exact h)
  cases hd:oJ ops k with
  |some d=>
   simp only[Td hd]
   by_cases e:d=i
   ·subst e
    exact .inl (by simp)
   ·rw[List.getElem_set_ne e]
    refine ih.imp (fun h=>h) fun h=>⟨h.1,fun m hm=> ?_⟩
    rcases List.mem_cons.1 hm with e2|hm
    ·rw[e2,hd];intro h3;cases h3;exact e rfl
    ·exact h.2 m hm
  |none=>
   simp only[Sj hd]
   refine ih.imp (fun h=>h) fun h=>⟨h.1,fun m hm=> ?_⟩
   rcases List.mem_cons.1 hm with e2|hm
   ·rw[e2,hd];intro h3;cases h3
   ·exact h.2 m hm
theorem ak9 (X:Act) (d:Option Nat) (v:Value) (i:Nat) (hne:d≠some i) (h:i<(X.put d v).tmps.size) (h':i<X.tmps.size):(X.put d v).tmps[i]=X.tmps[i]:=by
 cases d with
 |none=>rfl
 |some d=>
  simp only[Act.put]
  exact Array.getElem_setIfInBounds_ne h' (fun e=>hne (by rw[e]))
theorem KH (a:Act) (i:Nat): ∀(l:List (Nat×Value)),(∀k∈l.map (·.1),oJ ops k≠some i)-> ∀(h:i<(dE ops a l).tmps.size) (h':i<a.tmps.size),(dE ops a l).tmps[i]=a.tmps[i]
 |[],_,h,h'=>rfl
 |(k,v)::l,hk,h,h'=>by
  have h2:i<(dE ops a l).tmps.size:=by rw[lC];exact h'
  rw[<-KH a i l (fun m hm=>hk m (List.mem_cons_of_mem _ hm)) h2 h']
  exact ak9 _ _ _ _ (hk k List.mem_cons_self) h h2
theorem acS {c:Cx} {fr:List aA} {l:List (Nat×Value)} {B:List Nat} (h:aj c fr (dE ops a l).tmps.toList) (hB: ∀k∈l.map (·.1),k∈B):aj c (kS ops B fr) a.tmps.toList:=by
 have hlen:=aj.length _ _ h
 rw[Array.length_toList (xs:=(dE ops a l).tmps),lC]at hlen
 refine aj.mk _ _ (by rw[jG,hlen,Array.length_toList]) fun i h1 h2=> ?_
 rw[jG]at h1
 have h2:i<a.tmps.size:=by simpa using h2
 rcases KA (ops:=ops) B fr i h1 (by rw[jG];exact h1)with e|⟨e,hk⟩
 ·rw[e];simp[aF]
 ·rw[e]
  have:=aj.get _ _ h i h1 (by rw[Array.length_toList,lC];exact h2)
  simp only[Array.getElem_toList]at this ⊢
  rw[KH a i l (fun k hk'=>hk k (hB k hk')) (by rw[lC];exact h2) h2]at this
  exact this
theorem Ey {o:Oper} (h:iw o.op=true): ∀cs b,o.op≠ .select cs b:=fun cs b e=>by rw[e]at h;simp[iw]at h
theorem acB {op:Op} (h:dZ op=true):iw op=true:=by
 cases op<;>first|exact h|skip
 rename_i cc
 obtain⟨callee,args,ts⟩:=cc
 cases callee with
 |builtin b=>cases b<;>first|exact h|(simp[dZ]at h)
 |value v=>rfl
 |invoke x m=>simp[dZ]at h
def agA (T:TT) (cl:Bool) {R:Type} (call:dI R) (ops:Array Oper) (old:List aA) (st:St) (k:Nat):Prop:=
 ∃ok,ops[k]? =some ok/\((dZ ok.op=true/\ ∃(r:R) (K:St->Option R),(bK T cl call ok st fun z s=>bif sameAt ok.dst z st then K s else none)=some r)\/
  (dZ ok.op=false/\ig ok old=ig ok st.fr/\rZ ok.dst old=rZ ok.dst st.fr))
theorem uD {R:Type} {r:R} (hT:TOk P T) {call:dI R} {old:List aA} {K:St->Option R} (hr:fH W0 b0 rd c st a ats): ∀(B:List Nat),
  ru T cl call ops old B st K=some r->K st=some r/\ ∀k∈B,agA T cl call ops old st k
 |[],h=>⟨h,fun k hk=>by cases hk⟩
 |k::B,h=>by
  simp only[ru]at h
  split at h
  ·rename_i ok h1
   cases hq:dZ ok.op with
   |true=>
    rw[hq]at h
    simp only[cond_true]at h
    have h0:=h
    obtain⟨z,u,g1,g2,g3⟩:=ul hT hr.ok hq hr.hp hr.fr h
    replace g1:=aP g1
    obtain⟨g4,g5⟩:=uD hT hr B g1.2
    refine⟨g4,fun m hm=> ?_⟩
    rcases List.mem_cons.1 hm with e|hm
    ·exact⟨ok,by rw[e];exact h1,.inl ⟨hq,r,fun _=>ru T cl call ops old B st K,h0⟩⟩
    ·exact g5 m hm
   |false=>
    rw[hq]at h
    simp only[cond_false]at h
    replace h:=aP h
    obtain⟨h2,h⟩:=h
    simp only[Bool.and_eq_true]at h2
    obtain⟨g4,g5⟩:=uD hT hr B h
    refine⟨g4,fun m hm=> ?_⟩
    rcases List.mem_cons.1 hm with e|hm
    ·exact⟨ok,by rw[e];exact h1,.inr ⟨hq,kJ _ _ h2.1,kJ _ _ h2.2⟩⟩
    ·exact g5 m hm
  ·cases h
theorem nT.same {o:Oper} {fr fr':List aA} {z:aA} (h:nT sg cl o fr z) (h1:ig o fr=ig o fr') (h2:rZ o.dst fr=rZ o.dst fr'):nT sg cl o fr' z:=by
 obtain⟨a1,a2,a3,a4,fv,args,a5,a6⟩:=h
 refine⟨a1,a2,a3,fun d hd=> ?_,fv,args,by rw[<-h1];exact a5,a6⟩
 rw[a4 d hd]
 simp only[rZ,hd,List.cons.injEq,and_true]at h2
 exact h2
theorem RH {d:Nat} {z:aA} (h:z=st.fr.getD d .undef):st.put (some d) z=st:=by
 obtain⟨fr,stk,hp,nxt⟩:=st
 simp only[St.put]
 have:fr.set d z=fr:=by
  subst h
  apply List.ext_getElem
  ·simp
  ·intro i h1 h2
   rw[List.getElem_set]
   split
   ·rename_i e
    subst e
    simp[List.getD,h2]
   ·rfl
 rw[this]
theorem ajP (X:Act) (d:Option Nat) (v u:Value):(X.put d v).put d u=X.put d u:=by
 cases d with
 |none=>rfl
 |some d=>simp[Act.put]
theorem ML (hT:TOk P T) (hd:jC ops=true) (hsq:jM (R:=Unit) P (yX sg cl)) {R:Type} {call:dI R} {old:List aA} {lA:Array Bool} {log:List Nat}: ∀(l q:List (Nat×Value)),eF ops lA log (l.map (·.1))->fH W0 b0 rd c st (dE ops (dE ops a l) q) ats->
  (∀k∈l.map (·.1),agA T cl call ops old st k)->Eb sg cl ops st.fr (l.map (·.1))->(∀m∈q.map (·.1),∃om,ops[m]? =some om/\ ∀k∈l.map (·.1),∃ok,ops[k]? =some ok/\aeC ops ok om)->
  ∃l',l'.map (·.1)=l.map (·.1)/\fH W0 b0 rd c st (dE ops (dE ops a l') q) ats/\iP rd n P ops c a l'
 |[],q,_,hr,_,_,_=>⟨[],rfl,hr,trivial⟩
 |(k,v)::l,q,hs,hr,hA,hF,hq=>by
  obtain⟨s1,s2,s3,s4,ok,s5,s6,s7,s8,s9,s10⟩:=hs
  have hq2: ∀m∈(q++[(k,v)]).map (·.1),∃om,ops[m]? =some om/\ ∀x∈l.map (·.1),∃ox,ops[x]? =some ox/\aeC ops ox om:=fun m hm=>by
   rw[List.map_append,List.mem_append]at hm
   rcases hm with hm|hm
   ·obtain⟨om,h1,h2⟩:=hq m hm
    exact⟨om,h1,fun x hx=>h2 x (List.mem_cons_of_mem _ hx)⟩
   ·simp only[List.map_cons,List.map_nil,List.mem_singleton]at hm
    subst hm
    refine⟨ok,s5,fun x hx=> ?_⟩
    obtain⟨ox,h1,h2,_⟩:=s10 x hx
    exact⟨ox,h1,h2⟩
  obtain⟨l',e1,hr2,hrun⟩:=ML hT hd hsq l (q++[(k,v)]) s1 (by rw[sF];exact hr) (fun m hm=>hA m (List.mem_cons_of_mem _ hm)) (fun m hm=>hF m (List.mem_cons_of_mem _ hm)) hq2
  rw[sF]at hr2
  have hX:dE ops (dE ops a l') [(k,v)]=(dE ops a l').put (oJ ops k) v:=rfl
  rw[hX]at hr2
  have hdk:=lU s5
  have hsee:execOp (dE ops ((dE ops a l').put (oJ ops k) v) q).eval ok=execOp (dE ops a l').eval ok:=by
   rw[wP _ (Ey s6) q fun m hm e he=> ?_,execOp_put (ops:=ops) ok (Ey s6) _ _ _ (by rw[hdk];exact s8)]
   obtain⟨om,h1,h2⟩:=hq m hm
   obtain⟨ok',h3,h4⟩:=h2 k List.mem_cons_self
   rw[s5]at h3
   cases h3
   exact(h4 e (by rw[<-lU h1];exact he)).1
  have hcomm: ∀u,dE ops ((dE ops a l').put (oJ ops k) u) q=(dE ops (dE ops a l') q).put (oJ ops k) u:=fun u=>qc _ q fun m hm e he h=>by
   obtain⟨om,h1,h2⟩:=hq m hm
   obtain⟨ok',h3,h4⟩:=h2 k List.mem_cons_self
   rw[s5]at h3
   cases h3
   exact(h4 e (by rw[<-lU h1];exact he)).2 (by rw[<-hdk];exact h)
  have fin: ∀(z:aA) (u:Value),aF c z u->st.put ok.dst z=st->Aq rd n P c (dE ops ((dE ops a l').put (oJ ops k) v) q) ok u->
    ∃l2,l2.map (·.1)=((k,v)::l).map (·.1)/\fH W0 b0 rd c st (dE ops (dE ops a l2) q) ats/\iP rd n P ops c a l2:=fun z u g2 hself g3=>by
   refine⟨(k,u)::l',by simp[e1], ?_,hrun,ok,s5,g3.congr hsee.symm⟩
   have:=hr2.put (dst:=ok.dst) g2
   rw[hself,hcomm v,hdk,ajP,<-hdk,<-hcomm u]at this
   exact this
  obtain⟨ok',a1,a2⟩:=hA k List.mem_cons_self
  rw[s5]at a1
  cases a1
  rcases a2 with ⟨b1,r,K,a3⟩|⟨b1,_,_⟩
  ·obtain⟨z,u,g1,g2,g3⟩:=ul hT hr2.ok b1 hr2.hp hr2.fr a3
   rw[cond_eq_ite]at g1
   split at g1
   ·rename_i hz
    refine fin z u g2 ?_ (.of_run g3)
    cases hdst:ok.dst with
    |none=>rfl
    |some d=>
     rw[hdst]at hz
     exact RH (afy _ _ hz)
   ·cases g1
  ·obtain⟨z,hz⟩:=hF k List.mem_cons_self ok s5 b1
   obtain⟨g2,g3⟩:=GV (n:=n) hT hsq hz rfl hr2
   refine fin z _ g2 ?_ g3
   cases hdst:ok.dst with
   |none=>rfl
   |some d=>exact RH (hz.2.2.2.1 d hdst)
theorem yN (hT:TOk P T) (hd:jC ops=true) (hsq:jM (R:=Unit) P (yX sg cl)) {R:Type} {r:R} {call:dI R} (hcall:jA P W0 n call) {lA:Array Bool} {log:List Nat} {l:List (Nat×Value)} {j:Nat} {K:St->Option R}
  (hF:Eb sg cl ops st.fr (l.map (·.1))) (hj:j∈Region.ready .any ops lA) (hs:eF ops lA log (l.map (·.1))) (hjl:j∉l.map (·.1)) (hr:fH W0 b0 rd c st (dE ops a l) ats)
  (h:nR T cl call ops j log st K=some r) {next:Act->World->Prop} {Q:Exit->Act->World->Prop}
  (hn: ∀c' st' a' l',K st'=some r->l'.map (·.1)=l.map (·.1)->fH W0 b0 rd c' st' (dE ops a' l') ats->iP rd n P ops c' a' l'->Eb sg cl ops st'.fr (l.map (·.1))->c.Mono c'->next a' c'.w):wpOpIn (FW rd) n P ops Q j next a c.w:=by
 unfold nR at h
 split at h
 ·rename_i oj hoj
  replace h:=aP h
  obtain⟨hg,h⟩:=h
  simp only[Bool.and_eq_true]at hg
  have hguard:oj.guard=none:=by simpa using hg.1
  unfold wpOpIn
  simp only[hoj]
  rw[if_pos (by simp[Region.wanted,hguard])]
  have hB: ∀k∈l.map (·.1),k∈log.filter fun i=> !ni ops j i:=fun k hk=>List.mem_filter.2 ⟨eF.log hs k hk,by rw[IE hj (eF.un hs k hk)];rfl⟩
  have hap: ∀k∈l.map (·.1),∃ok,ops[k]? =some ok/\ok.apart ops oj=true:=fun k hk=>by
   have h2:=hg.2
   unfold agn at h2
   rw[hoj]at h2
   have h3:=List.all_eq_true.1 h2 k (eF.log hs k hk)
   split at h3
   ·rename_i ok hok
    simp only[Bool.or_eq_true]at h3
    refine⟨ok,hok,h3.resolve_left ?_⟩
    rw[IE hj (eF.un hs k hk)];simp
   ·cases h3
  have hrun:fH W0 b0 rd c {st with fr:=kS ops (log.filter fun i=> !ni ops j i) st.fr,stk:=st.fr::st.stk} a ((dE ops a l).tmps::ats):=
   ⟨hr.hp,hr.nxt,hr.ok,acS hr.fr hB,⟨hr.fr,hr.stk⟩,by have:=hr.df;rwa [rY]at this,hr.rd⟩
  refine IM hT hcall h hrun fun c' z u st1 k1 k2 k3 k4=> ?_
  split at k1
  ·rename_i fr stk hst
   have hstk:=k2.stk
   rw[hst]at hstk
   simp only[wB]at hstk
   have hr1:fH W0 b0 rd c' {st1 with fr:=fr,stk:=stk} (dE ops a l) ats:=
    ⟨k2.hp,k2.nxt,k2.ok,hstk.1,hstk.2,by rw[rY];exact k2.df,k2.rd⟩
   have hr2:=hr1.put (dst:=oj.dst) k3
   have hcm:(dE ops a l).put oj.dst u=dE ops (a.put oj.dst u) l:=(qc a l fun m hm e he hh=>by
    obtain⟨om,h1,h2⟩:=hap m hm
    exact(Oper.apart_spec h2).2.1 e (by rw[<-lU h1];exact he) hh).symm
   rw[hcm]at hr2
   obtain⟨g1,g2⟩:=uD hT hr2 _ k1
   have hA: ∀k∈l.map (·.1),agA T cl call ops st.fr _ k:=fun k hk=>g2 k (List.mem_reverse.2 (hB k hk))
   have hF2:Eb sg cl ops _ (l.map (·.1)):=fun k hk ok hok hq=>by
    obtain⟨z,hz⟩:=hF k hk ok hok hq
    obtain⟨ok',b1,b2⟩:=hA k hk
    rw[hok]at b1
    cases b1
    rcases b2 with ⟨b3,_⟩|⟨_,b4,b5⟩
    ·rw[hq]at b3;cases b3
    ·exact⟨z,hz.same b4 b5⟩
   obtain⟨l',e1,e2,e3⟩:=ML (n:=n) hT hd hsq l [] hs hr2 hA hF2 (fun m hm=>by cases hm)
   exact hn c' _ _ l' g1 e1 e2 e3 hF2 k4
  ·cases k1
 ·cases h
def UY (h:dN):Prop:= ∀id f fr ps asg bd k n p,aX h id=some (.lp f fr ps asg bd (some k) n p)->og f k=some (asg,bd)
theorem fH.tidy {c:Cx} {st:St} {a:Act} (cl:Bool) (hr:fH W0 b0 rd c st a ats): ∃c',fH W0 b0 rd c' (tidy cl st) a ats/\c.Mono c'/\c'.w=c.w:=by
 cases cl with
 |true=>exact⟨c,hr,Cx.Mono.refl c,rfl⟩
 |false=>
  have hg: ∀i,aX (jE c.hp) i=aX c.hp i:=fun i=>uZ i _
  have hself: ∀(o:aW) (l:Loc),o.like l o l:=fun o l=>by
   cases o<;>simp[aW.like]
  have hle:c.Le {c with hp:=jE c.hp}:=by
   refine⟨fun b hb=>⟨⟨hb.1,fun⟨j,o,h1,h2⟩=>hb.2.1 ⟨j,o,by rw[<-hg];exact h1,h2⟩,hb.2.2⟩,rfl⟩,fun id hk=> ?_,fun id o' _ h=>⟨o',by rw[<-hg];exact h,hself _ _⟩,fun _ h=>h,fun b L h=>⟨L,h⟩,Nat.le_refl _,rfl⟩
   rcases hk with ⟨o,h⟩|h
   ·exact .inl ⟨o,by show aX (jE c.hp) id=some o;rw[hg];exact h⟩
   ·exact .inr h
  have hok:({c with hp:=jE c.hp}:Cx).Ok W0:=by
   refine⟨hr.ok.bel,fun id o h=> ?_,fun i j o p b h1 h2=>hr.ok.inj i j o p b (by rw[<-hg];exact h1) (by rw[<-hg];exact h2),hr.ok.mks,fun b hb=>(hle.out b (hr.ok.bar b hb)).1,hr.ok.phi⟩
   exact(hr.ok.obj id o (by rw[<-hg];exact h)).le hle rfl fun b _=>rfl
  exact⟨{c with hp:=jE c.hp},⟨by show jE c.hp=jE st.hp;rw[hr.hp],hr.nxt,hok,aj.le hle _ _ hr.fr,wB.le hle _ _ hr.stk,hr.df,hr.rd⟩,hle.mono,rfl⟩
theorem fH.wf {c:Cx} {st:St} {a:Act} (hr:fH W0 b0 rd c st a ats):UY st.hp:=fun id f fr ps asg bd k n p h=>by
 rw[<-hr.hp]at h
 exact(hr.ok.obj id _ h).1 k rfl
def WfO:aW->Prop
 |.lp f _ _ asg bd (some k) _ _=>og f k=some (asg,bd)
 |_=>True
theorem Dw: ∀(h:dN),nG h=true->UY h-> ∀e∈h,WfO e.2
 |[],_,_,e,he=>by simp at he
 |(k,o)::h,hn,hw,e,he=>by
  simp only[nG,Bool.and_eq_true,Bool.not_eq_true']at hn
  rcases List.mem_cons.1 he with rfl|he
  ·cases o with
   |lp f fr ps asg bd ky n p=>
    cases ky with
    |none=>trivial
    |some q=>exact hw k f fr ps asg bd q n p (by simp[bH])
   |_=>trivial
  ·refine Dw h hn.2 (fun id f fr ps asg bd q n p hg=>hw id f fr ps asg bd q n p ?_) e he
   rw[bH]
   by_cases hk:k=id
   ·subst hk
    have:=tZ _ _ _ hg
    have hany:=hn.1
    rw[List.any_eq_false]at hany
    exact absurd (by simp:Nat.beq k k=true) (hany _ this)
   ·rw[if_neg hk];exact hg
theorem ai7 {a b:Ex} (h:aln a b=true):a=b:=by
 cases a<;>cases b<;>simp only[aln,Bool.false_eq_true]at h<;>first|rfl|rw[gz h]
theorem agl {a b:Option Ex} (h:aek a b=true):a=b:=by
 cases a<;>cases b<;>simp only[aek,Bool.false_eq_true]at h
 ·rfl
 ·rw[ai7 h]
theorem agz {old:dN} {i:Nat} {a b x:aW} (hw:UY old) (hb:WfO b) (he:eqO a b=true) (h:Jh old i a=some x):x=b:=by
 cases a with
 |box t l=>
  cases b<;>simp only[eqO,Bool.false_eq_true,Bool.and_eq_true]at he
  cases h
  rw[gz he.1,kJ _ _ he.2]
 |arr t v y=>
  cases b<;>simp only[eqO,Bool.false_eq_true,Bool.and_eq_true]at he
  cases h
  obtain⟨h1,h2⟩:=he
  split at h2
  ·rename_i z hz
   obtain⟨e,h3⟩:=jv hz
   have h4:=DI (.list t) y z h2
   cases e
   rw[h4,gz h1,h3];rfl
  ·cases h2
 |dead=>
  cases b<;>simp only[eqO,Bool.false_eq_true]at he
  cases h
  rfl
 |mp k v l=>
  cases b<;>simp only[eqO,Bool.false_eq_true,Bool.and_eq_true,decide_eq_true_eq]at he
  obtain⟨rfl,rfl,rfl⟩:=he
  cases h
  rfl
 |lp f fr ps asg bd ky n p=>
  cases b<;>simp only[eqO,Bool.false_eq_true,Bool.and_eq_true]at he
  rename_i g fs qs asg' bd' kz m q
  obtain⟨h1,h2,h3,h4,h5,h6⟩:=he
  split at h4
  ·rename_i k k'
   have e1:=gz h1
   have e4:=gz h4
   subst e1 e4
   simp only[Jh]at h
   split at h
   ·rename_i hg
    replace h:=aP h
    obtain⟨h7,h⟩:=h
    simp only[Bool.and_eq_true]at h7
    rename_i g2 _ _ asg2 bd2 k2 _ _
    have e5:=gz h7.1
    have e6:=gz h7.2
    subst e5 e6
    have w1:=hw _ _ _ _ _ _ _ _ _ hg
    simp only[WfO]at hb
    rw[w1]at hb
    cases hb
    cases h
    rw[kJ _ _ h2,sU (fun _ _=>gz) _ _ h3,gz h5,agl h6]
   ·cases h
  ·cases h4
theorem GX {old:dN} (hw:UY old): ∀(a b x:dN),(∀e∈b,WfO e.2)->eqH a b=true->Hu old a=some x->x=b
 |[],b,x,_,he,h=>by
  cases b with
  |nil=>cases h;rfl
  |cons _ _=>simp[eqH]at he
 |(i,o)::a,b,x,hb,he,h=>by
  cases b with
  |nil=>simp[eqH]at he
  |cons e b=>
   obtain⟨j,o'⟩:=e
   simp only[eqH,Bool.and_eq_true]at he
   simp only[Hu]at h
   split at h
   ·rename_i y hy
    split at h
    ·rename_i z hz
     cases h
     rw[agz hw (hb _ List.mem_cons_self) he.2.1 hy,GX hw a b z (fun e he=>hb e (List.mem_cons_of_mem _ he)) he.2.2 hz,gz he.1]
    ·cases h
   ·cases h
theorem aaC {old:dN} {a b m:St} (h:settle old a=some m) (hw:UY old) (h2:ahK a b=true) (hn:nG b.hp=true) (hb:UY b.hp):m=b:=by
 unfold settle at h
 split at h
 ·rename_i hp hh
  cases h
  unfold ahK at h2
  simp only[Bool.and_eq_true]at h2
  obtain⟨e1,e2,e3,e4⟩:=h2
  have e5:=GX hw _ _ _ (Dw _ hn hb) e3 hh
  obtain⟨f1,s1,p1,n1⟩:=a
  obtain⟨f2,s2,p2,n2⟩:=b
  simp only at e1 e2 e4 e5
  rw[kJ _ _ e1,sU kJ _ _ e2,gz e4,e5]
 ·cases h
theorem Xf {old:dN} {i:Nat} {a x:aW} (hw:UY old) (ha:WfO a) (h:Jh old i a=some x):x=a:=by
 cases a with
 |lp f fr ps asg bd ky n p=>
  cases ky with
  |none=>simp[Jh]at h
  |some k=>
   simp only[Jh]at h
   split at h
   ·rename_i hg
    replace h:=aP h
    obtain⟨h7,h⟩:=h
    simp only[Bool.and_eq_true]at h7
    have e5:=gz h7.1
    have e6:=gz h7.2
    subst e5 e6
    have w1:=hw _ _ _ _ _ _ _ _ _ hg
    simp only[WfO]at ha
    rw[w1]at ha
    cases ha
    cases h
    rfl
   ·cases h
 |_=>simp only[Jh,Option.some.injEq]at h;exact h.symm
theorem I4 {old:dN} (hw:UY old): ∀(a x:dN),(∀e∈a,WfO e.2)->Hu old a=some x->x=a
 |[],x,_,h=>by cases h;rfl
 |(i,o)::a,x,ha,h=>by
  simp only[Hu]at h
  split at h
  ·rename_i y hy
   split at h
   ·rename_i z hz
    cases h
    rw[Xf hw (ha _ List.mem_cons_self) hy,I4 hw a z (fun e he=>ha e (List.mem_cons_of_mem _ he)) hz]
   ·cases h
  ·cases h
theorem TJ {old:dN} {a m:St} (h:settle old a=some m) (hw:UY old) (hn:nG a.hp=true) (ha:UY a.hp):m=a:=by
 unfold settle at h
 split at h
 ·rename_i hp hh
  cases h
  rw[I4 hw _ _ (Dw _ hn ha) hh]
 ·cases h
theorem Tq {old:dN} {L:List (Option St)} {m:St} (h:Hg old L=some m) (hw:UY old): ∀x∈L,∃b,x=some b/\(UY b.hp->m=b):=by
 unfold Hg at h
 split at h
 ·rename_i a l
  replace h:=aP h
  obtain⟨h1,h⟩:=h
  split at h
  ·rename_i hp hh
   cases h
   intro x hx
   have h2:=List.all_eq_true.1 h1 x hx
   cases x with
   |none=>simp at h2
   |some b=>
    simp only[Bool.and_eq_true]at h2
    refine⟨b,rfl,fun hb=> ?_⟩
    obtain⟨h2,hn⟩:=h2
    unfold ahK at h2
    simp only[Bool.and_eq_true]at h2
    obtain⟨e1,e2,e3,e4⟩:=h2
    have e5:=GX hw _ _ _ (Dw _ hn hb) e3 hh
    obtain⟨f1,s1,p1,n1⟩:=a
    obtain⟨f2,s2,p2,n2⟩:=b
    simp only at e1 e2 e4 e5 ⊢
    rw[kJ _ _ e1,sU kJ _ _ e2,gz e4,e5]
  ·cases h
 ·cases h
def Ub (ops:Array Oper) (lA:Array Bool):Nat:=((List.range ops.size).filter fun i=> !lA.getD i true).length
theorem filter_lt {α:Type} {p q:α->Bool}: ∀(l:List α),(∀x∈l,q x=true->p x=true)->(∃x∈l,p x=true/\q x=false)->(l.filter q).length<(l.filter p).length
 |[],_,h=>by obtain⟨x,hx,_⟩:=h;cases hx
 |y::l,h,hx=>by
  have hle:(l.filter q).length<=(l.filter p).length:=by
   clear hx
   induction l with
   |nil=>simp
   |cons z l ih=>
    have ih:=ih fun x hx=>h x (by rcases List.mem_cons.1 hx with e|hx;exact e▸List.mem_cons_self;exact List.mem_cons_of_mem _ (List.mem_cons_of_mem _ hx))
    simp only[List.filter_cons]
    cases hq:q z with
    |true=>rw[h z (List.mem_cons_of_mem _ List.mem_cons_self) hq];simpa using ih
    |false=>cases p z<;>simp<;>omega
  obtain⟨x,hx,h1,h2⟩:=hx
  simp only[List.filter_cons]
  rcases List.mem_cons.1 hx with e|hx
  ·subst e
   rw[h1,h2]
   simp
   omega
  ·have ih:=filter_lt l (fun x hx=>h x (List.mem_cons_of_mem _ hx)) ⟨x,hx,h1,h2⟩
   cases hq:q y with
   |true=>rw[h y List.mem_cons_self hq];simpa using ih
   |false=>cases p y<;>simp<;>omega
theorem CW {lA:Array Bool} {j:Nat} (hs:lA.size=ops.size) (hj:j∈Region.ready .any ops lA):Ub ops (lA.setIfInBounds j true)<Ub ops lA:=by
 obtain⟨h1,oj,h2,_⟩:=mem_ready.1 hj
 have hlt:j<ops.size:=(Array.getElem?_eq_some_iff.1 h2).1
 refine filter_lt _ (fun x hx h=> ?_) ⟨j,List.mem_range.2 hlt,by rw[h1];rfl, ?_⟩
 ·by_cases e:j=x
  ·subst e;rw[h1];rfl
  ·rwa [getD_set_ne true e]at h
 ·have:j<lA.size:=by omega
  simp[this]
theorem acl {lA:Array Bool} (h:Ub ops lA=0):Region.ready .any ops lA=[]:=by
 unfold Ub at h
 have h:=List.length_eq_zero_iff.1 h
 cases hr:Region.ready .any ops lA with
 |nil=>rfl
 |cons j rs=>
  obtain⟨h1,oj,h2,_⟩:=mem_ready.1 (show j∈Region.ready .any ops lA by rw[hr];simp)
  have hlt:j<ops.size:=(Array.getElem?_eq_some_iff.1 h2).1
  have:j∈(List.range ops.size).filter fun i=> !lA.getD i true:=List.mem_filter.2 ⟨List.mem_range.2 hlt,by rw[h1];rfl⟩
  rw[h]at this
  cases this
theorem eF.oldest {lA:Array Bool} {log:List Nat}: ∀{l:List Nat},eF ops lA log l->l≠[]-> ∃k∈l,k∈Region.ready .any ops lA
 |[],_,h=>absurd rfl h
 |[k],h,_=>by
  obtain⟨_,h2,_,_,ok,h5,_,_,_,h9,_⟩:=h
  exact⟨k,List.mem_cons_self,mem_ready.2 ⟨h2,ok,h5,fun e he hb=>(h9 e he hb).resolve_right (by simp)⟩⟩
 |k::m::l,h,_=>by
  obtain⟨x,hx,hr⟩:=eF.oldest h.1 (by simp)
  exact⟨x,List.mem_cons_of_mem _ hx,hr⟩
structure Lag (n:Nat) (sg:FuncId->Option Sum) (cl:Bool) (P:Program) (W0:World) (b0:Nat) (rd:Option Nat) (ats:List (Array Value)) (ops:Array Oper) (c:Cx) (st:St) (lE:Array Bool) (log:List Nat) (a:Act) (lA:Array Bool) (l:List (Nat×Value)):Prop where
 rel:fH W0 b0 rd c st (dE ops a l) ats
 pst:eF ops lA log (l.map (·.1))
 run:iP rd n P ops c a l
 sA:lA.size=ops.size
 sE:lE.size=ops.size
 sub: ∀j,lA.getD j false=true->lE.getD j false=true
 cov: ∀j,lE.getD j false=true->lA.getD j false=true\/j∈l.map (·.1)
 hE: ∀k∈l.map (·.1),lE.getD k false=true
 fit:Eb sg cl ops st.fr (l.map (·.1))
theorem Q5 {l:Array Bool} {j:Nat} (h:j<l.size):l.getD j true=l.getD j false:=by simp[h]
theorem Lag.ready {lE:Array Bool} {log:List Nat} {lA:Array Bool} {l:List (Nat×Value)} (h:Lag n sg cl P W0 b0 rd ats ops c st lE log a lA l) {j:Nat} (hj:j∈Region.ready .any ops lA) (hjl:j∉l.map (·.1)):j∈Region.ready .any ops lE:=by
 obtain⟨h1,oj,h2,h3⟩:=mem_ready.1 hj
 have hlt:j<ops.size:=(Array.getElem?_eq_some_iff.1 h2).1
 refine mem_ready.2 ⟨?_,oj,h2,fun e he hb=>h.sub _ (h3 e he hb)⟩
 cases hg:lE.getD j true with
 |false=>rfl
 |true=>
  rw[Q5 (by rw[h.sE];exact hlt)]at hg
  rcases h.cov j hg with h4|h4
  ·exact(pI h4 h1).elim
  ·exact absurd h4 hjl
theorem FX (hd:jC ops=true) {lE:Array Bool} {log:List Nat} {Q:Act->World->Prop}
  (hfin:Region.ready .any ops lE=[]-> ∀w,y7 c w-> ∀a,fH W0 b0 rd (c.at_ w) st a ats->Q a w)
  (hstep: ∀(w:World),y7 c w-> ∀(fA:Nat) (a:Act) (lA:Array Bool) (l:List (Nat×Value)) (j:Nat),Lag n sg cl P W0 b0 rd ats ops (c.at_ w) st lE log a lA l->Ub ops lA<=fA+1->j∈Region.ready .any ops lA->j∉l.map (·.1)->j∈Region.ready .any ops lE->
   wpOpIn (FW rd) n P ops (fun e a w=>e=.normal/\Q a w) j (wpAnyIn (FW rd) n P .any ops (fun e a w=>e=.normal/\Q a w) fA (lA.setIfInBounds j true)) a w):
  ∀(m fA:Nat) (w:World),y7 c w-> ∀(a:Act) (lA:Array Bool) (l:List (Nat×Value)),l.length=m->Lag n sg cl P W0 b0 rd ats ops (c.at_ w) st lE log a lA l->Ub ops lA<=fA->
   wpAnyIn (FW rd) n P .any ops (fun e a w=>e=.normal/\Q a w) fA lA a w:=by
 have done: ∀(w:World),y7 c w-> ∀(a:Act) (lA:Array Bool) (l:List (Nat×Value)),Lag n sg cl P W0 b0 rd ats ops (c.at_ w) st lE log a lA l->Region.ready .any ops lA=[]->Q a w:=fun w hw a lA l h hr=>by
  have hl:l=[]:=by
   cases l with
   |nil=>rfl
   |cons x l=>
    obtain⟨k,_,hk⟩:=eF.oldest h.pst (by simp)
    rw[hr]at hk
    cases hk
  subst hl
  refine hfin ?_ w hw a h.rel
  cases hrE:Region.ready .any ops lE with
  |nil=>rfl
  |cons j rs=>
   obtain⟨h1,oj,h2,h3⟩:=mem_ready.1 (show j∈Region.ready .any ops lE by rw[hrE];simp)
   have hlt:j<ops.size:=(Array.getElem?_eq_some_iff.1 h2).1
   have:j∈Region.ready .any ops lA:=mem_ready.2 ⟨by
    cases hg:lA.getD j true with
    |false=>rfl
    |true=>
     rw[Q5 (by rw[h.sA];exact hlt)]at hg
     exact(pI (h.sub j hg) h1).elim,oj,h2,fun e he hb=>(h.cov _ (h3 e he hb)).resolve_right (by simp)⟩
   rw[hr]at this
   cases this
 intro m
 induction m using Nat.strongRecOn with
 |ind m ih=>
  intro fA w hw a lA l hm h hc
  cases fA with
  |zero=>
   have hr:=acl (ops:=ops) (lA:=lA) (by omega)
   exact⟨hr,rfl,done w hw a lA l h hr⟩
  |succ fA=>
   refine⟨fun hr=>⟨rfl,done w hw a lA l h hr⟩,fun j hj=> ?_⟩
   by_cases hjl:j∈l.map (·.1)
   ·obtain⟨hun,oj,hoj,hdeps⟩:=mem_ready.1 hj
    obtain⟨v,l',g1,g2,g3,g4⟩:=Kz hd hoj hj h.pst h.run hjl
    have hlt:j<ops.size:=(Array.getElem?_eq_some_iff.1 hoj).1
    have hguard:oj.guard=none:=by
     have: ∀(l:List Nat),eF ops lA log l->j∈l->oj.guard=none:=fun l=>by
      induction l with
      |nil=>intro _ h;cases h
      |cons k l ih=>
       intro hp hm
       rcases List.mem_cons.1 hm with e|hm
       ·subst e
        obtain⟨_,_,_,_,ok,h5,_,h7,_⟩:=hp
        rw[hoj]at h5
        cases h5
        exact h7
       ·exact ih hp.1 hm
     exact this _ h.pst hjl
    have hlen:l'.length<m:=by
     have e1:l'.length=(l'.map (·.1)).length:=by simp
     rw[e1,g2,List.length_erase_of_mem hjl,List.length_map]
     have:0<l.length:=by cases l with|nil=>cases hjl|cons _ _=>simp
     omega
    refine g1.wpOp (c:=c.at_ w) hd hoj hguard fun w' hw'=> ?_
    have hw2:y7 c w':=Below.trans hw (hw'.mono hw.size)
    refine ih l'.length hlen fA w' hw2 _ _ l' rfl ⟨by rw[g4];exact h.rel.ext hw',by rw[g2];exact eF.take (by rw[h.sA];exact hlt) h.pst hjl,iP.ext hw' g3,by simpa using h.sA,h.sE,fun k hk=> ?_,fun k hk=> ?_,fun k hk=>h.hE k (by rw[g2]at hk;exact List.mem_of_mem_erase hk),fun k hk=>h.fit k (by rw[g2]at hk;exact List.mem_of_mem_erase hk)⟩ (by have:=CW h.sA hj;omega)
    ·by_cases e:j=k
     ·subst e;exact h.hE j hjl
     ·rw[getD_set_ne false e]at hk;exact h.sub k hk
    ·rcases h.cov k hk with h1|h1
     ·exact .inl (getD_set_true h1)
     ·by_cases e:k=j
      ·rw[e];exact .inl (qo (by rw[h.sA];exact hlt))
      ·exact .inr (by rw[g2];exact(List.mem_erase_of_ne e).2 h1)
   ·exact hstep w hw fA a lA l j h hc hj hjl (h.ready hj hjl)
theorem MJ {fr:List aA} {d:Nat} {z:aA} {x:Operand} (h:x≠ .tmp d):dU (fr.set d z) x=dU fr x:=by
 cases x with
 |tmp t=>
  have hne:d≠t:=fun e=>h (by rw[e])
  simp[dU,List.getD,List.getElem?_set_ne hne]
 |_=>rfl
theorem vH {o:Oper} {dst:Option Nat} {z:aA} (h: ∀d,dst=some d->d∉o.looksAt ops):ig o (st.put dst z).fr=ig o st.fr:=by
 cases dst with
 |none=>rfl
 |some d=>
  have hx: ∀x∈o.op.operands,x≠ .tmp d:=fun x hx e=>h d rfl (by
   subst e
   exact List.mem_append_left _ (List.mem_filterMap.2 ⟨.tmp d,by simpa using hx,rfl⟩))
  obtain⟨odst,op,ty,pos,after,guard⟩:=o
  cases op with
  |call c=>
   obtain⟨callee,args,ts⟩:=c
   cases callee with
   |value v=>
    simp only[ig,St.put,List.cons.injEq]
    refine⟨MJ (hx v (by simp[Op.operands,Call.operands])),List.map_congr_left fun x hxa=>MJ (hx x ?_)⟩
    simp[Op.operands,Call.operands]
    exact .inr (by simpa using hxa)
   |_=>rfl
  |_=>rfl
theorem Xi {o:Oper} {dst:Option Nat} {z:aA} (h: ∀d,dst=some d->o.dst≠some d):rZ o.dst (st.put dst z).fr=rZ o.dst st.fr:=by
 cases dst with
 |none=>rfl
 |some d=>
  cases ho:o.dst with
  |none=>rfl
  |some e=>
   have hne:d≠e:=fun x=>h d rfl (by rw[ho,x])
   simp[rZ,St.put,List.getD,List.getElem?_set_ne hne]
theorem MV: ∀(rs:List (Ty×Bool)) y,(rs.all fun r=> !r.2&&r.1.rigid)=true->rO rs y=none/\news rs=0/\(rs.all fun r=>r.1.rigid||(r.2&&r.1.elem.rigid))=true
 |[],_,_=>⟨rfl,rfl,rfl⟩
 |(t,true)::rs,y,h=>by simp at h
 |(t,false)::rs,y,h=>by
  simp only[List.all_cons,Bool.not_false,Bool.true_and,Bool.and_eq_true]at h
  obtain⟨h1,h2,h3⟩:=MV rs y.2 h.2
  exact⟨by simpa [rO] using h1,by simpa [news] using h2,by simp[h.1,h3]⟩
theorem KR {hp hp':dN}: ∀(ps:List Ty) (args:List aA),args.all aA.rigid=true->sV hp ps args=sV hp' ps args
 |[],[],_=>rfl
 |[],_::_,_=>rfl
 |_::_,[],_=>rfl
 |t::ps,v::args,h=>by
  simp only[List.all_cons,Bool.and_eq_true]at h
  have e:v.as hp t=v.as hp' t:=by cases v<;>simp only[aA.rigid,Bool.false_eq_true]at h<;>first|rfl|(exact absurd h.1 (by simp))
  have ih:=KR (hp:=hp) (hp':=hp') ps args h.2
  simp only[sV,e,ih]
theorem XZ {R:Type} {r:R} {i:Nat} {oi:Oper} {X:aA->St->Option R} (hi:OQ sg ops st.fr i=true) (hoi:ops[i]? =some oi) (hself: ∀d,oi.dst=some d->d∉oi.looksAt ops)
  (h:bK T cl (yX sg cl) oi st X=some r): ∃z,X z st=some r/\iw oi.op=true/\nT sg cl oi (st.put oi.dst z).fr z:=by
 unfold OQ at hi
 rw[hoi]at hi
 simp only at hi
 split at hi
 ·rename_i g args hca
  split at hi
  ·rename_i s hs
   simp only[Bool.and_eq_true]at hi
   obtain⟨⟨h1,h2⟩,h3⟩:=hi
   obtain⟨odst,op,ty,pos,after,guard⟩:=oi
   cases op with
   |call c=>
    obtain⟨callee,as',ts⟩:=c
    cases callee with
    |value v=>
     have hca0:=hca
     simp only[ig,List.cons.injEq]at hca
     simp only[bK]at h
     rw[hca.1,hca.2]at h
     have key: ∀{R:Type} (dst:Option Nat) (st':St) (K:aA->St->Option R),yX sg cl (.fn g []) args dst st' K=match sV [] s.ps args with
       |some x=>ai (s.f x) fun y=>K (Bj (jO 0 s.rs y)) st'
       |none=>none:=fun {R} dst st' K=>by
      simp only[yX,hs,h1,h2,Bool.and_self,cond_true,Sum.call]
      have hall:=h1
      unfold Bq at hall
      rw[KR (hp:=st'.hp) (hp':=[]) _ _ h2]
      cases sV [] s.ps args with
      |none=>simp
      |some x=>
       simp only
       cases hf:s.f x with
       |none=>simp[ai]
       |some y=>
        obtain⟨n1,n2,n3⟩:=MV s.rs y hall
        simp[ai,n1,n2,n3]
     rw[key]at h
     split at h
     ·rename_i x hx
      cases hf:s.f x with
      |none=>rw[hf]at h;cases h
      |some y=>
       rw[hf]at h
       refine⟨_,h,rfl,rfl,⟨_,v,rfl,rfl⟩,G5 _ (Af 0 s.rs y h1),fun d hd=> ?_,.fn g [],args, ?_,fun dst st' K=> ?_⟩
       ·simp only at hd
        subst hd
        have hlt:d<st.fr.length:=by simpa [Fp] using h3
        simp[St.put,List.getD,hlt]
       ·rw[vH (ops:=ops) hself];exact hca0
       ·rw[key,hx];simp[hf,ai]
     ·cases h
    |_=>simp[ig]at hca
   |_=>simp[ig]at hca
  ·cases hi
 ·cases hi
theorem pU (hT:TOk P T) (hd:jC ops=true) (hsq: ∀R:Type,jM (R:=R) P (yX sg cl)) {callS:dI St} (hS:jA P W0 n callS) {callU:dI Unit} (hU:jA P W0 n callU) (hxS:rU sg callS) (hxU:rU sg callU): ∀(nE:Nat) {R:Type} {r:R} {call:dI R} (hcall:jA P W0 n call) (hx:rU sg call) {K:St->Option R} {Q:Act->World->Prop}
  (lE:Array Bool) (log:List Nat) (c:Cx) (st:St),jy T cl sg callS callU ops nE call lE log st K=some r->
  (∀c' st' a',K st'=some r->fH W0 b0 rd c' st' a' ats->c.Mono c'->Q a' c'.w)-> ∀(fA:Nat) (a:Act) (lA:Array Bool) (l:List (Nat×Value)),Lag n sg cl P W0 b0 rd ats ops c st lE log a lA l->Ub ops lA<=fA->
   wpAnyIn (FW rd) n P .any ops (fun e a w=>e=.normal/\Q a w) fA lA a c.w
 |0,R,r,call,hcall,hx,K,Q,lE,log,c,st,h,hQ,fA,a,lA,l,hl,hc=>by simp[jy]at h
 |nE+1,R,r,call,hcall,hx,K,Q,lE,log,c,st,h,hQ,fA,a,lA,l,hl,hc=>by
  have after: ∀(w:World) (a':Act) (lA:Array Bool) (l l':List (Nat×Value)) (j:Nat) (c':Cx) (st':St) (a:Act),Lag n sg cl P W0 b0 rd ats ops (c.at_ w) st lE log a lA l->j∈Region.ready .any ops lA->j∉l.map (·.1)->l'.map (·.1)=l.map (·.1)->
    fH W0 b0 rd c' st' (dE ops a' l') ats->iP rd n P ops c' a' l'->Eb sg cl ops st'.fr (l.map (·.1))->Lag n sg cl P W0 b0 rd ats ops c' st' (lE.setIfInBounds j true) log a' (lA.setIfInBounds j true) l':=fun w a' lA l l' j c' st' a hl hj hjl e1 e2 e3 e4=>by
   obtain⟨_,oj,hoj,_⟩:=mem_ready.1 hj
   have hlt:j<ops.size:=(Array.getElem?_eq_some_iff.1 hoj).1
   refine⟨e2,by rw[e1];exact eF.set hl.pst hjl,e3,by simpa using hl.sA,by simpa using hl.sE,fun k hk=> ?_,fun k hk=> ?_,fun k hk=>getD_set_true (hl.hE k (by rw[<-e1];exact hk)),by rw[e1];exact e4⟩
   ·by_cases e:j=k
    ·subst e;exact qo (by rw[hl.sE];exact hlt)
    ·rw[getD_set_ne false e]at hk ⊢;exact hl.sub k hk
   ·by_cases e:j=k
    ·subst e;exact .inl (qo (by rw[hl.sA];exact hlt))
    ·rw[getD_set_ne false e]at hk ⊢;rw[e1];exact hl.cov k hk
  have adv: ∀(i:Nat) (oi:Oper) (z:aA) (u:Value),i∈Region.ready .any ops lE->ops[i]? =some oi->iw oi.op=true->oi.guard=none->DD ops log i=true->
    jy T cl sg callS callU ops nE call (lE.setIfInBounds i true) (i::log) (st.put oi.dst z) K=some r->aF c z u->Aq rd n P c (dE ops a l) oi u->
    (dZ oi.op=false-> ∃z,nT sg cl oi (st.put oi.dst z).fr z/\True)->(dZ oi.op=false->nT sg cl oi (st.put oi.dst z).fr z)->
    wpAnyIn (FW rd) n P .any ops (fun e a w=>e=.normal/\Q a w) fA lA a c.w:=fun i oi z u hi2 hoi hq hguard hlate g1 g2 g3 _ g4=>by
   obtain⟨hun,oi',hoi',hdeps⟩:=mem_ready.1 hi2
   rw[hoi]at hoi'
   cases hoi'
   have hlt:i<ops.size:=(Array.getElem?_eq_some_iff.1 hoi).1
   have hil:i∉l.map (·.1):=fun hm=>pI (hl.hE i hm) hun
   have hunA:lA.getD i true=false:=by
    cases hga:lA.getD i true with
    |false=>rfl
    |true=>
     rw[Q5 (by rw[hl.sA];exact hlt)]at hga
     exact(pI (hl.sub i hga) hun).elim
   have hpair:=hlate
   unfold DD at hpair
   rw[hoi]at hpair
   simp only[Bool.and_eq_true]at hpair
   obtain⟨hself,hpair⟩:=hpair
   have hpr: ∀m∈l.map (·.1),∃om,ops[m]? =some om/\aeC ops om oi/\(ni ops i m=false->om.apart ops oi=true):=fun m hm=>by
    have h3:=List.all_eq_true.1 hpair m (eF.log hl.pst m hm)
    split at h3
    ·rename_i om hom
     simp only[Bool.and_eq_true,Bool.or_eq_true]at h3
     exact⟨om,hom,Es h3.1,fun hw=>h3.2.resolve_left (by rw[hw];simp)⟩
    ·cases h3
   refine pU hT hd hsq hS hU hxS hxU nE hcall hx (Q:=Q) (lE.setIfInBounds i true) (i::log) c (st.put oi.dst z) g1 hQ fA a lA ((i,u)::l) ⟨?_, ?_,⟨hl.run,oi,hoi,g3⟩,hl.sA,by simpa using hl.sE,fun k hk=> ?_,fun k hk=> ?_,fun k hk=> ?_,fun k hk ok hok hnq=> ?_⟩ hc
   ·have:=hl.rel.put (dst:=oi.dst) g2
    rw[dE,lU hoi]
    exact this
   ·exact⟨eF.mono (fun k hk=>List.mem_cons_of_mem _ hk) hl.pst,hunA,List.mem_cons_self,hil,oi,hoi,hq,hguard,fun d hd'=>(Es hself d hd').1,fun e he hb=>hl.cov _ (hdeps e he hb),hpr⟩
   ·by_cases e:i=k
    ·subst e;exact(pI hk hunA).elim
    ·rw[getD_set_ne false e];exact hl.sub k hk
   ·by_cases e:i=k
    ·subst e;exact .inr List.mem_cons_self
    ·rw[getD_set_ne false e]at hk
     exact(hl.cov k hk).imp (fun h=>h) fun h=>List.mem_cons_of_mem _ h
   ·rcases List.mem_cons.1 hk with e|hk
    ·rw[e];exact qo (by rw[hl.sE];exact hlt)
    ·exact getD_set_true (hl.hE k hk)
   ·rcases List.mem_cons.1 hk with e|hk
    ·subst e
     rw[hoi]at hok
     cases hok
     exact⟨z,g4 hnq⟩
    ·obtain⟨z',hz'⟩:=hl.fit k hk ok hok hnq
     obtain⟨om,h1,h2,_⟩:=hpr k hk
     rw[hok]at h1
     cases h1
     exact⟨z',hz'.same (vH (ops:=ops) fun d hd'=>(h2 d hd').1).symm (Xi fun d hd'=>(h2 d hd').2).symm⟩
  simp only[jy]at h
  split at h
  ·rename_i hrd
   exact FX (n:=n) (sg:=sg) (cl:=cl) hd (fun _ w hw a hr=>hQ (c.at_ w) st a h hr (Cx.Le.ext hw).mono) (fun w hw fA a lA l j _ _ _ _ hj=>by rw[hrd]at hj;cases hj) _ fA c.w (Below.refl _ _) a lA l rfl hl hc
  ·rename_i k rs hrd
   split at h
   ·rename_i i hf
    have hi1:=List.find?_some hf
    simp only[Bool.and_eq_true]at hi1
    replace hi1:=hi1.1
    have hi2:=List.mem_of_find?_eq_some hf
    rw[<-hrd]at hi2
    split at h
    ·rename_i oi hoi
     replace h:=aP h
     obtain⟨hg,h⟩:=h
     simp only[Bool.and_eq_true]at hg
     obtain⟨hg,hlate⟩:=hg
     have hq:dZ oi.op=true:=by
      obtain⟨o,h1,h2⟩:=Dt hi1
      rw[hoi]at h1
      cases h1
      exact h2
     obtain⟨z,u,g1,g2,g3⟩:=ul hT hl.rel.ok hq hl.rel.hp hl.rel.fr h
     exact adv i oi z u hi2 hoi (acB hq) (by simpa using hg) hlate g1 g2 (.of_run g3) (fun h0=>by rw[hq]at h0;cases h0) (fun h0=>by rw[hq]at h0;cases h0)
    ·cases h
   ·split at h
    ·rename_i i hf
     have hi1:=List.find?_some hf
     have hi2:=List.mem_of_find?_eq_some hf
     rw[<-hrd]at hi2
     split at h
     ·rename_i oi hoi
      replace h:=aP h
      obtain⟨hg,h⟩:=h
      simp only[Bool.and_eq_true]at hg
      obtain⟨hg,hlate⟩:=hg
      have hself: ∀d,oi.dst=some d->d∉oi.looksAt ops:=by
       have hpair:=hlate
       unfold DD at hpair
       rw[hoi]at hpair
       simp only[Bool.and_eq_true]at hpair
       exact fun d hd'=>(Es hpair.1 d hd').1
      obtain⟨z,g1,g2,g3⟩:=XZ hi1 hoi hself h
      obtain⟨g4,g5⟩:=GV (n:=n) hT (hsq Unit) g3 (vH (ops:=ops) hself) hl.rel
      exact adv i oi z _ hi2 hoi g2 (by simpa using hg) hlate g1 g4 g5 (fun _=>⟨z,g3,trivial⟩) (fun _=>g3)
     ·cases h
    ·split at h
     ·refine FX (n:=n) (sg:=sg) (cl:=cl) hd (fun hr=>by rw[hrd]at hr;cases hr) (fun w hw fA a lA l j hl hc hj hjl hjE=> ?_) _ fA c.w (Below.refl _ _) a lA l rfl hl hc
      rw[hrd]at hjE
      obtain rfl:j=k:=by simpa using hjE
      refine yN (c:=c.at_ w) hT hd (hsq Unit) hcall hl.fit hj hl.pst hjl hl.rel h fun c' st' a' l' k1 e1 k2 k3 k5 k4=> ?_
      exact pU hT hd hsq hS hU hxS hxU nE hcall hx (Q:=Q) _ log c' st' k1 (fun c'' st'' a'' q1 q2 q3=>hQ c'' st'' a'' q1 q2 ((Cx.Le.ext hw).mono.trans (k4.trans q3))) fA a' _ l' (after w a' lA l l' j c' st' a hl hj hjl e1 k2 k3 k5) (by have:=CW hl.sA hj;omega)
     ·rw[cond_eq_ite]at h
      split at h
      rotate_left
      ·rename_i hcp
       simp only[Bool.or_eq_true,Bool.not_eq_true',not_or,Bool.not_eq_true,Bool.not_eq_false]at hcp
       have hp: ∀o∈ops.toList,oU sg o.op=true:=fun o ho=>List.all_eq_true.1 hcp.2 o ho
       refine FX (n:=n) (sg:=sg) (cl:=cl) hd (fun hr=>by rw[hrd]at hr;cases hr) (fun w hw fA a lA l j hl hc hj hjl hjE=> ?_) _ fA c.w (Below.refl _ _) a lA l rfl hl hc
       rw[hrd]at hjE
       rcases List.mem_cons.1 hjE with rfl|hjR
       ·refine yN (c:=c.at_ w) hT hd (hsq Unit) hcall hl.fit hj hl.pst hjl hl.rel h fun c' st' a' l' k1 e1 k2 k3 k5 k4=> ?_
        exact pU hT hd hsq hS hU hxS hxU nE hcall hx (Q:=Q) _ log c' st' k1 (fun c'' st'' a'' q1 q2 q3=>by
         replace q1:=aP q1
         obtain⟨q0,q1⟩:=q1
         obtain⟨c3,r3,m3,w3⟩:=q2.tidy cl
         split at q1
         ·rename_i m hm
          replace q1:=(rD _ q1).1
          have:=TJ hm hl.rel.wf q0 r3.wf
          subst this
          rw[<-w3]
          exact hQ c3 _ a'' q1 r3 ((Cx.Le.ext hw).mono.trans (k4.trans (q3.trans m3)))
         ·cases q1) fA a' _ l' (after w a' lA l l' j c' st' a hl hj hjl e1 k2 k3 k5) (by have:=CW hl.sA hj;omega)
       ·obtain⟨_,h1⟩:=Nz hx hp h
        obtain⟨st1,h1⟩:=H8 hp hxS hxU nE hx _ _ _ _ h1
        replace h1:=(aP h1).2
        split at h1
        ·rename_i m hm
         obtain⟨hK,hua⟩:=rD _ h1
         have hju:=hua _ (List.mem_map.2 ⟨j,hjR,rfl⟩)
         refine yN (c:=c.at_ w) hT hd (hsq Unit) hU hl.fit hj hl.pst hjl hl.rel hju fun c' st' a' l' k1 e1 k2 k3 k5 k4=> ?_
         exact pU hT hd hsq hS hU hxS hxU nE hU hxU (Q:=Q) _ log c' st' k1 (fun c'' st'' a'' q1 q2 q3=>by
          replace q1:=(aP q1).1
          simp only[Bool.and_eq_true]at q1
          obtain⟨c3,r3,m3,w3⟩:=q2.tidy cl
          have:=aaC hm hl.rel.wf q1.1 q1.2 r3.wf
          subst this
          rw[<-w3]
          exact hQ c3 _ a'' hK r3 ((Cx.Le.ext hw).mono.trans (k4.trans (q3.trans m3)))) fA a' _ l' (after w a' lA l l' j c' st' a hl hj hjl e1 k2 k3 k5) (by have:=CW hl.sA hj;omega)
        ·cases h1
      split at h
      ·rename_i stm hmg
       refine FX (n:=n) (sg:=sg) (cl:=cl) hd (fun hr=>by rw[hrd]at hr;cases hr) (fun w hw fA a lA l j hl hc hj hjl hjE=> ?_) _ fA c.w (Below.refl _ _) a lA l rfl hl hc
       rw[hrd]at hjE
       obtain⟨b,hb1,hb2⟩:=Tq hmg hl.rel.wf _ (List.mem_map.2 ⟨j,hjE,rfl⟩)
       refine yN (c:=c.at_ w) hT hd (hsq Unit) hS hl.fit hj hl.pst hjl hl.rel hb1 fun c' st' a' l' k1 e1 k2 k3 k5 k4=> ?_
       exact pU hT hd hsq hS hU hxS hxU nE hS hxS (Q:=Q) _ log c' st' k1 (fun c'' st'' a'' q1 q2 q3=>by
        cases q1
        obtain⟨c3,r3,m3,w3⟩:=q2.tidy cl
        have:=hb2 r3.wf
        subst this
        rw[<-w3]
        exact hQ c3 _ a'' h r3 ((Cx.Le.ext hw).mono.trans (k4.trans (q3.trans m3)))) fA a' _ l' (after w a' lA l l' j c' st' a hl hj hjl e1 k2 k3 k5) (by have:=CW hl.sA hj;omega)
      ·cases h
theorem XB (hT:TOk P T) (hm:P.follows .mixedOrders=true) (hd:jC ops=true) (hsq: ∀R:Type,jM (R:=R) P (yX sg cl)) {callS:dI St} (hS:jA P W0 n callS) {callU:dI Unit} (hU:jA P W0 n callU) (hxS:rU sg callS) (hxU:rU sg callU) {R:Type} {r:R} {call:dI R} (hcall:jA P W0 n call) (hx:rU sg call) {id:Nat} {nE:Nat} {K:St->Option R} {Q:Exit->Act->World->Prop}
  (h:jy T cl sg callS callU ops nE call (Array.replicate ops.size false) [] st K=some r) (hr:fH W0 b0 rd c st a ats) (hQ: ∀c' st' a',K st'=some r->fH W0 b0 rd c' st' a' ats->c.Mono c'->Q .normal a' c'.w):
  (Code.region id ops true).wpIn (FW rd) n P Q a c.w:=by
 have hext:y7 c {c.w with drawn:=c.w.drawn+1}:=⟨rfl,rfl,rfl,Nat.le_refl _,fun _ _=>rfl⟩
 have hr2:=hr.ext hext
 have h2:=pU (Q:=fun a w=>Q .normal a w) hT hd hsq hS hU hxS hxU nE hcall hx _ [] (c.at_ {c.w with drawn:=c.w.drawn+1}) st h (fun c' st' a' k1 k2 k3=>hQ c' st' a' k1 k2 ((Cx.Le.ext hext).mono.trans k3)) ops.size a
  (Array.replicate ops.size false) [] ⟨hr2,trivial,trivial,by simp,by simp,fun j hj=>hj,fun j hj=>.inl hj,(fun k hk=>by cases hk),(fun k hk=>by cases hk)⟩ (by
   unfold Ub
   exact Nat.le_trans (List.length_filter_le _ _) (by simp))
 exact Code.wpIn_mono (fun e a w he=>by obtain⟨rfl,he⟩:=he;exact he) (wpIn_region_any hm h2)
end
end Go.Proofs.YtihafdllichkeaaGreatDoor
namespace Go.Proofs.YtihafdllichkeaaGreatDoor
open Go.RowKit
set_option linter.unusedVariables false
set_option linter.unusedSimpArgs false
section
variable {P:Program} {T:TT} {W0:World} {b0:Nat} {rd:Option Nat} {R:Type} {r:R} {ats:List (Array Value)}
theorem aaU {F:Fence} {n:Nat} {Q:Exit->Act->World->Prop} {a:Act} {w:World} {e:Ex} {cd:Code} (he:e.code=some cd) (h:Q e.xt a w):cd.wpIn F n P Q a w:=by
 cases e<;>simp only[Ex.code,Option.some.injEq,reduceCtorEq]at he<;>subst he
 ·exact wpIn_exit h
 ·exact wpIn_goto h
 ·exact wpIn_ret h
theorem GZ {n:Nat} {F:St->(Ex->St->Option R)->Option R} {K:Ex->St->Option R} {Q:Exit->Act->World->Prop} {code:Code} {kp:Option dB}
  (hF: ∀(K':Ex->St->Option R) (Q':Exit->Act->World->Prop) (c:Cx) (st:St) (a:Act),F st K'=some r->fH W0 b0 rd c st a ats->b0<=c.w.heap.size->(∀e c' st' a',K' e st'=some r->fH W0 b0 rd c' st' a' ats->c.Mono c'->Q' e.xt a' c'.w)->code.wpIn (FW rd) n P Q' a c.w)
  {c:Cx} {st:St} {a:Act} (m:Nat) (h:iter kp F m st K=some r) (hr:fH W0 b0 rd c st a ats) (hb:b0<=c.w.heap.size) (hQ: ∀e c' st' a',K e st'=some r->fH W0 b0 rd c' st' a' ats->c.Mono c'->Q e.xt a' c'.w):
  (Code.loop code).wpIn (FW rd) n P Q a c.w:=by
 refine wpIn_loop_ghost (fun m a w=> ∃c' st',iter kp F m st' K=some r/\fH W0 b0 rd c' st' a ats/\c.Mono c'/\c'.w=w) m ⟨c,st,h,hr,Cx.Mono.refl c,rfl⟩ ?_
 rintro m a w ⟨c1,st1,h1,hr1,hm1,rfl⟩
 cases m with
 |zero=>simp[iter]at h1
 |succ m=>
  simp only[iter]at h1
  refine hF _ _ c1 st1 a h1 hr1 (Nat.le_trans hb hm1.size) fun e c2 st2 a2 h2 hr2 hm2=> ?_
  cases e with
  |normal=>
   simp only at h2
   simp only[Ex.xt,Exit.then]
   cases kp with
   |none=>exact⟨m,Nat.lt_succ_self m,c2,st2,h2,hr2,hm1.trans hm2,rfl⟩
   |some k=>
    simp only at h2
    split at h2
    ·rename_i st3 h3
     obtain⟨c3,hr3,hm3,hw3⟩:=kU hr2 h3
     exact⟨m,Nat.lt_succ_self m,c3,st3,h2,hr3,(hm1.trans hm2).trans hm3,hw3⟩
    ·cases h2
  |ret=>
   simp only at h2
   simp only[Ex.xt,Exit.then]
   cases kp with
   |none=>exact hQ .ret c2 st2 a2 h2 hr2 (hm1.trans hm2)
   |some k=>
    simp only at h2
    split at h2
    ·rename_i st3 h3
     obtain⟨c3,hr3,hm3,hw3⟩:=MW hr2 h3
     rw[<-hw3]
     exact hQ .ret c3 st3 a2 h2 hr3 ((hm1.trans hm2).trans hm3)
    ·cases h2
  |exit id=>
   simp only at h2
   simp only[Ex.xt,Exit.then]
   cases kp with
   |none=>exact hQ (.exit id) c2 st2 a2 h2 hr2 (hm1.trans hm2)
   |some k=>
    simp only at h2
    split at h2
    ·rename_i st3 h3
     obtain⟨c3,hr3,hm3,hw3⟩:=kU hr2 h3
     rw[<-hw3]
     exact hQ (.exit id) c3 st3 a2 h2 hr3 ((hm1.trans hm2).trans hm3)
    ·cases h2
  |goto l=>
   simp only at h2
   simp only[Ex.xt,Exit.then]
   cases kp with
   |none=>exact hQ (.goto l) c2 st2 a2 h2 hr2 (hm1.trans hm2)
   |some k=>
    simp only at h2
    split at h2
    ·rename_i st3 h3
     obtain⟨c3,hr3,hm3,hw3⟩:=kU hr2 h3
     rw[<-hw3]
     exact hQ (.goto l) c3 st3 a2 h2 hr3 ((hm1.trans hm2).trans hm3)
    ·cases h2
theorem KZ {n:Nat} {F:St->(Ex->St->Option R)->Option R} {K:Ex->St->Option R} {Q:Exit->Act->World->Prop} {code:Code} {kp:Option dB}
  (hF: ∀(K':Ex->St->Option R) (Q':Exit->Act->World->Prop) (c:Cx) (st:St) (a:Act),F st K'=some r->fH W0 b0 rd c st a ats->b0<=c.w.heap.size->(∀e c' st' a',K' e st'=some r->fH W0 b0 rd c' st' a' ats->c.Mono c'->Q' e.xt a' c'.w)->code.wpIn (FW rd) n P Q' a c.w)
  {c:Cx} {st:St} {a:Act} (m:Nat) (h:iter kp (zF F) m st (oG 999999 K)=some r) (hr:fH W0 b0 rd c st a ats) (hb:b0<=c.w.heap.size) (hQ: ∀e c' st' a',K e st'=some r->fH W0 b0 rd c' st' a' ats->c.Mono c'->Q e.xt a' c'.w):
  code.wpIn (FW rd) n P Q a c.w:=by
 cases m with
 |zero=>simp[iter]at h
 |succ m=>
  simp only[iter,zF]at h
  refine hF _ _ c st a h hr hb fun e c2 st2 a2 h2 hr2 hm2=> ?_
  cases e with
  |normal=>
   simp only at h2
   cases kp with
   |none=>
    simp only[oG,beq_self_eq_true,cond_true]at h2
    exact hQ .normal c2 st2 a2 h2 hr2 hm2
   |some k=>
    simp only at h2
    split at h2
    ·rename_i st3 h3
     obtain⟨c3,hr3,hm3,hw3⟩:=kU hr2 h3
     simp only[oG,beq_self_eq_true,cond_true]at h2
     rw[<-hw3]
     exact hQ .normal c3 st3 a2 h2 hr3 (hm2.trans hm3)
    ·cases h2
  |ret=>
   simp only at h2
   cases kp with
   |none=>exact hQ .ret c2 st2 a2 h2 hr2 hm2
   |some k=>
    simp only at h2
    split at h2
    ·rename_i st3 h3
     obtain⟨c3,hr3,hm3,hw3⟩:=MW hr2 h3
     rw[<-hw3]
     exact hQ .ret c3 st3 a2 h2 hr3 (hm2.trans hm3)
    ·cases h2
  |exit id=>
   simp only at h2
   rw[cond_eq_ite]at h2
   split at h2
   ·cases h2
   ·rename_i hid
    have hne:(id==999999)=false:=by
     cases hh:(id==999999)with
     |false=>rfl
     |true=>exact absurd (by rw[beq_iff_eq]at hh;rw[hh];rfl) hid
    cases kp with
    |none=>
     simp only[oG,hne,cond_false]at h2
     exact hQ (.exit id) c2 st2 a2 h2 hr2 hm2
    |some k=>
     simp only at h2
     split at h2
     ·rename_i st3 h3
      obtain⟨c3,hr3,hm3,hw3⟩:=kU hr2 h3
      simp only[oG,hne,cond_false]at h2
      rw[<-hw3]
      exact hQ (.exit id) c3 st3 a2 h2 hr3 (hm2.trans hm3)
     ·cases h2
  |goto l=>
   simp only at h2
   cases kp with
   |none=>exact hQ (.goto l) c2 st2 a2 h2 hr2 hm2
   |some k=>
    simp only at h2
    split at h2
    ·rename_i st3 h3
     obtain⟨c3,hr3,hm3,hw3⟩:=kU hr2 h3
     rw[<-hw3]
     exact hQ (.goto l) c3 st3 a2 h2 hr3 (hm2.trans hm3)
    ·cases h2
theorem uf {n:Nat} {f:FuncId} {args:Array Value} {w:World} {Rr:Ending->World->Prop} (h:Calls P f args w Rr):CallsIn (FW rd) n P f args w Rr:=(callsIn_wide (n:=n)).2 h
theorem TC {n:Nat} {f:FuncId} {cl:Bool} {ex:jH R} (hex:oO P W0 ex) {fv:Operand} {ps:Array Tmp} {asg bd:Code} {K:Ex->St->Option R} {Q:Exit->Act->World->Prop} {c:Cx} {st:St} {a:Act} {g:FuncId} {caps:List aA}
  (hgv:aF c (.fn g caps) (a.eval fv))
  {ky:Option Nat} (hky: ∀k,ky=some k->og f k=some (asg,bd))
  (h:alloc cl (some (700000+ps.toList.headD 0)) (.lp f st.fr ps.toList asg bd ky 0 none) st (fun id st=>
    ex (.call g (.yld id::caps)) {st with stk:=[.yld id]::st.stk} fun _ st=>match st.stk with
     |[.yld id]::stk=>match aX st.hp id with
      |some (.lp _ _ _ _ _ _ 0 none)=>K .normal {st with stk:=stk,hp:=gB st.hp id .dead}
      |some (.lp _ _ _ _ _ _ 1 (some e))=>K e {st with stk:=stk,hp:=gB st.hp id .dead}
      |_=>none
     |_=>none)=some r)
  (hr:fH W0 b0 rd c st a ats) (hb:b0<=c.w.heap.size) (hQ: ∀e c' st' a',K e st'=some r->fH W0 b0 rd c' st' a' ats->c.Mono c'->Q e.xt a' c'.w):
  (Code.rangeFunc fv ps asg bd).wpIn (FW rd) n P Q a c.w:=by
 obtain⟨id,n',h3,h4,h5,h⟩:=gu h
 simp only[aF]at hgv
 obtain⟨vs,hgv,hcaps⟩:=hgv
 refine wpIn_rangeFunc fun fn _=> ?_
 obtain⟨mark,c1,hc1,hr1,hm1,hle01,hen⟩: ∃(mark:List Deferred) (c1:Cx),c1.hp=c.hp/\fH W0 b0 rd c1 st {a with defers:=mark++a.defers} ats/\c.Mono c1/\c.Le0 c1/\
   ∃L:Loop,L.tmps=a.tmps/\L.params=ps/\L.assign=asg/\L.body=bd/\L.state=.ready/\L.pending=none/\(Instr.enterLoop fn a.tmps ps asg bd rd).run P c.w=.ok (c1.w.heap.size,mark) (c1.w.alloc (.loop L)):=by
  cases rd with
  |none=>
   obtain⟨hle,hok⟩:=ah3 hr.ok
   refine⟨[mkD c.w.heap.size],{c with w:=c.w.alloc (.deferred (some [])),mks:=c.w.heap.size::c.mks},rfl,⟨hr.hp,hr.nxt,hok,aj.le hle _ _ hr.fr,wB.le hle _ _ hr.stk, ?_,fun l hl=>by cases hl⟩,hle.mono,hle.le0,{state:=.ready,pending:=none,fn,tmps:=a.tmps,params:=ps,assign:=asg,body:=bd,defers:=c.w.heap.size},rfl,rfl,rfl,rfl,rfl,rfl, ?_⟩
   ·obtain⟨ds,e1,e2,e3⟩:=hr.df
    refine⟨c.w.heap.size::ds,by simp[e1],List.nodup_cons.2 ⟨fun hm=> ?_,e2⟩,fun x hx=> ?_⟩
    ·have:=hr.ok.mark_lt (e3 _ hm).1;omega
    ·rcases List.mem_cons.1 hx with e|e
     ·subst e;exact⟨by simp,hb⟩
     ·exact⟨List.mem_cons_of_mem _ (e3 x e).1,(e3 x e).2⟩
   ·have:=run_enterLoop_outer (P:=P) (w:=c.w) fn a.tmps ps asg bd
    rw[this,World.size_alloc];rfl
  |some l0=>
   obtain⟨L0,hL0⟩:=hr.rd l0 rfl
   exact⟨[],c,rfl,hr,Cx.Mono.refl c,(Cx.Le.refl c).le0,{state:=.ready,pending:=none,fn,tmps:=a.tmps,params:=ps,assign:=asg,body:=bd,defers:=L0.defers},rfl,rfl,rfl,rfl,rfl,rfl,run_enterLoop_inner hL0 fn a.tmps ps asg bd⟩
 obtain⟨L,q1,q2,q3,q4,q5,q6,q7⟩:=hen
 subst q2 q3 q4
 obtain⟨c2,hd,hw2,hy,_⟩:=alG hr1.ok (st:=st) hr1.hp hr1.nxt h3 h4 h5 (f:=f) (fr:=st.fr) (L:=L) (by rw[q1];exact hr1.fr) q5 q6 hky
 have hr2:=hr1.did hd
 have hm2:c.Mono c2:=hm1.trans hd.le.mono
 have hr2':fH W0 b0 rd c2 {st with stk:=[.yld id]::st.stk,hp:=(id,.lp f st.fr L.params.toList L.assign L.body ky 0 none)::st.hp,nxt:=n'} {a with defers:=mark++a.defers} (#[.func (.yield c1.w.heap.size) #[] #[]]::ats):=
  ⟨hr2.hp,hr2.nxt,hr2.ok,hr2.fr,⟨by simpa [aj] using hy,hr2.stk⟩,hr2.df,hr2.rd⟩
 have hcaps2:aj c2 caps vs.toList:=aj.le hd.le _ _ (aj.le0 hle01 _ _ hcaps)
 have hcall:=hex g (.yld id::caps) _ _ r h b0 rd c2 {a with defers:=mark++a.defers} (#[.func (.yield c1.w.heap.size) #[] #[]]::ats) (#[.func (.yield c1.w.heap.size) #[] #[]]++vs) hr2' (by simp only[Array.toList_append,List.cons_append,List.nil_append,aj];exact⟨hy,hcaps2⟩)
  (rangePost (FW rd) n P c1.w.heap.size Q {a with defers:=mark++a.defers}) (by
   intro c3 z u st3 hK hr3 _ hm3
   have hstk:=hr3.stk
   split at hK
   ·rename_i id3 stk3 hs3
    rw[hs3]at hstk
    obtain⟨hy3,hstk⟩:=hstk
    simp only[aj,and_true]at hy3
    have hget3: ∀{o},aX st3.hp id3=some o->aX c3.hp id3=some o:=fun {o} ho=>by rw[hr3.hp];exact ho
    simp only[aF]at hy3
    split at hK
    ·rename_i f3 fr3 ps3 asg3 bd3 ky3 hg3
     obtain⟨_,hB,L3,hL3,hv3,e1,e2,e3,e4,e5⟩:=hr3.ok.obj id3 _ (hget3 hg3)
     have hblk:=hy3.2.2 _ _ _ _ _ _ _ _ (hget3 hg3)
     have hblk:c1.w.heap.size=(c3.mu id3).blk:=by simpa using hblk
     obtain⟨c4,p1,p2,p3,p4,p5,p6⟩:=Aj hr3.ok (hget3 hg3) hL3 {L3 with state:=.exhausted,pending:=none} (o':=.dead) (.inl rfl)
     refine⟨_,_,(by rw[hblk];exact run_endLoop hL3 (by rw[e4];decide)), ?_⟩
     rw[e5]
     simp only
     rw[<-p5]
     refine hQ .normal c4 _ _ hK ⟨by rw[p1,hr3.hp],by rw[p2,hr3.nxt],p4,aj.le p3 _ _ hr3.fr,wB.le p3 _ _ hstk, ?_, ?_⟩ ((hm2.trans hm3).trans p3.mono)
     ·obtain⟨ds,w1,w2,w3⟩:=hr3.df
      exact⟨ds,w1,w2,fun x hx=>⟨by rw[p6];exact(w3 x hx).1,(w3 x hx).2⟩⟩
     ·intro l hl
      obtain⟨Ll,hLl⟩:=hr3.rd l hl
      exact p3.lp l Ll hLl
    ·rename_i f3 fr3 ps3 asg3 bd3 ky3 e0 hg3
     obtain⟨_,hB,L3,hL3,hv3,e1,e2,e3,e4,e5,e6⟩:=hr3.ok.obj id3 _ (hget3 hg3)
     have hblk:=hy3.2.2 _ _ _ _ _ _ _ _ (hget3 hg3)
     have hblk:c1.w.heap.size=(c3.mu id3).blk:=by simpa using hblk
     refine⟨_,_,(by rw[hblk];exact run_endLoop hL3 (by rw[e4];decide)), ?_⟩
     rw[e5]
     cases he0:e0.code with
     |none=>exact absurd he0 e6
     |some cd=>
      obtain⟨c4,p1,p2,p3,p4,p5,p6⟩:=Aj hr3.ok (hget3 hg3) hL3 {L3 with state:=.exhausted,pending:=some cd} (o':=.dead) (.inl rfl)
      simp only
      refine aaU he0 ?_
      rw[<-p5]
      refine hQ e0 c4 _ _ hK ⟨by rw[p1,hr3.hp],by rw[p2,hr3.nxt],p4,aj.le p3 _ _ hr3.fr,wB.le p3 _ _ hstk, ?_, ?_⟩ ((hm2.trans hm3).trans p3.mono)
      ·obtain⟨ds,w1,w2,w3⟩:=hr3.df
       exact⟨ds,w1,w2,fun x hx=>⟨by rw[p6];exact(w3 x hx).1,(w3 x hx).2⟩⟩
      ·intro l hl
       obtain⟨Ll,hLl⟩:=hr3.rd l hl
       exact p3.lp l Ll hLl
    ·cases hK
   ·cases hK)
 refine⟨c1.w.heap.size,mark,c1.w.alloc (.loop L),{target:=.fn (.func g) vs,args:= #[.func (.yield c1.w.heap.size) #[] #[]]},c1.w.alloc (.loop L),g,#[.func (.yield c1.w.heap.size) #[] #[]]++vs,c1.w.alloc (.loop L),q7, ?_,fun _ _=>trivial, ?_,oz rd, ?_⟩
 ·have hev:a.eval (.const (.func (.yield c1.w.heap.size) #[] #[]))=.func (.yield c1.w.heap.size) #[] #[]:=rfl
  simp only[resolve,hgv]
  simp[go_sem,hev]
 ·have:=hcall.1
  rw[hw2]at this
  simp only[invoke]
  exact this
 ·have:=hcall.2
  rw[hw2]at this
  exact uf this
def QZ {R:Type} (E:Env) (ex:jH R) (exd:N8) (f:FuncId) (c:Code) (L:bG):Prop:=
 ∀(r:R) (st:St) (v:L.V) (K:Ex->St->Option R),(∀slots owns st1,Bd slots owns st=some st1->UY st1.hp)->L.get st=some v->
  (ai (L.spec v) fun o=>bF o (fun a=>K (L.exA v) (L.stA st v a)) fun b=>K (L.exB v) (L.stB st v b))=some r->
  ∃m st1,(match E.kp f (aQ c)with|none=>st1=st|some k=>Bd k.slots k.owns st=some st1)/\iter (E.kp f (aQ c)) (run E ex exd f c) m st1 K=some r
def X6 {R:Type} (E:Env) (ex:jH R) (exd:N8) (f:FuncId) (c:Code) (L:bG):Prop:=
 ∀(r:R) (st:St) (v:L.V) (K:Ex->St->Option R),(∀slots owns st1,Bd slots owns st=some st1->UY st1.hp)->L.get st=some v->
  (ai (L.spec v) fun o=>bF o (fun a=>K (L.exA v) (L.stA st v a)) fun b=>K (L.exB v) (L.stB st v b))=some r->
  ∃m st1,(match E.kp f (800000+aQ c)with|none=>st1=st|some k=>Bd k.slots k.owns st=some st1)/\iter (E.kp f (800000+aQ c)) (zF (run E ex exd f c)) m st1 K=some r
def gK {R:Type} (E:Env) (ex:jH R) (exd:N8) (f:FuncId):Code->Prop
 |.seq a b=>(gK E ex exd f a/\ ∀L,E.lp f (800000+aQ b)=some L->L.dep.ble E.dp=true->X6 E ex exd f b L)/\gK E ex exd f b
 |.cond _ a b=>gK E ex exd f a/\gK E ex exd f b
 |.block _ c=>gK E ex exd f c
 |.scope c=>gK E ex exd f c
 |.loop c=>gK E ex exd f c/\ ∀L,E.lp f (aQ c)=some L->L.dep.ble E.dp=true->QZ E ex exd f c L
 |.rangeFunc _ _ asg bd=>gK E ex exd f asg/\gK E ex exd f bd/\(E.rf f (aQ bd)=true->og f (aQ bd)=some (asg,bd))
 |_=>True
theorem fE {E:Env} {ex:jH R} {exd:N8} {f:FuncId} (h: ∀id,E.lp f id=none) (h2: ∀id,E.rf f id=false): ∀c:Code,gK E ex exd f c
 |.seq a b=>⟨⟨fE h h2 a,fun L hL=>by rw[h]at hL;cases hL⟩,fE h h2 b⟩
 |.cond _ a b=>⟨fE h h2 a,fE h h2 b⟩
 |.block _ c=>fE (E:=E) h h2 c
 |.scope c=>fE (E:=E) h h2 c
 |.loop c=>⟨fE h h2 c,fun L hL=>by rw[h]at hL;cases hL⟩
 |.rangeFunc _ _ a b=>⟨fE h h2 a,fE h h2 b,fun h3=>by rw[h2]at h3;cases h3⟩
 |.skip|.label _|.region _ _ _|.exit _|.goto _|.ret|.refuse _=>trivial
def KG (E:Env) (n:Nat):N8:=⟨fun j st=>exec E n (R:=aA) j st fun v _=>some v,exec E n,exec E n⟩
def di (E:Env) (f:FuncId) (c:Code) (L:bG):Prop:=
 ∀(R:Type) (m:Nat),QZ (R:=R) (E.at (m+L.dep)) (exec E (m+L.dep)) (KG E (m+L.dep)) f c L
def qF (E:Env) (f:FuncId) (c:Code) (L:bG):Prop:=
 ∀(R:Type) (m:Nat),X6 (R:=R) (E.at (m+L.dep)) (exec E (m+L.dep)) (KG E (m+L.dep)) f c L
def cZ (E:Env) (f:FuncId) (c:Code):Prop:= ∀(R:Type) (m:Nat),gK (R:=R) (E.at m) (exec E m) (KG E m) f c
theorem aS {E:Env} {f:FuncId} (h: ∀id,E.lp f id=none) (h2: ∀id,E.rf f id=false) (c:Code):cZ E f c:=fun R m=>fE (E:=E.at m) h h2 c
theorem Dz (hT:TOk P T) (hm:P.follows .mixedOrders=true) {n:Nat} {E:Env} (hET:E.T=T) {f:FuncId} {ex:jH R} {exd:N8} (hcall:jA P W0 n (qi E ex)) (hq:jM (R:=R) P (Ih E exd.q)) (hex:oO P W0 ex) (hS:jA P W0 n (qi E exd.s)) (hU:jA P W0 n (qi E exd.u)) (hsq: ∀R:Type,jM (R:=R) P (yX E.sg E.cl)):
  ∀(code:Code),gK E ex exd f code-> ∀(K:Ex->St->Option R) (Q:Exit->Act->World->Prop) (c:Cx) (st:St) (a:Act),run E ex exd f code st K=some r->fH W0 b0 rd c st a ats->b0<=c.w.heap.size->
   (∀e c' st' a',K e st'=some r->fH W0 b0 rd c' st' a' ats->c.Mono c'->Q e.xt a' c'.w)->code.wpIn (FW rd) n P Q a c.w:=by
 subst hET
 intro code
 induction code with
 |skip=>intro _ K Q c st a h hr hb hQ;exact wpIn_skip (hQ .normal c st a h hr (Cx.Mono.refl c))
 |label l=>intro _ K Q c st a h hr hb hQ;exact wpIn_label (hQ .normal c st a h hr (Cx.Mono.refl c))
 |region id ops draw=>
  intro _ K Q c st a h hr hb hQ
  simp only[run]at h
  have htrim: ∃fr',yP (E.kp f (600000+id)) st={st with fr:=fr'}/\aj c fr' a.tmps.toList:=by
   cases E.kp f (600000+id)with
   |none=>exact⟨st.fr,rfl,hr.fr⟩
   |some k=>exact⟨_,rfl,um _ _ _ hr.fr⟩
  obtain⟨fr',e1,e2⟩:=htrim
  rw[e1]at h
  replace hr:fH W0 b0 rd c {st with fr:=fr'} a ats:=⟨hr.hp,hr.nxt,hr.ok,e2,hr.stk,hr.df,hr.rd⟩
  generalize ({st with fr:=fr'}:St)=st at h hr
  cases draw with
  |true=>
   simp only[cond_true]at h
   rw[cond_eq_ite]at h
   split at h
   ·rename_i hok
    simp only[Bool.and_eq_true]at hok
    exact Fg hT hm hq hok.1 h hr fun c' st' a' h'=>hQ .normal c' st' a' h'
   ·split at h
    ·rename_i l hpl
     exact Kv hT hm hcall hpl h hr fun c' st' a' h'=>hQ .normal c' st' a' h'
    ·rw[cond_eq_ite]at h
     split at h
     ·rename_i hok
      simp only[Bool.and_eq_true]at hok
      exact Fg hT hm hq hok.1 h hr fun c' st' a' h'=>hQ .normal c' st' a' h'
     replace h:=aP h
     exact XB hT hm h.1 hsq hS hU QG QG hcall QG h.2 hr fun c' st' a' h'=>hQ .normal c' st' a' h'
  |false=>
   simp only[cond_false]at h
   exact wpIn_region_list (DZ hT hcall ops ops.toList c st a h hr fun c' st' a' h'=>hQ .normal c' st' a' h')
 |seq x y ihx ihy=>
  intro hl K Q c st a h hr hb hQ
  replace ihx:=ihx hl.1.1
  replace ihy:=ihy hl.2
  simp only[run]at h
  refine wpIn_seq (ihx _ _ c st a h hr hb fun e c' st' a' h' hr' hm'=> ?_)
  cases e with
  |normal=>
   have hb':=Nat.le_trans hb hm'.size
   have hQ': ∀e c'' st'' a'',K e st''=some r->fH W0 b0 rd c'' st'' a'' ats->c'.Mono c''->Q e.xt a'' c''.w:=fun e c'' st'' a'' h'' hr'' hm''=>hQ e c'' st'' a'' h'' hr'' (hm'.trans hm'')
   have fin: ∀(kp:Option dB) (m:Nat) (st1:St),(match kp with|none=>st1=st'|some k=>Bd k.slots k.owns st'=some st1)->iter kp (zF (run E ex exd f y)) m st1 (oG 999999 K)=some r->y.wpIn (FW rd) n P Q a' c'.w:=by
    intro kp m st1 h1 h2
    cases kp with
    |none=>simp only at h1;rw[h1]at h2;exact KZ ihy m h2 hr' hb' hQ'
    |some k=>
     obtain⟨c1,hr1,hm1,hw1⟩:=kU hr' h1
     rw[<-hw1]
     exact KZ ihy m h2 hr1 (Nat.le_trans hb' hm1.size) fun e c'' st'' a'' h'' hr'' hm''=>hQ' e c'' st'' a'' h'' hr'' (hm1.trans hm'')
   simp only[asV,cutAt]at h'
   split at h'
   ·rename_i L hL
    replace h':=aP h'
    obtain⟨hdp,h'⟩:=h'
    split at h'
    ·rename_i v hv
     obtain⟨m,st1,h1,h2⟩:=hl.1.2 L hL hdp r st' v (oG 999999 K) (fun slots owns st1 ht=>let⟨c1,hr1,_,_⟩:=kU hr' ht;hr1.wf) hv h'
     exact fin _ m st1 h1 h2
    ·cases h'
   ·split at h'
    ·exact ihy _ _ c' st' a' h' hr' hb' hQ'
    ·rename_i k hk
     split at h'
     ·rename_i st1 h1
      exact fin (some k) aO st1 h1 h'
     ·cases h'
  |exit id=>exact hQ (.exit id) c' st' a' h' hr' hm'
  |goto l=>exact hQ (.goto l) c' st' a' h' hr' hm'
  |ret=>exact hQ .ret c' st' a' h' hr' hm'
 |cond cnd x y ihx ihy=>
  intro hl K Q c st a h hr hb hQ
  replace ihx:=ihx hl.1
  replace ihy:=ihy hl.2
  simp only[run]at h
  have hv:=aY hr.fr cnd
  split at h
  ·rename_i b hb'
   rw[hb']at hv
   simp only[aF]at hv
   have hv:=hv.bool_inv
   cases b with
   |true=>exact wpIn_cond_true hv (ihx _ _ c st a h hr hb hQ)
   |false=>exact wpIn_cond_false hv (ihy _ _ c st a h hr hb hQ)
  ·cases h
 |block id x ih=>
  intro hl K Q c st a h hr hb hQ
  replace ih:=ih hl
  simp only[run]at h
  refine wpIn_block (ih _ _ c st a h hr hb fun e c' st' a' h' hr' hm'=> ?_)
  cases e with
  |normal=>exact hQ .normal c' st' a' h' hr' hm'
  |exit i=>
   simp only[oG]at h'
   simp only[Ex.xt,Exit.inBlock]
   rw[cond_eq_ite]at h'
   split at h'
   ·rename_i hi
    have hi:i=id:=by simpa using hi
    rw[if_pos hi];exact hQ .normal c' st' a' h' hr' hm'
   ·rename_i hi
    have hi:i≠id:=by simpa using hi
    rw[if_neg hi];exact hQ (.exit i) c' st' a' h' hr' hm'
  |goto l=>exact hQ (.goto l) c' st' a' h' hr' hm'
  |ret=>exact hQ .ret c' st' a' h' hr' hm'
 |loop x ih=>
  intro hl K Q c st a h hr hb hQ
  replace ih:=ih hl.1
  have fin: ∀(kp:Option dB) (m:Nat) (st1:St),(match kp with|none=>st1=st|some k=>Bd k.slots k.owns st=some st1)->iter kp (run E ex exd f x) m st1 K=some r->(Code.loop x).wpIn (FW rd) n P Q a c.w:=by
   intro kp m st1 h1 h2
   cases kp with
   |none=>simp only at h1;rw[h1]at h2;exact GZ ih m h2 hr hb hQ
   |some k=>
    obtain⟨c1,hr1,hm1,hw1⟩:=kU hr h1
    rw[<-hw1]
    exact GZ ih m h2 hr1 (Nat.le_trans hb hm1.size) fun e c' st' a' h' hr' hm'=>hQ e c' st' a' h' hr' (hm1.trans hm')
  simp only[run]at h
  split at h
  ·rename_i L hL
   replace h:=aP h
   obtain⟨hdp,h⟩:=h
   split at h
   ·rename_i v hv
    obtain⟨m,st1,h1,h2⟩:=hl.2 L hL hdp r st v K (fun slots owns st1 ht=>let⟨c1,hr1,_,_⟩:=kU hr ht;hr1.wf) hv h
    exact fin _ m st1 h1 h2
   ·cases h
  ·split at h
   ·exact fin none aO st rfl h
   ·rename_i k hk
    split at h
    ·rename_i st1 h1
     exact fin (some k) aO st1 h1 h
    ·cases h
 |exit id=>intro _ K Q c st a h hr hb hQ;exact wpIn_exit (hQ (.exit id) c st a h hr (Cx.Mono.refl c))
 |goto l=>intro _ K Q c st a h hr hb hQ;exact wpIn_goto (hQ (.goto l) c st a h hr (Cx.Mono.refl c))
 |ret=>intro _ K Q c st a h hr hb hQ;exact wpIn_ret (hQ .ret c st a h hr (Cx.Mono.refl c))
 |scope x ih=>
  intro hl K Q c st a h hr hb hQ
  replace ih:=ih hl
  simp only[run]at h
  refine WT (ih _ _ c st a h hr hb fun e c' st' a' h' hr' hm'=> ?_)
  cases e with
  |normal=>exact⟨(fun l e=>by cases e),hQ .normal c' st' a' h' hr' hm'⟩
  |exit i=>exact⟨(fun l e=>by cases e),hQ (.exit i) c' st' a' h' hr' hm'⟩
  |goto l=>simp[aex]at h'
  |ret=>exact⟨(fun l e=>by cases e),hQ .ret c' st' a' h' hr' hm'⟩
 |rangeFunc fv ps asg bd _ _=>
  intro hl K Q c st a h hr hb hQ
  simp only[run]at h
  split at h
  ·rename_i g caps hfv
   have hky: ∀k,(bif E.rf f (aQ bd)then some (aQ bd)else none)=some k->og f k=some (asg,bd):=fun k hk=>by
    cases hrf:E.rf f (aQ bd)with
    |false=>rw[hrf]at hk;cases hk
    |true=>rw[hrf]at hk;cases hk;exact hl.2.2 hrf
   have htrim: ∃fr',yP (E.kp f (500000+aQ bd)) st={st with fr:=fr'}/\aj c fr' a.tmps.toList:=by
    cases E.kp f (500000+aQ bd)with
    |none=>exact⟨st.fr,rfl,hr.fr⟩
    |some k=>exact⟨_,rfl,um _ _ _ hr.fr⟩
   obtain⟨fr',e1,e2⟩:=htrim
   rw[e1]at h
   have hgv:=aY hr.fr fv
   rw[hfv]at hgv
   exact TC (st:={st with fr:=fr'}) hex hgv hky h ⟨hr.hp,hr.nxt,hr.ok,e2,hr.stk,hr.df,hr.rd⟩ hb hQ
  ·cases h
 |refuse s=>intro _ K Q c st a h hr hb hQ;simp[run]at h
end
end Go.Proofs.YtihafdllichkeaaGreatDoor
namespace Go.Proofs.YtihafdllichkeaaGreatDoor
open Go.RowKit
set_option linter.unusedVariables false
set_option linter.unusedSimpArgs false
section
variable {P:Program} {T:TT} {W0:World} {b0:Nat} {rd:Option Nat} {R:Type} {r:R} {c:Cx} {ats:List (Array Value)}
theorem OD (hok:c.Ok W0) {x:aA} {e:Ty} {ys:List e.den} {u:Value} (h:x.as c.hp (.list e)=some ys) (hx:aF c x u) {a:Option Addr} {m cp:Nat} (hu:u=.slice a m cp):m<=cp:=by
 subst hu
 cases x with
 |val t' z=>
  simp only[aA.as]at h
  have e:=eH h
  subst e
  simp only[aF]at hx
  obtain⟨a',n,zs,h1,h2,h3,h4⟩:=jW hx
  cases h1
  exact h2
 |nils=>
  simp only[aF]at hx
  cases hx;omega
 |lst t' z b=>
  simp only[aA.as]at h
  have e:=eH h
  cases e
  simp only[aF]at hx
  obtain⟨a',n,zs,h1,h2,h3,h4⟩:=jW hx.1
  cases h1
  exact h2
 |emp=>
  simp only[aF]at hx
  obtain⟨a2,h2⟩:=hx
  cases h2;omega
 |slc id ver vw=>
  simp only[aA.as,uC]at h
  split at h
  ·rename_i t' v xs harr
   replace h:=aP h
   obtain⟨hv,h⟩:=h
   have hv:v=ver:=by simpa using hv
   subst hv
   simp only[aF]at hx
   have hx1:=(hx.2.2 _ _ _ harr).2 rfl
   obtain⟨_,e',zs,hown,hL,hty⟩:=hok.obj id _ harr
   obtain⟨a0,cp0,hv,hn,hcell⟩:=lS hown
   cases vw with
   |none=>
    simp only[fO]at hx1
    rw[hv]at hx1
    cases hx1
    exact hn
   |some p=>
    obtain⟨lo,hi⟩:=p
    simp only[fO]at hx1
    obtain⟨a',m',cp',hv',p1,p2,p3,hx1⟩:=hx1
    rw[hv]at hv'
    cases hv'
    cases hx1
    omega
  ·cases h
 |agg l=>simp[aA.as,Ty.isAgg]at h
 |_=>simp[aA.as]at h
def agG (c cb:Cx):Prop:= ∀b,b<c.w.heap.size->cb.free b/\cb.w.heap[b]? =c.w.heap[b]?
theorem yE (hok:c.Ok W0) {cb:Cx} (hs:agG c cb) {x:aA} {e:Ty} {ys:List e.den} {u:Value} (h:x.as c.hp (.list e)=some ys) (hx:aF c x u):VD cb (.list e) ys u:=by
 obtain⟨a,cp,zs,h1,h2,h3⟩:=OE hok h hx
 have h4:=OD hok h hx h1
 refine(VD.leaf rfl).2 ⟨a,cp,zs,by rw[h1],h4,dA.mono (cu.mono (fun b hb=>hs b hb.1) e) _ _ h2,h3.imp id fun⟨b,off,q1,q2,q3⟩=>⟨b,off,q1,(hs b q2).1,q3.of_block (hs b q2).2⟩⟩
theorem abp (hok:c.Ok W0) {cb:Cx} (hs:agG c cb) {v v':aA} {u:Value} (h:KW c.hp v=some v') (hv:aF c v u):aF cb v' u:=by
 cases v with
 |val t x=>
  simp only[KW,Option.some.injEq]at h
  subst h
  simp only[aF]at hv ⊢
  exact⟨fun e=>let⟨cs,h1,h2⟩:=hv.1 e;⟨cs,h1,cu.mono (fun b hb=>hs b hb.1) t x _ h2⟩,fun e=>cu.mono (fun b hb=>hs b hb.1) t x _ (hv.2 e)⟩
 |nils=>
  simp only[KW,Option.some.injEq]at h
  subst h
  simpa only[aF] using hv
 |slc id ver vw=>
  simp only[KW]at h
  split at h
  ·rename_i t w xs hg
   rw[cond_eq_ite]at h
   split at h
   ·rename_i hver
    cases h
    simp only[aF]
    refine yE hok hs (x:=.slc id ver vw) ?_ hv
    simp only[aA.as,uC,hg,hver,cond_true,dK]
   ·cases h
  ·cases h
 |_=>simp[KW]at h
theorem Je (hok:c.Ok W0) {cb:Cx} (hs:agG c cb): ∀(l l':List aA) (us:List Value),JP c.hp l=some l'->aj c l us->aj cb l' us
 |[],l',[],h,_=>by simp only[JP,Option.some.injEq]at h;subst h;simp[aj]
 |v::l,l',u::us,h,hv=>by
  simp only[JP]at h
  split at h
  ·rename_i v1 h1
   split at h
   ·rename_i l1 h2
    cases h
    simp only[aj]at hv ⊢
    exact⟨abp hok hs h1 hv.1,Je hok hs l l1 us h2 hv.2⟩
   ·cases h
  ·cases h
 |[],_,_::_,_,hv=>by simp[aj]at hv
 |_::_,_,[],_,hv=>by simp[aj]at hv
def Cx.base (c:Cx) (w:World) (bar:Nat->Prop):Cx:=⟨c.mu,[],c.nxt,w,[],bar⟩
theorem aiC {w:World} {bar:Nat->Prop} (hphi:VY w) (hb: ∀b,bar b->b<w.heap.size):(c.base w bar).Ok w:=
 ⟨Below.refl _ _,fun id o h=>by simp[Cx.base,aX]at h,fun i j o p b h=>by simp[Cx.base,aX]at h,fun r hr=>by simp[Cx.base]at hr,fun b h=>⟨hb b h,(by rintro ⟨i,o,h,_⟩;simp[Cx.base,aX]at h),by simp[Cx.base]⟩,hphi⟩
theorem adD {w:World} {bar:Nat->Prop} {b:Nat}:(c.base w bar).free b↔b<w.heap.size/\ ¬bar b:=by
 constructor
 ·intro h;exact⟨h.1,h.2.2.2⟩
 ·rintro ⟨h1,h2⟩
  exact⟨h1,(by rintro ⟨i,o,h,_⟩;simp[Cx.base,aX]at h),by simp[Cx.base],h2⟩
theorem aga {w:World} {bar:Nat->Prop} (hphi:VY w) (hb: ∀b,bar b->b<w.heap.size) {nx:Nat} (hn:nx=c.nxt):fH w 0 none (c.base w bar) ⟨[],[],[],nx⟩ ⟨#[],[]⟩ []:=
 ⟨rfl,hn.symm,aiC hphi hb,by simp[aj],trivial,⟨[],rfl,List.nodup_nil,fun r hr=>by simp at hr⟩,fun l hl=>by cases hl⟩
theorem ORel.le0 {B:Nat} {c c':Cx} {id:Nat} {o:aW} (h:c.ORel B id o) (hl:c.Le0 c') (hm:c'.mu id=c.mu id) (hb: ∀b,o.blk (c.mu id)=some b->c'.w.heap[b]? =c.w.heap[b]?):c'.ORel B id o:=by
 cases o with
 |box e cs=>
  obtain⟨h1,vs,h2,h3,h4⟩:=h
  refine⟨by rw[hm];exact h1,vs,by rw[hm,hb _ rfl];exact h2,aj.le0 hl _ _ h3,h4⟩
 |arr t ver xs=>
  obtain⟨h0,e,zs,h1,h2,h3⟩:=h
  refine⟨h0,e,zs, ?_,dA.mono (cu.mono hl.free t) _ _ h2,h3⟩
  rw[hm]
  exact tq h1 fun b hb'=>hb b hb'
 |lp f fr ps asg bd ky n p=>
  obtain⟨h0,h1,L,h2,h3,h4⟩:=h
  exact⟨h0,by rw[hm];exact h1,L,by rw[hm,hb _ rfl];exact h2,aj.le0 hl _ _ h3,h4⟩
 |dead=>trivial
 |mp kk vk es=>
  obtain⟨h1,ms,cl,h2,h3⟩:=h
  exact⟨by rw[hm];exact h1,ms,cl,by rw[hm,hb _ rfl];exact h2,h3⟩
theorem Cx.Le0.trans {a b c:Cx} (h:a.Le0 b) (k:b.Le0 c):a.Le0 c:=
 ⟨fun x hx=>⟨(k.out x (h.out x hx).1).1,(k.out x (h.out x hx).1).2.trans (h.out x hx).2⟩,fun i hi=>k.ref i (h.ref i hi),fun i o hi ho=>by
  obtain⟨o1,h1,h2⟩:=k.obj i o (h.ref i hi) ho
  obtain⟨o2,h3,h4⟩:=h.obj i o1 hi h1
  exact⟨o2,h3,aW.like_trans h4 h2⟩,k.bar.trans h.bar⟩
theorem G6 {n:Nat} {fn:Func} {tmps:Array Value} {Rr:Ending->World->Prop}: ∀(ds:List Nat) (c:Cx),c.Ok W0->ds.Nodup->(∀r∈ds,r∈c.mks)->
  ∃c',c'.hp=c.hp/\c'.nxt=c.nxt/\c.Le0 c'/\c'.Ok W0/\(∀r∈c.mks,r∉ds->r∈c'.mks)/\(∀(b:Nat) (L:Loop),c.w.heap[b]? =some (Obj.loop L)-> ∃L':Loop,c'.w.heap[b]? =some (Obj.loop L'))/\c.w.heap.size<=c'.w.heap.size/\c'.bar=c.bar/\
   (LeavesIn (FW none) n P fn tmps Rr [] .returning c'.w->LeavesInM (FW none) n P fn tmps Rr (ds.map mkD) .returning c.w)
 |[],c,hok,_,_=>⟨c,rfl,rfl,(Cx.Le.refl c).le0,hok,fun r hr _=>hr,fun b L hL=>⟨L,hL⟩,Nat.le_refl _,rfl,fun h=>h⟩
 |d::ds,c,hok,hnd,hmem=>by
  obtain⟨hnd1,hnd2⟩:=List.nodup_cons.1 hnd
  have hd:=hmem d (by simp)
  have hdk:=hok.mks d hd
  have hlt:=hok.mark_lt hd
  let c1:Cx:={c with w:=c.w.putObj d (.deferred none),mks:=c.mks.filter fun r=>r !=d}
  have hother: ∀b,b≠d->c1.w.heap[b]? =c.w.heap[b]? :=fun b hb=>World.putObj_heap_other hb
  have hle:c.Le0 c1:=⟨fun b hb=>⟨⟨by simpa [c1] using hb.1,hb.2.1,(fun hm=>hb.2.2 (List.mem_filter.1 hm).1)⟩,hother b fun e=>hb.2.2 (e▸hd)⟩,fun _ h=>h,fun id o _ ho=>⟨o,ho,o.like_refl _⟩,rfl⟩
  have hok1:c1.Ok W0:=by
   refine⟨⟨hok.bel.os,hok.bel.tape,hok.bel.output,by simpa [c1] using hok.bel.size,fun j hj=>(hother j (by have:=hdk.1;omega)).trans (hok.bel.block j hj)⟩,fun id o ho=>ORel.le0 (hok.obj id o ho) hle rfl fun b hb=>hother b fun e=> ?_,hok.inj,fun r hr=> ?_,fun b hb=>(hle.out b (hok.bar b hb)).1,hok.phi⟩
   ·subst e;exact(hok.obj id o ho).no_mark hb hdk.2
   ·obtain⟨hr1,hr2⟩:=List.mem_filter.1 hr
    have hr2:r≠d:=by simpa using hr2
    exact⟨(hok.mks r hr1).1,(hother r hr2).trans (hok.mks r hr1).2⟩
  obtain⟨c2,e1,e2,e3,e4,e5,e6,e7,ebar,e8⟩:=G6 (n:=n) (fn:=fn) (tmps:=tmps) (Rr:=Rr) ds c1 hok1 hnd2 fun r hr=>List.mem_filter.2 ⟨hmem r (by simp[hr]),by
   have:r≠d:=fun e=>hnd1 (e▸hr)
   simpa using this⟩
  refine⟨c2,e1,e2,hle.trans e3,e4,fun r hr hr2=> ?_,fun b L hL=> ?_, ?_,ebar,fun h=> ?_⟩
  ·simp only[List.mem_cons,not_or]at hr2
   exact e5 r (List.mem_filter.2 ⟨hr,by simpa using hr2.1⟩) hr2.2
  ·have:b≠d:=fun e=>by subst e;rw[hdk.2]at hL;cases hL
   exact e6 b L ((hother b this).trans hL)
  ·have:c.w.heap.size=c1.w.heap.size:=by simp[c1]
   omega
  ·exact⟨by simp,.inl ⟨d,_,rfl,run_takeDeferred hdk.2,e8 h⟩⟩
theorem ahM {t:TypeId} {v u:Value} {w w':World} (h:(Instr.loadAt t v).run P w=.ok u w'):(do loadVar t (<-asAddr v):Sem Value).run P w=.ok u w':=by
 unfold Instr.loadAt at h
 cases v<;>try (simp[Instr.sureAddr,stuck,Sem.run_bind,Result.andThen]at h;done)
 rename_i p
 cases p<;>first|exact h|(simp[Instr.sureAddr,stuck,Sem.run_bind,Result.andThen]at h)
def CY (tmps:Array Value):ResultVar->Sem Value
 |.tmp t=>pure (tmps.getD t undef)
 |.cell a t=>do loadVar t (<-asAddr (tmps.getD a undef))
theorem sK (hT:TOk P T) (hok:c.Ok W0) {st:St} {tmps:Array Value} (hhp:c.hp=st.hp) (hfr:aj c st.fr tmps.toList): ∀(l:List ResultVar) (K:List aA->Option R),mQ T st l K=some r->
  ∃vs us,K vs=some r/\aj c vs us/\(l.mapM (CY tmps)).run P c.w=.ok us c.w
 |[],K,h=>⟨[],[],h,by simp[aj],rfl⟩
 |.tmp t::l,K,h=>by
  simp only[mQ]at h
  obtain⟨vs,us,h1,h2,h3⟩:=sK hT hok hhp hfr l _ h
  refine⟨_,tmps.getD t undef::us,h1,by simp only[aj];exact⟨hfr.getD t,h2⟩, ?_⟩
  simp only[List.mapM_cons,Sem.run_bind,CY,Sem.run_pure,Result.andThen_ok,h3]
 |.cell a t::l,K,h=>by
  simp only[mQ]at h
  rw[<-hhp]at h
  obtain⟨z,u,h1,h2,h3⟩:=afb hT hok h (hfr.getD a)
  obtain⟨vs,us,h4,h5,h6⟩:=sK hT hok hhp hfr l _ h1
  refine⟨_,u::us,h4,by simp only[aj];exact⟨h2,h5⟩, ?_⟩
  have h7:=ahM (h3 c.w (Below.refl _ _))
  simp only[List.mapM_cons,Sem.run_bind,CY]at h7 ⊢
  rw[h7]
  simp only[Result.andThen_ok,Sem.run_bind,h6,Sem.run_pure]
def D9:List Value->Value
 |[v]=>v
 |vs=>.tuple vs.toArray
theorem uk {vs:List aA} {us:List Value} (h:aj c vs us):aF c (Bj vs) (D9 us):=by
 match vs,us,h with
 |[],[],h=>simp only[Bj,D9,aF];exact⟨_,rfl,by simp[aj]⟩
 |[v],[u],h=>simpa [Bj,D9,aj] using h
 |v::v2::vs,u::u2::us,h=>simp only[Bj,D9,aF];exact⟨_,rfl,by simpa using h⟩
 |[],_::_,h=>simp[aj]at h
 |_::_,[],h=>simp[aj]at h
 |[_],_::_::_,h=>simp[aj]at h
 |_::_::_,[_],h=>simp[aj]at h
theorem UV {fn:Func} {tmps:Array Value} {us:List Value} {w:World} (h:(fn.results.toList.mapM (CY tmps)).run P w=.ok us w):(results fn tmps).run P w=.ok (D9 us) w:=by
 have e:results fn tmps=(do let vs<-fn.results.mapM (CY tmps);pure (if h:vs.size=1 then vs[0]else .tuple vs)):=rfl
 have h2:(fn.results.mapM (CY tmps)).run P w=.ok us.toArray w:=by
  rw[Array.mapM_eq_mapM_toList,Sem.run_map,h]
  rfl
 rw[e,Sem.run_bind,h2]
 match us with
 |[]=>rfl
 |[v]=>rfl
 |v::v2::vs=>rfl
end
end Go.Proofs.YtihafdllichkeaaGreatDoor
namespace Go.Proofs.YtihafdllichkeaaGreatDoor
open Go.RowKit
set_option linter.unusedVariables false
set_option linter.unusedSimpArgs false
def BC (P:Program):Prop:= ∀(f:FuncId) (fn:Func) (c:Code),P.funcs[f]? =some fn->fn.body=some c->(fn.name== "runtime.NumGoroutine")=false
def xf {R:Type} (P:Program) (W0:World) (ex:jH R):Prop:=
 ∀(id:Nat) (args:List aA) (st:St) (K:aA->St->Option R) (r:R),ex (.yield id args) st K=some r->
  ∀(b0:Nat) (rd:Option Nat) (c:Cx) (a:Act) (ats:List (Array Value)) (args':Array Value),fH W0 b0 rd c st a ats->aj c args args'.toList->
   (∃f fr ps asg bd ky k p,aX st.hp id=some (.lp f fr ps asg bd ky k p))/\
   ∀Rr:Ending->World->Prop,(∀c' z u st',K z st'=some r->fH W0 b0 rd c' st' a ats->aF c' z u->c.Mono c'->Rr (.returned u) c'.w)->
    ∀n,∃g tmps asg bd,(Instr.yield (c.mu id).blk args').run P c.w=.ok (.round (c.mu id).blk g tmps asg bd) c.w/\RoundIn (FW rd) n P (c.mu id).blk g tmps asg bd c.w Rr
def wJ {R:Type} (g:FuncId) (s:Sum) (cl:Bool):dI R:=fun fv args dst st K=>match fv with
 |.fn g' caps=>if g'=g then s.call cl (args++caps) dst st K else none
 |_=>none
def uX (P:Program) (g:FuncId):Prop:= ∀(w:World) (b:Nat),w.shape? b=some (MR,2)->w.frozen? ⟨b,0,none⟩=false->
 (callFunc g #[.pointer (some ⟨b,0,none⟩)]).run P w=.ok (.enter g #[.pointer (some ⟨b,0,none⟩)]) w/\
 (w.cell? ⟨b,0,none⟩=some (.pointer (some ⟨b,0,none⟩))->Calls P g #[.pointer (some ⟨b,0,none⟩)] w fun e w'=>e=.returned (.tuple #[])/\w'=w)/\
 (w.cell? ⟨b,0,none⟩=some (.pointer none)->Calls P g #[.pointer (some ⟨b,0,none⟩)] w fun e w'=>e=.returned (.tuple #[])/\w'=w.setCell ⟨b,0,none⟩ (.pointer (some ⟨b,0,none⟩)))
def C9 {R:Type} (g:FuncId) (s:gq) (cl:Bool):dI R:=fun fv args dst st K=>match fv with
 |.fn g' caps=>if g'=g then s.call cl (args++caps) st K else none
 |_=>none
structure qx (P:Program) (E:Env):Prop where
 T:TOk P E.T
 x: ∀(R:Type) (W0:World) (n:Nat) (g:FuncId) (s:gq),E.sb g=some s->jA (R:=R) P W0 n (C9 g s E.cl)
 b: ∀g,E.bf g=true->uX P g
 v: ∀(R:Type) (W0:World) (n:Nat) (g:FuncId) (s:Sum),E.sg g=some s->jA (R:=R) P W0 n (wJ g s E.cl)
 q: ∀(R:Type) (g:FuncId) (s:Sum),E.sg g=some s->(s.rs.all fun r=> !r.2&&r.1.rigid)=true->jM (R:=R) P (wJ g s E.cl)
section
variable {P:Program} {T:TT} {W0:World} {b0:Nat} {rd:Option Nat} {R:Type} {r:R} {c:Cx} {ats:List (Array Value)}
theorem AP (hng:BC P) {f:FuncId} {fn:Func} {cd:Code} (hf:P.funcs[f]? =some fn) (hb:fn.body=some cd) (args:Array Value) (w:World):(callFunc f args).run P w=.ok (.enter f args) w:=by
 have h1:=hng f fn cd hf hb
 unfold callFunc
 simp only[go_sem,Sem.run_bind,program,Sem.run,hf,h1,hb,Option.isNone_some,Bool.false_eq_true,if_false,Result.andThen_ok]
 rfl
theorem lK {g:FuncId} {vs args:Array Value} {w:World}:(do let d<-Deferred.ofValue (.func (.func g) #[] vs) args;invoke d.target d.args:Sem Next).run P w=(callFunc g (args++vs)).run P w:=by
 simp[Deferred.ofValue,invoke,Sem.run_bind]
theorem GM {g:FuncId} {vs args:Array Value} {w:World}:(do let d<-Deferred.ofValue (.func (.func g) vs #[]) args;invoke d.target d.args:Sem Next).run P w=(callFunc g (vs++args)).run P w:=by
 simp[Deferred.ofValue,invoke,Sem.run_bind]
theorem Nj {l:Nat} {args:Array Value} {w:World}:(do let d<-Deferred.ofValue (.func (.yield l) #[] #[]) args;invoke d.target d.args:Sem Next).run P w=(Instr.yield l args).run P w:=by
 simp[Deferred.ofValue,invoke,Sem.run_bind]
theorem aj.append_arr {l m:List aA} {xs ys:Array Value} (h:aj c l xs.toList) (k:aj c m ys.toList):aj c (l++m) (xs++ys).toList:=by
 rw[Array.toList_append]
 exact aj.append _ _ _ _ h k
theorem LV: ∀(h:dN) (i:Nat) (o:aW),aX h i=some o->gB h i o=h
 |[],_,_,_=>rfl
 |(k,p)::h,i,o,hg=>by
  rw[bH]at hg
  simp only[gB]
  by_cases e:k=i
  ·subst e
   simp only[if_true,Option.some.injEq]at hg
   subst hg
   simp
  ·rw[if_neg e]at hg
   have e':(k==i)=false:=by simpa using e
   simp[e',LV h i o hg]
theorem UK {g:FuncId} (hT:TOk P T) (hg:uX P g) {args:List aA} {st:St} {K:aA->St->Option R} (h:IG T args st K=some r) {a:Act} (hr:fH W0 b0 rd c st a ats) {us:Array Value} (hv:aj c args us.toList)
  (Rr:Ending->World->Prop) (hR: ∀c' z u st',K z st'=some r->fH W0 b0 rd c' st' a ats->aF c' z u->c.Mono c'->Rr (.returned u) c'.w):
  (callFunc g us).run P c.w=.ok (.enter g us) c.w/\Calls P g us c.w Rr:=by
 unfold IG at h
 split at h<;>try (cases h;done)
 rename_i id
 split at h<;>try (cases h;done)
 rename_i t i i1 v1 w1 hbx
 replace h:=aP h
 obtain⟨hc,h⟩:=h
 simp only[Bool.and_eq_true]at hc
 obtain⟨hi,hk,hb⟩:=hc
 have hi:i=id:=Nat.eq_of_beq_eq_true hi
 subst hi
 have ht:=hT.bldr hk hb
 rw[<-hr.hp]at hbx
 obtain⟨hB,vs,hw,hvs,hone⟩:=hr.ok.obj i _ hbx
 obtain⟨us⟩:=us
 match us,hv with
 |[u],hv=>
  simp only[aj,aF,and_true]at hv
  have hu:=hv.2.2 _ _ hbx
  subst hu
  obtain⟨vs⟩:=vs
  match vs,hvs with
  |[p,q],hvs=>
   simp only[aj,and_true]at hvs
   have hself:=hvs.1
   simp only[aF]at hself
   have hself:=hself.2.2 _ _ hbx
   rw[ht]at hw
   have hw':c.w.heap[(c.mu i).blk]? =some (.cells #[p,q] MR (0,0)):=hw
   have hcell:c.w.cell? ⟨(c.mu i).blk,0,none⟩=some p:=by simp[World.cell?,hw']
   obtain⟨h1,h2,h3⟩:=hg c.w (c.mu i).blk (by simp[World.shape?,hw']) (by simp[World.frozen?,hw'])
   refine⟨h1, ?_⟩
   have hunit: ∀c',aF c' (.tup []) (.tuple #[]):=fun c'=>by simp only[aF];exact⟨#[],rfl,by simp[aj]⟩
   rcases hself with e|e
   ·subst e
    refine(h3 hcell).mono ?_
    rintro e w' ⟨rfl,rfl⟩
    have hlt:(c.mu i).blk<c.w.heap.size:=(Array.getElem?_eq_some_iff.1 hw').1
    have hwn:(c.w.setCell ⟨(c.mu i).blk,0,none⟩ (.pointer (some ⟨(c.mu i).blk,0,none⟩))).heap[(c.mu i).blk]? =some (.cells #[.pointer (some ⟨(c.mu i).blk,0,none⟩),q] MR (0,0)):=by
     simp[World.setCell,Array.getElem?_modify,hw']
    have hother: ∀b,(c.mu i).blk≠b->(c.w.setCell ⟨(c.mu i).blk,0,none⟩ (.pointer (some ⟨(c.mu i).blk,0,none⟩))).heap[b]? =c.w.heap[b]? :=fun b hb=>by
     simp[World.setCell,Array.getElem?_modify,hb]
    have hsz:(c.w.setCell ⟨(c.mu i).blk,0,none⟩ (.pointer (some ⟨(c.mu i).blk,0,none⟩))).heap.size=c.w.heap.size:=by simp[World.setCell]
    have hlp: ∀(b:Nat) (L:Loop),(aW.box t [.slf i,.slc i1 v1 w1]).blk (c.mu i)=some b->c.w.heap[b]? =some (Obj.loop L)-> ∃L':Loop,(c.w.setCell ⟨(c.mu i).blk,0,none⟩ (.pointer (some ⟨(c.mu i).blk,0,none⟩))).heap[b]? =some (Obj.loop L'):=fun b L hb hL=>absurd hL ((hr.ok.obj i _ hbx).no_loop (by simp) hb)
    have hbb: ∀b,b<c.w.heap.size->(aW.box t [.slf i,.slc i1 v1 w1]).blk (c.mu i)≠some b->(c.w.setCell ⟨(c.mu i).blk,0,none⟩ (.pointer (some ⟨(c.mu i).blk,0,none⟩))).heap[b]? =c.w.heap[b]? :=fun b _ hne=>hother b fun e=>hne (by simp[aW.blk,e])
    have hll: ∀b,(aW.box t [.slf i,.slc i1 v1 w1]).blk (c.mu i)=some b->(aW.box t [.slf i,.slc i1 v1 w1]).blk (c.mu i)=some b\/c.w.heap.size<=b:=fun b hb=>.inl hb
    have hBel:Below W0.heap.size W0 (c.w.setCell ⟨(c.mu i).blk,0,none⟩ (.pointer (some ⟨(c.mu i).blk,0,none⟩))):=
     ⟨hr.ok.bel.os,hr.ok.bel.tape,hr.ok.bel.output,by rw[hsz];exact hr.ok.bel.size,fun b hb=>(hother b (by omega)).trans (hr.ok.bel.block b hb)⟩
    have hlike:=aW.like_refl (.box t [.slf i,.slc i1 v1 w1]) (c.mu i)
    have hle:=Cx.Le.put hr.ok hbx hlike (Nat.le_of_eq hsz.symm) hbb hll hlp
    have hd:wF W0 c st (c.put i (.box t [.slf i,.slc i1 v1 w1]) (c.mu i) (c.w.setCell ⟨(c.mu i).blk,0,none⟩ (.pointer (some ⟨(c.mu i).blk,0,none⟩)))) st:=by
     refine⟨by simp only[Cx.put];rw[LV _ _ _ hbx,hr.hp],hr.nxt,rfl,rfl,Cx.Ok.put hr.ok hbx hlike hBel (Nat.le_of_eq hsz.symm) hbb hll hlp ?_,hle⟩
     refine⟨by simp only[Cx.put,upd_same];exact hB,#[.pointer (some ⟨(c.mu i).blk,0,none⟩),q], ?_, ?_, ?_⟩
     ·simp only[Cx.put,upd_same];rw[ht];exact hwn
     ·simp only[aj,and_true]
      refine⟨?_,aF.le hle _ _ hvs.2⟩
      simp only[aF]
      exact⟨rfl,.inl ⟨_,Cx.put_get hbx⟩,fun _ _ _=>.inr (by simp[Cx.put,upd_same])⟩
     ·intro u hu
      simp only[List.mem_cons,List.not_mem_nil,or_false]at hu
      rcases hu with rfl|rfl
      ·rfl
      ·exact hone _ (by simp)
    exact hR _ (.tup []) (.tuple #[]) st h (hr.did hd) (hunit _) hle.mono
   ·subst e
    refine(h2 hcell).mono ?_
    rintro e w' ⟨rfl,rfl⟩
    exact hR c (.tup []) (.tuple #[]) st h hr (hunit _) (Cx.Mono.refl c)
theorem iU {E:Env} (hS:qx P E) {ex:jH R} (hc:oO P W0 ex) (hy:xf P W0 ex) (n:Nat):jA P W0 n (qi E ex):=by
 intro b0 rd fv args dst st K r h c a ats fv' args' hr hfv hargs o next Q hn
 cases fv with
 |fn g caps=>
  simp only[qi]at h
  split at h
  ·rename_i s hs
   exact hS.v R W0 n g s hs b0 rd (.fn g caps) args dst st K r (by simp only[wJ,if_true];exact h) c a ats fv' args' hr hfv hargs o next Q hn
  split at h
  ·rename_i s hs
   exact hS.x R W0 n g s hs b0 rd (.fn g caps) args dst st K r (by simp only[C9,if_true];exact h) c a ats fv' args' hr hfv hargs o next Q hn
  ·rw[cond_eq_ite]at h
   split at h
   ·rename_i hbf
    simp only[aF]at hfv
    obtain⟨vs,rfl,hcaps⟩:=hfv
    obtain⟨h1,h2⟩:=UK hS.T (hS.b g hbf) h hr (us:=args'++vs) (aj.append_arr hargs hcaps)
     (fun e w''=>match e with
      |.returned v=>next (a.put o.dst v) w''
      |.panicked chain=>Q (.panic chain) a w''
      |.outgrown=>LetsOut Q) (fun c' z u st' k1 k2 k3 k4=>hn c' z u st' k1 k2 k3 k4)
    rw[lK,h1]
    exact⟨oz rd,(uf h2).mono fun e w'' he=>by cases e<;>exact he⟩
   simp only[aF]at hfv
   obtain⟨vs,rfl,hcaps⟩:=hfv
   obtain⟨h1,h2⟩:=hc g (args++caps) st K r h b0 rd c a ats (args'++vs) hr (aj.append_arr hargs hcaps)
    (fun e w''=>match e with
     |.returned v=>next (a.put o.dst v) w''
     |.panicked chain=>Q (.panic chain) a w''
     |.outgrown=>LetsOut Q) (fun c' z u st' k1 k2 k3 k4=>hn c' z u st' k1 k2 k3 k4)
   rw[lK,h1]
   exact⟨oz rd,(uf h2).mono fun e w'' he=>by cases e<;>exact he⟩
 |mfn g fst=>
  simp only[qi]at h
  simp only[aF]at hfv
  obtain⟨vs,rfl,hfst⟩:=hfv
  split at h
  ·rename_i s hs
   have h0:=hS.x R W0 n g s hs b0 rd (.fn g []) (fst++args) dst st K r (by simp only[C9,if_true,List.append_nil];exact h) c a ats (.func (.func g) #[] #[]) (vs++args') hr (by simp only[aF];exact⟨#[],rfl,by simp[aj]⟩) (aj.append_arr hfst hargs) o next Q hn
   rw[lK]at h0
   rw[GM]
   simpa using h0
  obtain⟨h1,h2⟩:=hc g (fst++args) st K r h b0 rd c a ats (vs++args') hr (aj.append_arr hfst hargs)
   (fun e w''=>match e with
    |.returned v=>next (a.put o.dst v) w''
    |.panicked chain=>Q (.panic chain) a w''
    |.outgrown=>LetsOut Q) (fun c' z u st' k1 k2 k3 k4=>hn c' z u st' k1 k2 k3 k4)
  rw[GM,h1]
  exact⟨oz rd,(uf h2).mono fun e w'' he=>by cases e<;>exact he⟩
 |yld id=>
  simp only[qi]at h
  obtain⟨⟨f,fr,ps,asg,bd,ky,k,p,hg⟩,h2⟩:=hy id args st K r h b0 rd c a ats args' hr hargs
  simp only[aF]at hfv
  have:=hfv.2.2 f fr ps asg bd ky k p (by rw[hr.hp];exact hg)
  subst this
  obtain⟨g,tmps,asg,bd,h3,h4⟩:=h2
    (fun e w''=>match e with
     |.returned v=>next (a.put o.dst v) w''
     |.panicked chain=>Q (.panic chain) a w''
     |.outgrown=>LetsOut Q) (fun c' z u st' k1 k2 k3 k4=>hn c' z u st' k1 k2 k3 k4) (n-1)
  rw[Nj,h3]
  exact⟨oz rd,h4.mono fun e w'' he=>by cases e<;>exact he⟩
 |_=>simp[qi]at h
theorem x9 {E:Env} (hS:qx P E) {exR:jH aA} (hc: ∀W0,oO P W0 exR):jM (R:=R) P (Ih E fun j st=>exR j st fun v _=>some v):=by
 intro W0 b0 rd fv args dst st K r h c a ats fv' args' hr hfv hargs
 cases fv with
 |fn g caps=>
  cases caps with
  |nil=>
   simp only[Ih]at h
   split at h
   ·rename_i s hs
    rw[cond_eq_ite]at h
    split at h
    ·rename_i hall
     exact hS.q R g s hs hall W0 b0 rd (.fn g []) args dst st K r (by simp only[wJ,if_true,List.append_nil];exact h) c a ats fv' args' hr hfv hargs
    ·cases h
   ·split at h
    ·rename_i args2 ha2
     split at h
     ·rename_i v hv
      rw[cond_eq_ite]at h
      split at h
      ·rename_i hrig
       simp only[aF]at hfv
       obtain⟨vs,rfl,hcaps⟩:=hfv
       have hvs:vs= #[]:=by
        have:=aj.length _ _ hcaps
        simp at this
        exact Array.eq_empty_of_size_eq_zero this.symm
       subst hvs
       refine⟨v,rv v,h,(Aa hrig _).2 rfl,fun w' hw'=>.inl ⟨g,args', ?_⟩⟩
       have hbr:fH w' 0 none (c.base w' fun _=>False) ⟨[],[],[],st.nxt⟩ ⟨#[],[]⟩ []:=aga (VY.below hw' hr.ok.phiw) (fun b h=>h.elim) hr.nxt.symm
       have hsees:agG c (c.base w' fun _=>False):=fun b hb=>⟨adD.2 ⟨Nat.lt_of_lt_of_le hb hw'.size,fun h=>h⟩,hw'.block b hb⟩
       obtain⟨h1,h2⟩:=hc w' g args2 _ _ v hv 0 none _ _ [] args' hbr (Je hr.ok hsees _ _ _ (by rw[hr.hp];exact ha2) hargs)
        (fun e w''=>e=.returned (rv v)/\y7 c w'') (fun c' z u st' k1 k2 k3 k4=>by
         simp only[Option.some.injEq]at k1
         subst k1
         refine⟨by rw[(Aa hrig u).1 k3], ?_⟩
         exact hw'.trans (k2.ok.bel.mono hw'.size))
       refine⟨?_,h2⟩
       rw[lK,Array.append_empty]
       exact h1
      ·cases h
     ·cases h
    ·cases h
  |cons _ _=>simp[Ih]at h
 |_=>simp[Ih]at h
theorem zf: ∀k,aj c (List.replicate k (.tup [])) (List.replicate k undef)
 |0=>by simp[aj]
 |k+1=>by
  simp only[List.replicate_succ,aj,aF]
  exact⟨⟨#[],rfl,by simp[aj]⟩,zf k⟩
theorem QC {l:Nat} {Rr:Ending->World->Prop} {e:Ex} {a:Act} {w:World} (h: ∃v w',(Instr.endRound l e.code).run P w=.ok v w'/\Rr (.returned v) w'):roundPost P l Rr e.xt a w:=by
 cases e<;>exact h
theorem zt: ∀(ps:List Nat) (fr args:List aA) (args':List Value) (tmps:Array Value),aj c fr tmps.toList->aj c args args'->aj c (mM fr ps args) ((ps.zip args').foldl (fun tmps (t,a)=>tmps.setIfInBounds t a) tmps).toList
 |[],fr,args,args',tmps,h,_=>by cases args<;>simpa [mM] using h
 |p::ps,fr,[],[],tmps,h,_=>by simpa [mM] using h
 |p::ps,fr,v::args,u::args',tmps,h,hv=>by
  simp only[aj]at hv
  simp only[mM,List.zip_cons_cons,List.foldl_cons]
  refine zt ps _ args args' _ ?_ hv.2
  rw[Array.toList_setIfInBounds]
  exact aj.set hv.1 p _ _ h
 |p::ps,fr,[],_::_,tmps,h,hv=>by simp[aj]at hv
 |p::ps,fr,_::_,[],tmps,h,hv=>by simp[aj]at hv
end
end Go.Proofs.YtihafdllichkeaaGreatDoor
namespace Go.Proofs.YtihafdllichkeaaGreatDoor
open Go.RowKit
set_option linter.unusedVariables false
set_option linter.unusedSimpArgs false
section
variable {P:Program} {T:TT} {W0:World} {b0:Nat} {rd:Option Nat} {R:Type} {r:R} {c:Cx} {ats:List (Array Value)}
def mX (P:Program) (E:Env):Prop:= ∀(f:FuncId) (fn:Func) (c:Code),P.funcs[f]? =some fn->fn.body=some c->cZ E f c
def Xk (E:Env):Prop:= ∀f k asg bd,og f k=some (asg,bd)->cZ E f asg/\cZ E f bd
theorem lZ {E:Env} {ex:jH R} {exd:N8} {f:FuncId} {k:Nat} {x y:Code}: ∀c:Code,gK E ex exd f c->zN c k=some (x,y)->gK E ex exd f x/\gK E ex exd f y
 |.rangeFunc _ _ asg bd,hl,h=>by
  simp only[zN]at h
  split at h
  ·cases h;exact⟨hl.1,hl.2.1⟩
  ·split at h
   ·rename_i z hz;cases h;exact lZ asg hl.1 hz
   ·exact lZ bd hl.2.1 h
 |.seq a b,hl,h=>by
  simp only[zN]at h
  split at h
  ·rename_i z hz;cases h;exact lZ a hl.1.1 hz
  ·exact lZ b hl.2 h
 |.cond _ a b,hl,h=>by
  simp only[zN]at h
  split at h
  ·rename_i z hz;cases h;exact lZ a hl.1 hz
  ·exact lZ b hl.2 h
 |.block _ c,hl,h=>lZ c hl h
 |.loop c,hl,h=>lZ c hl.1 h
 |.scope c,hl,h=>lZ c hl h
 |.skip,_,h|.label _,_,h|.region _ _ _,_,h|.exit _,_,h|.goto _,_,h|.ret,_,h|.refuse _,_,h=>by simp[zN]at h
theorem aj2 {P:Program} {E:Env} (h:mX P E): ∀f k asg bd,amB P f k=some (asg,bd)->cZ E f asg/\cZ E f bd:=fun f k asg bd hr=>by
 unfold amB at hr
 split at hr
 ·rename_i fn hf
  split at hr
  ·rename_i c hb
   exact⟨fun R m=>(lZ c (h f fn c hf hb R m) hr).1,fun R m=>(lZ c (h f fn c hf hb R m) hr).2⟩
  ·cases hr
 ·cases hr
theorem PD {P:Program} {E:Env} (h:qx P E): ∀R:Type,jM (R:=R) P (yX E.sg E.cl):=fun R W0 b0 rd fv args dst st K r hr c a ats fv' args' h1 h2 h3=>by
 unfold yX at hr
 split at hr
 ·rename_i g
  split at hr
  ·rename_i s hs
   replace hr:=aP hr
   obtain⟨h4,hr⟩:=hr
   simp only[Bool.and_eq_true]at h4
   exact h.q R g s hs h4.1 W0 b0 rd (.fn g []) args dst st K r (by simp only[wJ,if_true,List.append_nil];exact hr) c a ats fv' args' h1 h2 h3
  ·cases hr
 ·cases hr
theorem qx.at {P:Program} {E:Env} (h:qx P E) (n:Nat):qx P (E.at n):=⟨h.T,h.x,h.b,h.v,h.q⟩
theorem afF {st:St} {K:St->Option R} (h:pop st K=some r): ∃fr stk,st.stk=fr::stk/\K {st with fr:=fr,stk:=stk}=some r:=by
 unfold pop at h
 split at h
 ·rename_i fr stk he
  exact⟨fr,stk,he,h⟩
 ·cases h
theorem wV {v:aA} {u:Value} {c0 c1:Cx} {st st1:St} {a:Act} {mark:Nat} (hr0:fH W0 b0 rd c0 st a ats) (hr1:c1.Ok W0) (hhp:c1.hp=st1.hp) (hnx:c1.nxt=st1.nxt) (hfr:st1.fr=[]) (hstk:wB c1 st1.stk (a.tmps::ats))
  (hm:c0.Mono c1) (hv:aF c1 v u) {K:aA->St->Option R} (h:(match gc mark v st1 with|some st2=>pop st2 (K v)|none=>none)=some r):
  ∃c' st',K v st'=some r/\fH W0 b0 rd c' st' a ats/\aF c' v u/\c0.Mono c'/\c'.w=c1.w:=by
 have hr:fH W0 0 none c1 st1 ⟨#[],[]⟩ (a.tmps::ats):=⟨hhp,hnx,hr1,by rw[hfr];simp[aj],hstk,⟨[],rfl,List.nodup_nil,fun r hr=>by simp at hr⟩,fun l hl=>by cases hl⟩
 split at h
 ·rename_i st2 h2
  obtain⟨c2,hr2,hv2,hm2,hw2,hs2,_⟩:=hr.gc hv h2
  obtain⟨fr,stk,hs,h⟩:=afF h
  have hstk2:=hr2.stk
  rw[hs]at hstk2
  refine⟨c2,_,h,⟨hr2.hp,hr2.nxt,hr2.ok,hstk2.1,hstk2.2, ?_,fun l hl=> ?_⟩,hv2,hm.trans hm2,hw2⟩
  ·obtain⟨ds,h1,h3,h4⟩:=hr0.df
   exact⟨ds,h1,h3,fun x hx=>⟨hm2.mks x (hm.mks x (h4 x hx).1),(h4 x hx).2⟩⟩
  ·obtain⟨L,hL⟩:=hr0.rd l hl
   obtain⟨L1,hL1⟩:=hm.lp l L hL
   exact hm2.lp l L1 hL1
 ·cases h
theorem acu (hT:TOk P T) (hm:P.follows .mixedOrders=true) (hng:BC P) {E:Env} (hEP:E.P=P) (hET:E.T=T) (hS:qx P E) (hlo:mX P E) (hrf:Xk E) {m:Nat} (ih: ∀(R:Type) (W0:World),oO P W0 (exec E m (R:=R))/\xf P W0 (exec E m (R:=R))):
  oO P W0 (exec E (m+1) (R:=R)):=by
 intro f args st K r h b0 rd c a ats args' hr hargs Rr hR
 simp only[exec]at h
 rw[hEP]at h
 split at h
 ·cases h
 ·rename_i fn hf
  split at h
  ·cases h
  ·rename_i cd hb
   rw[cond_eq_ite]at h
   split at h
   ·rename_i hle
    have hle:args.length<=fn.ntmps:=by simpa [Nat.ble_eq] using hle
    have hlen:args.length=args'.size:=by simpa using aj.length _ _ hargs
    refine⟨AP hng hf hb args' c.w, ?_⟩
    refine(callsIn_wide (n:=0)).1 (callsIn_of_wp_marks (F:=Fence.wide) (n:=0) hf hb trivial ?_)
    have hr1:fH W0 c.w.heap.size none c {fr:=args++List.replicate (fn.ntmps-args.length) (.tup []),stk:=st.fr::st.stk,hp:=st.hp,nxt:=st.nxt} {tmps:=args'++Array.replicate (fn.ntmps-args'.size) undef,defers:=[]} (a.tmps::ats):=by
     refine⟨hr.hp,hr.nxt,hr.ok, ?_,⟨hr.fr,hr.stk⟩,⟨[],rfl,List.nodup_nil,fun r hr=>by simp at hr⟩,fun l hl=>by cases hl⟩
     refine aj.append_arr hargs ?_
     rw[Array.toList_replicate,hlen]
     exact zf _
    refine Dz (rd:=none) hT hm (n:=0) (E:=E.at m) hET (iU (E:=E.at m) (hS.at m) (ih R W0).1 (ih R W0).2 0) (x9 (E:=E.at m) (hS.at m) fun W=>(ih aA W).1) (ih R W0).1 (iU (E:=E.at m) (hS.at m) (ih St W0).1 (ih St W0).2 0) (iU (E:=E.at m) (hS.at m) (ih Unit W0).1 (ih Unit W0).2 0) (PD (E:=E.at m) (hS.at m)) cd (hlo f fn cd hf hb R m) _ _ c _ _ h hr1 (Nat.le_refl _) fun e c1 st1 a1 h1 hr2 hm1=> ?_
    have fin:(mQ E.T st1 fn.results.toList fun vs=>
       let v:=match vs with
        |[v]=>v
        |vs=>.tup vs
       match gc (bif E.cl then st.nxt else 1000000*st1.stk.length) v {st1 with fr:=[]}with
       |some st2=>pop st2 (K v)
       |none=>none)=some r->LeavesInM Fence.wide 0 P fn a1.tmps Rr a1.defers .returning c1.w:=by
     intro h2
     obtain⟨ds,d1,d2,d3⟩:=hr2.df
     obtain⟨c2,e1,e2,e3,e4,e5,e6,e7,ebar,e8⟩:=G6 (n:=0) (P:=P) (fn:=fn) (tmps:=a1.tmps) (Rr:=Rr) ds c1 hr2.ok d2 fun x hx=>(d3 x hx).1
     rw[d1]
     refine e8 ?_
     rw[hET]at h2
     obtain⟨vs,us,h3,h4,h5⟩:=sK hT e4 (e1.trans hr2.hp) (aj.le0 e3 _ _ hr2.fr) _ _ h2
     have hm2:c.Mono c2:=by
      refine⟨fun x hx=>e5 x (hm1.mks x hx) fun hd=> ?_,fun b L hL=> ?_,Nat.le_trans hm1.size e7,ebar.trans hm1.bar,fun b hb=>⟨(e3.out b (hm1.out b hb).1).1,(e3.out b (hm1.out b hb).1).2.trans (hm1.out b hb).2⟩⟩
      ·have h6:=(d3 x hd).2
       have h7:=hr.ok.mark_lt hx
       omega
      ·obtain⟨L1,hL1⟩:=hm1.lp b L hL
       exact e6 b L1 hL1
     obtain⟨c3,st3,k1,k2,k3,k4,k5⟩:=wV (v:=Bj vs) (u:=D9 us) hr e4 (st1:={st1 with fr:=[]}) (e1.trans hr2.hp) (e2.trans hr2.nxt) rfl (by
      have: ∀(fs:List (List aA)) (ts:List (Array Value)),wB c1 fs ts->wB c2 fs ts:=fun fs=>by
       induction fs with
       |nil=>intro ts h;cases ts with
        |nil=>trivial
        |cons _ _=>exact h.elim
       |cons f fs ihf=>intro ts h;cases ts with
        |nil=>exact h.elim
        |cons t ts=>exact⟨aj.le0 e3 _ _ h.1,ihf ts h.2⟩
      exact this _ _ hr2.stk) hm2 (uk h4) (K:=K) h3
     refine⟨D9 us,UV h5, ?_⟩
     rw[<-k5]
     exact hR c3 (Bj vs) (D9 us) st3 k1 k2 k3 k4
    cases e with
    |normal=>exact fin h1
    |ret=>exact fin h1
    |exit i=>cases h1
    |goto l=>cases h1
   ·cases h
theorem Ex.code_none {e:Ex} (h:e≠ .normal):e.code.isNone=false:=by cases e<;>first|exact absurd rfl h|rfl
theorem W9 (hT:TOk P T) (hm:P.follows .mixedOrders=true) (hng:BC P) {E:Env} (hEP:E.P=P) (hET:E.T=T) (hS:qx P E) (hlo:mX P E) (hrf:Xk E) {m:Nat} (ih: ∀(R:Type) (W0:World),oO P W0 (exec E m (R:=R))/\xf P W0 (exec E m (R:=R))):
  xf P W0 (exec E (m+1) (R:=R)):=by
 intro id args st K r h b0 rd c a ats args' hr hargs
 simp only[exec]at h
 split at h
 ·rename_i f fr0 ps asg bd ky hg
  refine⟨⟨f,fr0,ps,asg,bd,ky,0,none,hg⟩,fun Rr hR n=> ?_⟩
  rw[cond_eq_ite]at h
  split at h
  ·rename_i hlen
   have hlen:args.length=ps.length:=by simpa using hlen
   have hlen2:args.length=args'.size:=by simpa using aj.length _ _ hargs
   have hg':aX c.hp id=some (.lp f fr0 ps asg bd ky 0 none):=by rw[hr.hp];exact hg
   obtain⟨hky,hB,L,hL,hv,q1,q2,q3,q4,q5⟩:=hr.ok.obj id _ hg'
   have hSk:qx P ((E.at m).keyed ky):=by
    cases ky with
    |none=>exact⟨hS.T,hS.x,hS.b,hS.v,hS.q⟩
    |some k=>exact hS.at m
   have hETk:((E.at m).keyed ky).T=T:=by cases ky<;>exact hET
   have⟨hloa,hlob⟩:gK ((E.at m).keyed ky) (exec E m (R:=R)) (KG E m) f asg/\gK ((E.at m).keyed ky) (exec E m (R:=R)) (KG E m) f bd:=by
    cases ky with
    |none=>exact⟨fE (fun _=>rfl) (fun _=>rfl) _,fE (fun _=>rfl) (fun _=>rfl) _⟩
    |some k=>exact⟨(hrf f k asg bd (hky k rfl)).1 R m,(hrf f k asg bd (hky k rfl)).2 R m⟩
   have hsz:args'.size=L.params.size:=by
    have:L.params.size=ps.length:=by rw[<-q1,Array.length_toList]
    omega
   refine⟨_,_,_,_,run_yield hL hsz, ?_⟩
   refine roundIn_of_wpIn trivial ?_
   rw[q2,q3]
   have hyv:aF c (.yld id) (.func (.yield (c.mu id).blk) #[] #[]):=by
    simp only[aF]
    exact⟨rfl,.inl ⟨_,hg'⟩,fun _ _ _ _ _ _ _ _ _=>by simp⟩
   have hr1:fH W0 c.w.heap.size (some (c.mu id).blk) c {fr:=mM fr0 ps args,stk:=[.yld id]::st.fr::st.stk,hp:=st.hp,nxt:=st.nxt} {tmps:=(L.params.zip args').foldl (fun tmps (t,a)=>tmps.setIfInBounds t a) L.tmps,defers:=[]} (#[.func (.yield (c.mu id).blk) #[] #[]]::a.tmps::ats):=by
    refine⟨hr.hp,hr.nxt,hr.ok, ?_,⟨by simpa [aj] using hyv,hr.fr,hr.stk⟩,⟨[],rfl,List.nodup_nil,fun r hr=>by simp at hr⟩,fun l hl=>by cases hl;exact⟨L,hL⟩⟩
    have:=zt ps fr0 args args'.toList L.tmps hv hargs
    rw[<-Array.foldl_toList,Array.toList_zip,q1]
    exact this
   refine Dz (rd:=some (c.mu id).blk) hT hm (E:=(E.at m).keyed ky) hETk (iU (E:=(E.at m).keyed ky) hSk (ih R W0).1 (ih R W0).2 n) (x9 (E:=(E.at m).keyed ky) hSk fun W=>(ih aA W).1) (ih R W0).1 (iU (E:=(E.at m).keyed ky) hSk (ih St W0).1 (ih St W0).2 n) (iU (E:=(E.at m).keyed ky) hSk (ih Unit W0).1 (ih Unit W0).2 n) (PD hSk) asg hloa _ _ c _ _ h hr1 (Nat.le_refl _) fun e c1 st1 a1 h1 hr2 hm1=> ?_
   cases e with
   |normal=>
    split at h1
    ·rename_i id1 stk1 _ hs1
     split at h1
     ·rename_i f1 fr1 ps1 asg1 bd1 ky1 hg1
      have hstk:=hr2.stk
      rw[hs1]at hstk
      obtain⟨hy1,_⟩:=hstk
      simp only[aj,and_true]at hy1
      have hg1':=hg1
      rw[<-hr2.hp]at hg1'
      obtain⟨hky1,hB1,L1,hL1,hv1,p1,p2,p3,p4,p5⟩:=hr2.ok.obj id1 _ hg1'
      simp only[aF]at hy1
      have hblk:(c.mu id).blk=(c1.mu id1).blk:=by simpa using hy1.2.2 _ _ _ _ _ _ _ _ hg1'
      obtain⟨c2,e1,e2,e3,e4,e5,e6⟩:=Aj hr2.ok hg1' hL1 {L1 with state:=.busy} (o':=.lp f1 fr1 ps1 asg1 bd1 ky1 2 none) (.inr ⟨2,none,rfl,rfl,rfl,rfl,rfl,rfl⟩)
      simp only[Ex.xt,Exit.then]
      refine⟨c2.w, ?_, ?_⟩
      ·rw[hblk,e5];exact run_beginRound hL1 p4
      have hm2:c.Mono c2:=hm1.trans e3.mono
      have hr3:fH W0 c.w.heap.size (some (c.mu id).blk) c2 {st1 with hp:=gB st1.hp id1 (.lp f1 fr1 ps1 asg1 bd1 ky1 2 none)} a1 (#[.func (.yield (c.mu id).blk) #[] #[]]::a.tmps::ats):=
       ⟨e1.trans (by rw[hr2.hp]),e2.trans hr2.nxt,e4,aj.le e3 _ _ hr2.fr,wB.le e3 _ _ hr2.stk,let⟨ds,d1,d2,d3⟩:=hr2.df;⟨ds,d1,d2,fun x hx=>⟨e3.mks x (d3 x hx).1,(d3 x hx).2⟩⟩,fun l hl=>let⟨L,hL⟩:=hr2.rd l hl;e3.lp l L hL⟩
      refine Dz (rd:=some (c.mu id).blk) hT hm (E:=(E.at m).keyed ky) hETk (iU (E:=(E.at m).keyed ky) hSk (ih R W0).1 (ih R W0).2 n) (x9 (E:=(E.at m).keyed ky) hSk fun W=>(ih aA W).1) (ih R W0).1 (iU (E:=(E.at m).keyed ky) hSk (ih St W0).1 (ih St W0).2 n) (iU (E:=(E.at m).keyed ky) hSk (ih Unit W0).1 (ih Unit W0).2 n) (PD hSk) bd hlob _ _ c2 _ _ h1 hr3 hm2.size fun e c3 st3 a3 h3 hr4 hm3=> ?_
      refine QC ?_
      split at h3
      ·rename_i id3 stk3 hs3
       split at h3
       ·rename_i f3 fr3 ps3 asg3 bd3 ky3 hg3
        have hstk:=hr4.stk
        rw[hs3]at hstk
        obtain⟨hy3,hstk⟩:=hstk
        simp only[aj,and_true]at hy3
        have hg3':=hg3
        rw[<-hr4.hp]at hg3'
        obtain⟨hky3,hB3,L3,hL3,hv3,w1,w2,w3,w4⟩:=hr4.ok.obj id3 _ hg3'
        simp only[aF]at hy3
        have hblk3:(c.mu id).blk=(c3.mu id3).blk:=by simpa using hy3.2.2 _ _ _ _ _ _ _ _ hg3'
        have hend:=run_endRound (P:=P) (w:=c3.w) e.code hL3
        rw[<-hblk3]at hend
        refine⟨_,_,hend, ?_⟩
        rw[hblk3]
        cases e with
        |normal=>
         obtain⟨c4,g1,g2,g3,g4,g5,g6⟩:=Aj hr4.ok hg3' hL3 {L3 with state:=.ready,pending:=none} (o':=.lp f3 fr3 ps3 asg3 bd3 ky3 0 none) (.inr ⟨0,none,rfl,⟨rfl,rfl⟩,rfl,rfl,rfl,rfl⟩)
         have hm4:c.Mono c4:=(hm2.trans hm3).trans g3.mono
         obtain⟨c5,st5,k1,k2,k3,k4,k5⟩:=wV (v:=.undef) (u:=undef) hr g4 (st1:={st3 with fr:=[],stk:=stk3,hp:=gB st3.hp id3 (.lp f3 fr3 ps3 asg3 bd3 ky3 0 none)}) (g1.trans (by rw[hr4.hp])) (g2.trans hr4.nxt) rfl (wB.le g3 _ _ hstk) hm4 (by simp[aF]) (K:=fun _=>K (.val .bool true)) h3
         have:=hR c5 (.val .bool true) (.bool true) st5 k1 k2 (by simp only[aF];exact VD.bool_mk) k4
         rw[k5,g5]at this
         exact this
        |exit i=>
         obtain⟨c4,g1,g2,g3,g4,g5,g6⟩:=Aj hr4.ok hg3' hL3 {L3 with state:=.done,pending:=some (.exit i)} (o':=.lp f3 fr3 ps3 asg3 bd3 ky3 1 (some (.exit i))) (.inr ⟨1,some (.exit i),rfl,⟨rfl,rfl,by simp[Ex.code]⟩,rfl,rfl,rfl,rfl⟩)
         have hm4:c.Mono c4:=(hm2.trans hm3).trans g3.mono
         obtain⟨c5,st5,k1,k2,k3,k4,k5⟩:=wV (v:=.undef) (u:=undef) hr g4 (st1:={st3 with fr:=[],stk:=stk3,hp:=gB st3.hp id3 (.lp f3 fr3 ps3 asg3 bd3 ky3 1 (some (.exit i)))}) (g1.trans (by rw[hr4.hp])) (g2.trans hr4.nxt) rfl (wB.le g3 _ _ hstk) hm4 (by simp[aF]) (K:=fun _=>K (.val .bool false)) h3
         have:=hR c5 (.val .bool false) (.bool false) st5 k1 k2 (by simp only[aF];exact VD.bool_mk) k4
         rw[k5,g5]at this
         exact this
        |goto l=>
         obtain⟨c4,g1,g2,g3,g4,g5,g6⟩:=Aj hr4.ok hg3' hL3 {L3 with state:=.done,pending:=some (.goto l)} (o':=.lp f3 fr3 ps3 asg3 bd3 ky3 1 (some (.goto l))) (.inr ⟨1,some (.goto l),rfl,⟨rfl,rfl,by simp[Ex.code]⟩,rfl,rfl,rfl,rfl⟩)
         have hm4:c.Mono c4:=(hm2.trans hm3).trans g3.mono
         obtain⟨c5,st5,k1,k2,k3,k4,k5⟩:=wV (v:=.undef) (u:=undef) hr g4 (st1:={st3 with fr:=[],stk:=stk3,hp:=gB st3.hp id3 (.lp f3 fr3 ps3 asg3 bd3 ky3 1 (some (.goto l)))}) (g1.trans (by rw[hr4.hp])) (g2.trans hr4.nxt) rfl (wB.le g3 _ _ hstk) hm4 (by simp[aF]) (K:=fun _=>K (.val .bool false)) h3
         have:=hR c5 (.val .bool false) (.bool false) st5 k1 k2 (by simp only[aF];exact VD.bool_mk) k4
         rw[k5,g5]at this
         exact this
        |ret=>
         obtain⟨c4,g1,g2,g3,g4,g5,g6⟩:=Aj hr4.ok hg3' hL3 {L3 with state:=.done,pending:=some (.ret)} (o':=.lp f3 fr3 ps3 asg3 bd3 ky3 1 (some .ret)) (.inr ⟨1,some .ret,rfl,⟨rfl,rfl,by simp[Ex.code]⟩,rfl,rfl,rfl,rfl⟩)
         have hm4:c.Mono c4:=(hm2.trans hm3).trans g3.mono
         obtain⟨c5,st5,k1,k2,k3,k4,k5⟩:=wV (v:=.undef) (u:=undef) hr g4 (st1:={st3 with fr:=[],stk:=stk3,hp:=gB st3.hp id3 (.lp f3 fr3 ps3 asg3 bd3 ky3 1 (some .ret))}) (g1.trans (by rw[hr4.hp])) (g2.trans hr4.nxt) rfl (wB.le g3 _ _ hstk) hm4 (by simp[aF]) (K:=fun _=>K (.val .bool false)) h3
         have:=hR c5 (.val .bool false) (.bool false) st5 k1 k2 (by simp only[aF];exact VD.bool_mk) k4
         rw[k5,g5]at this
         exact this
       ·cases h3
      ·cases h3
     ·cases h1
    ·cases h1
   |exit i=>simp at h1
   |goto l=>simp at h1
   |ret=>simp at h1
  ·cases h
 ·cases h
theorem Ap (hT:TOk P T) (hm:P.follows .mixedOrders=true) (hng:BC P) {E:Env} (hEP:E.P=P) (hET:E.T=T) (hS:qx P E) (hlo:mX P E) (hrf:Xk E): ∀(m:Nat) (R:Type) (W0:World),oO P W0 (exec E m (R:=R))/\xf P W0 (exec E m (R:=R))
 |0,R,W0=>⟨fun f args st K r h=>by simp[exec]at h,fun id args st K r h=>by simp[exec]at h⟩
 |m+1,R,W0=>⟨acu hT hm hng hEP hET hS hlo hrf (Ap hT hm hng hEP hET hS hlo hrf m),W9 hT hm hng hEP hET hS hlo hrf (Ap hT hm hng hEP hET hS hlo hrf m)⟩
end
end Go.Proofs.YtihafdllichkeaaGreatDoor
namespace Go.Proofs.YtihafdllichkeaaGreatDoor
open Go.RowKit
set_option linter.unusedVariables false
set_option linter.unusedSimpArgs false
def kV (c:Cx):(ps:List Ty)->(ps.foldr Ty.pair Ty.unit).den->List Value->Prop
 |[],_,us=>us=[]
 |t::ps,x,us=> ∃u us',us=u::us'/\VD c t x.1 u/\kV c ps x.2 us'
def iK (w:World) (bar:Nat->Prop):Cx:=⟨fun _=>⟨0,undef⟩,[],0,w,[],bar⟩
def yT (rs:List (Ty×Bool)) (y:((rs.map (·.1)).foldr Ty.pair Ty.unit).den):dN:=
 match rO rs y with
 |some ⟨e,xs⟩=>[(0,.arr e 0 xs)]
 |none=>[]
def oQ (w:World) (bar:Nat->Prop) (rs:List (Ty×Bool)) (y:((rs.map (·.1)).foldr Ty.pair Ty.unit).den):Ending->World->Prop:=fun e w'=>
 ∃(c':Cx) (us:List Value),e=.returned (D9 us)/\c'.w=w'/\c'.Ok w/\c'.bar=bar/\c'.mks=[]/\c'.hp=yT rs y/\aj c' (jO 0 rs y) us
def bD (P:Program) (g:FuncId) (s:Sum):Prop:=
 ∀(w:World) (bar:Nat->Prop) (args':Array Value) x y,VY w->(∀b,bar b->b<w.heap.size)->kV (iK w bar) s.ps x args'.toList->s.f x=some y->
  ((callFunc g args').run P w=.ok (.enter g args') w/\Calls P g args' w (oQ w bar s.rs y))\/ ∃u,(callFunc g args').run P w=.ok (.value u) w/\oQ w bar s.rs y (.returned u) w
section
variable {P:Program} {T:TT} {W0:World} {b0:Nat} {rd:Option Nat} {R:Type} {r:R} {c:Cx} {ats:List (Array Value)}
theorem Ai {w:World} {bar:Nat->Prop} {b:Nat}:(iK w bar).free b↔b<w.heap.size/\ ¬bar b:=by
 constructor
 ·intro h;exact⟨h.1,h.2.2.2⟩
 ·rintro ⟨h1,h2⟩
  exact⟨h1,(by rintro ⟨i,o,h,_⟩;simp[iK,aX]at h),by simp[iK],h2⟩
theorem Yr (hok:c.Ok W0) {cb:Cx} (hs:agG c cb) {t:Ty} {v:aA} {x:t.den} {u:Value} (h:v.as c.hp t=some x) (hv:aF c v u):VD cb t x u:=by
 have hmono: ∀{t:Ty} {x:t.den} {u:Value},VD c t x u->VD cb t x u:=fun {t x u} hv=>
  ⟨fun e=>let⟨cs,h1,h2⟩:=hv.1 e;⟨cs,h1,cu.mono (fun b hb=>hs b hb.1) t x _ h2⟩,fun e=>cu.mono (fun b hb=>hs b hb.1) t x _ (hv.2 e)⟩
 cases v with
 |val t' z=>
  simp only[aA.as]at h
  have e:=eH h
  subst e
  rw[dK]at h
  cases h
  simp only[aF]at hv
  exact hmono hv
 |nils=>
  cases t with
  |list e=>exact yE hok hs (x:=.nils) h hv
  |_=>simp[aA.as]at h
 |lst t' z b=>
  simp only[aA.as]at h
  have e:=eH h
  subst e
  rw[dK]at h
  cases h
  simp only[aF]at hv
  exact hmono hv.1
 |emp=>
  cases t with
  |list e=>exact yE hok hs (x:=.emp) h hv
  |_=>simp[aA.as]at h
 |slc id ver vw=>
  cases t with
  |list e=>exact yE hok hs (x:=.slc id ver vw) h hv
  |_=>simp[aA.as]at h
 |agg l=>
  simp only[aA.as]at h
  rw[cond_eq_ite]at h
  split at h
  ·rename_i ha
   simp only[aF]at hv
   obtain⟨vs,rfl,h1,h2⟩:=hv
   exact hmono ((VD.agg ha).2 ⟨vs,rfl,kF h h1⟩)
  ·cases h
 |_=>simp[aA.as]at h
theorem BI {cb:Cx} (hs: ∀b,c.free b->cb.free b/\cb.w.heap[b]? =c.w.heap[b]?) {t:Ty} {v:aA} {x:t.den} {u:Value} (hno:ja v=false) {hp:dN} (h:v.as hp t=some x) (hv:aF c v u):VD cb t x u:=by
 cases v with
 |val t' z=>
  simp only[aA.as]at h
  have e:=eH h
  subst e
  rw[dK]at h
  cases h
  simp only[aF]at hv
  exact⟨fun e=>let⟨cs,h1,h2⟩:=hv.1 e;⟨cs,h1,cu.mono hs t' _ _ h2⟩,fun e=>cu.mono hs t' _ _ (hv.2 e)⟩
 |nils=>
  cases t with
  |list e=>
   simp only[aA.as,Option.some.injEq]at h
   subst h
   simp only[aF]at hv
   subst hv
   exact(VD.leaf rfl).2 ⟨none,0,[],rfl,Nat.le_refl _,rfl,.inl rfl⟩
  |_=>simp[aA.as]at h
 |lst t' z b=>
  simp only[aA.as]at h
  have e:=eH h
  subst e
  rw[dK]at h
  cases h
  simp only[aF]at hv
  exact⟨fun e=>let⟨cs,h1,h2⟩:=hv.1.1 e;⟨cs,h1,cu.mono hs _ _ _ h2⟩,fun e=>cu.mono hs _ _ _ (hv.1.2 e)⟩
 |emp=>
  cases t with
  |list e=>
   simp only[aA.as,Option.some.injEq]at h
   subst h
   simp only[aF]at hv
   obtain⟨a,rfl⟩:=hv
   exact(VD.leaf rfl).2 ⟨a,0,[],rfl,Nat.le_refl _,rfl,.inl rfl⟩
  |_=>simp[aA.as]at h
 |slc id ver vw=>simp[ja]at hno
 |agg l=>simp[ja]at hno
 |_=>simp[aA.as]at h
theorem uo {cb:Cx} {hp:dN}: ∀(ps:List Ty) (args:List aA) x (us:List Value),sV hp ps args=some x->aj c args us->
  (∀(t:Ty) (v:aA) (x:t.den) (u:Value),v∈args->v.as hp t=some x->aF c v u->VD cb t x u)->kV cb ps x us
 |[],[],x,[],h,_,_=>rfl
 |t::ps,v::args,x,u::us,h,hv,ha=>by
  simp only[sV]at h
  split at h
  ·rename_i x1 h1
   split at h
   ·rename_i y1 h2
    cases h
    simp only[aj]at hv
    exact⟨u,us,rfl,ha t v x1 u (by simp) h1 hv.1,uo ps args y1 us h2 hv.2 fun t v x u hm=>ha t v x u (List.mem_cons_of_mem _ hm)⟩
   ·cases h
  ·cases h
 |[],[],_,_::_,_,hv,_=>by simp[aj]at hv
 |[],_::_,_,_,h,_,_=>by simp[sV]at h
 |_::_,[],_,_,h,_,_=>by simp[sV]at h
 |_::_,_::_,_,[],_,hv,_=>by simp[aj]at hv
theorem VD.move {c' c2:Cx} (hw:c2.w=c'.w) {t:Ty} {x:t.den} {u:Value} (h:(∀b,c'.free b->c2.free b)\/t.rigid=true) (hv:VD c' t x u):VD c2 t x u:=by
 rcases h with h|h
 ·exact⟨fun e=>let⟨cs,h1,h2⟩:=hv.1 e;⟨cs,h1,cu.mono (fun b hb=>⟨h b hb,by rw[hw]⟩) t x _ h2⟩,fun e=>cu.mono (fun b hb=>⟨h b hb,by rw[hw]⟩) t x _ (hv.2 e)⟩
 ·exact(VD.rigid h u).2 ((VD.rigid h u).1 hv)
theorem dA.move {c' c2:Cx} (hw:c2.w=c'.w) {e:Ty} {xs:List e.den} {zs:List Value} (h:(∀b,c'.free b->c2.free b)\/e.rigid=true) (hv:dA (cu c'.w c'.free e) e.size xs zs):dA (cu c2.w c2.free e) e.size xs zs:=by
 rcases h with h|h
 ·exact dA.mono (cu.mono (fun b hb=>⟨h b hb,by rw[hw]⟩) e) _ _ hv
 ·exact dA.mono (fun x cs hd=>(lI e x h cs).2 ((lI e x h cs).1 hd)) _ _ hv
theorem yB {c' c2:Cx} (hw:c2.w=c'.w) (id:Nat): ∀(rs:List (Ty×Bool)) y (us:List Value),(∀t∈rs,(∀b,c'.free b->c2.free b)\/t.1.rigid=true\/t.2=true)->
  (news rs=0\/ ∀u,aF c' (.slc 0 0 none) u->aF c2 (.slc id 0 none) u)->aj c' (jO 0 rs y) us->aj c2 (jO id rs y) us
 |[],y,[],_,_,_=>by simp[jO,aj]
 |[],y,_::_,_,_,hv=>by simp[jO,aj]at hv
 |(t,false)::rs,y,us,h,hn,hv=>by
  cases us with
  |nil=>simp[jO,aj]at hv
  |cons u us=>
   simp only[jO,aj,aF]at hv ⊢
   refine⟨VD.move hw ?_ hv.1,yB hw id rs y.2 us (fun t ht=>h t (List.mem_cons_of_mem _ ht)) hn hv.2⟩
   rcases h (t,false) (by simp)with h1|h1|h1
   ·exact .inl h1
   ·exact .inr h1
   ·cases h1
 |(t,true)::rs,y,us,h,hn,hv=>by
  cases us with
  |nil=>simp[jO,aj]at hv
  |cons u us=>
   simp only[jO,aj]at hv ⊢
   rcases hn with hn|hn
   ·simp[news]at hn
   ·exact⟨hn u hv.1,yB hw id rs y.2 us (fun t ht=>h t (List.mem_cons_of_mem _ ht)) (.inr hn) hv.2⟩
theorem Tt {c':Cx}: ∀(rs:List (Ty×Bool)) y (us:List Value),news rs≠0->aj c' (jO 0 rs y) us-> ∃u,aF c' (.slc 0 0 none) u
 |[],y,us,h,_=>by simp[news]at h
 |(t,false)::rs,y,us,h,hv=>by
  cases us with
  |nil=>simp[jO,aj]at hv
  |cons u us=>
   simp only[jO,aj]at hv
   exact Tt rs y.2 us (by simpa [news] using h) hv.2
 |(t,true)::rs,y,us,h,hv=>by
  cases us with
  |nil=>simp[jO,aj]at hv
  |cons u us=>
   simp only[jO,aj]at hv
   exact⟨u,hv.1⟩
theorem Eu: ∀(rs:List (Ty×Bool)) y {e:Ty} {xs:List e.den},rO rs y=some ⟨e,xs⟩->(rs.all fun r=>r.1.rigid||(r.2&&r.1.elem.rigid))=true->e.rigid=true
 |[],y,e,xs,h,_=>by simp[rO]at h
 |(t,false)::rs,y,e,xs,h,ha=>by
  simp only[rO]at h
  simp only[List.all_cons,Bool.and_eq_true]at ha
  exact Eu rs y.2 h ha.2
 |(t,true)::rs,y,e,xs,h,ha=>by
  cases t with
  |list e'=>
   simp only[rO,Option.some.injEq,Sigma.mk.injEq]at h
   obtain⟨rfl,_⟩:=h
   simp only[List.all_cons,Bool.and_eq_true,Ty.rigid,Ty.elem,Bool.false_or,Bool.true_and]at ha
   exact ha.1
  |_=>simp[rO]at h
theorem agx {c':Cx} (hok:c.Ok W0) (hok':c'.Ok c.w) (hbar:c'.bar=fun b=>b<c.w.heap.size/\ ¬c.free b) {b:Nat} (hb:c'.free b):(c.at_ c'.w).free b:=by
 refine⟨hb.1, ?_⟩
 by_cases hlt:b<c.w.heap.size
 ·have h1:=hb.2.2.2
  rw[hbar]at h1
  have h2:c.free b:=Classical.byContradiction fun h=>h1 ⟨hlt,h⟩
  exact h2.2
 ·refine⟨fun ho=>hlt (hok.own_lt ho).2,fun hm=>hlt (hok.mark_lt hm),fun hb2=>hlt (hok.bar b hb2).1⟩
theorem SY {s:Sum} {cl:Bool} {args:List aA} {dst:Option Nat} {st:St} {K:aA->St->Option R} (h:s.call cl args dst st K=some r):
    ((s.rs.all fun r=>r.1.rigid||(r.2&&r.1.elem.rigid))=true\/args.any ja=false)/\ ∃x y,sV st.hp s.ps args=some x/\s.f x=some y/\
      ((rO s.rs y=none/\news s.rs=0/\K (Bj (jO 0 s.rs y)) st=some r)\/
       (∃e xs id n',rO s.rs y=some ⟨e,xs⟩/\news s.rs=1/\aX st.hp id=none/\st.nxt<=id/\st.nxt<=n'/\K (Bj (jO id s.rs y)) {st with hp:=(id,.arr e 0 xs)::st.hp,nxt:=n'}=some r)):=by
  unfold Sum.call at h
  rw[cond_eq_ite]at h
  split at h
  · rename_i hc
    refine⟨by simpa using hc, ?_⟩
    split at h
    · rename_i x hx
      cases hy:s.f x with
      |none=>rw[hy]at h;cases h
      |some y=>
        rw[hy]at h
        simp only[ai]at h
        refine⟨x,y,hx,hy, ?_⟩
        split at h
        · rename_i hn
          rw[cond_eq_ite]at h
          split at h
          · rename_i h0
            exact .inl ⟨hn,by simpa using h0,h⟩
          · cases h
        · rename_i e xs hn
          rw[cond_eq_ite]at h
          split at h
          · rename_i h0
            obtain⟨id,n',h1,h2,h3,h4⟩:=gu h
            exact .inr ⟨e,xs,id,n',hn,by simpa using h0,h1,h2,h3,h4⟩
          · cases h
    · cases h
  · cases h
end
end Go.Proofs.YtihafdllichkeaaGreatDoor
namespace Go.Proofs.YtihafdllichkeaaGreatDoor
open Go.RowKit
set_option linter.unusedVariables false
set_option linter.unusedSimpArgs false
section
variable {P:Program} {T:TT} {W0:World} {b0:Nat} {rd:Option Nat} {R:Type} {r:R} {c:Cx} {ats:List (Array Value)}
theorem Cx.many {c2:Cx} (hc:c.Ok W0) (S:Nat->Prop) (hmks:c2.mks=c.mks) (hbar:c2.bar=c.bar) (hnxt:c2.nxt=c.nxt)
  (hsame: ∀i,¬S i->aX c2.hp i=aX c.hp i/\c2.mu i=c.mu i)
  (htouch: ∀i,S i-> ∃o o',aX c.hp i=some o/\aX c2.hp i=some o'/\o.like (c.mu i) o' (c2.mu i)/\ ∀f fr ps asg bd ky n p,o≠ .lp f fr ps asg bd ky n p)
  (hw:Below W0.heap.size W0 c2.w) (hs:c.w.heap.size<=c2.w.heap.size)
  (hblk: ∀b,b<c.w.heap.size->(∀i o,S i->aX c.hp i=some o->o.blk (c.mu i)≠some b)->c2.w.heap[b]? =c.w.heap[b]?)
  (hnew: ∀i o' b,S i->aX c2.hp i=some o'->o'.blk (c2.mu i)=some b->c.w.heap.size<=b\/ ∃j o,S j/\aX c.hp j=some o/\o.blk (c.mu j)=some b)
  (hinj: ∀i j o' p' b,S i->S j->aX c2.hp i=some o'->aX c2.hp j=some p'->o'.blk (c2.mu i)=some b->p'.blk (c2.mu j)=some b->i=j)
  (hlp: ∀(b:Nat) (L:Loop) (i:Nat) o,S i->aX c.hp i=some o->o.blk (c.mu i)=some b->c.w.heap[b]? ≠some (Obj.loop L)):
  c.Le c2/\((∀i o',S i->aX c2.hp i=some o'->c2.ORel W0.heap.size i o')->c2.Ok W0):=by
 have hle:c.Le c2:=by
  refine⟨fun b hb=>⟨⟨Nat.lt_of_lt_of_le hb.1 hs, ?_,by rw[hmks];exact hb.2.2⟩,hblk b hb.1 fun i o _ h1 h2=>hb.2.1 ⟨i,o,h1,h2⟩⟩,fun i hi=> ?_,fun i o' hi ho=> ?_,fun r hr=>by rw[hmks];exact hr,fun b L hL=> ?_,hs,hbar⟩
  ·rintro ⟨i,o',h1,h2⟩
   by_cases hS:S i
   ·rcases hnew i o' b hS h1 h2 with h3|⟨j,o,_,h3,h4⟩
    ·have:=hb.1;omega
    ·exact hb.2.1 ⟨j,o,h3,h4⟩
   ·obtain⟨h3,h4⟩:=hsame i hS
    rw[h3]at h1
    rw[h4]at h2
    exact hb.2.1 ⟨i,o',h1,h2⟩
  ·by_cases hS:S i
   ·obtain⟨o,o',_,h2,_⟩:=htouch i hS
    exact .inl ⟨o',h2⟩
   ·rcases hi with ⟨o,ho⟩|hi
    ·exact .inl ⟨o,by rw[(hsame i hS).1];exact ho⟩
    ·exact .inr (by rw[hnxt];exact hi)
  ·by_cases hS:S i
   ·obtain⟨o,o2,h1,h2,h3,_⟩:=htouch i hS
    rw[h2]at ho
    cases ho
    exact⟨o,h1,h3⟩
   ·obtain⟨h3,h4⟩:=hsame i hS
    rw[h3]at ho
    exact⟨o',ho,by rw[h4];exact o'.like_refl _⟩
  ·exact⟨L,(hblk b (Array.getElem?_eq_some_iff.1 hL).1 fun i o hS h1 h2=>hlp b L i o hS h1 h2 hL).trans hL⟩
 refine⟨hle,fun hO=>⟨hw,fun i o' ho=> ?_,fun i j o' p' b h1 h2 h3 h4=> ?_,fun r hr=> ?_,fun b hb=> ?_,hc.phi⟩⟩
 ·by_cases hS:S i
  ·exact hO i o' hS ho
  ·obtain⟨h3,h4⟩:=hsame i hS
   rw[h3]at ho
   refine(hc.obj i o' ho).le hle h4 fun b hb=>hblk b ((hc.obj i o' ho).lt hb).2 fun j o hS2 h5 h6=> ?_
   have:=hc.inj j i o o' b h5 ho h6 hb
   subst this
   exact hS hS2
 ·have old: ∀i o' b,¬S i->aX c2.hp i=some o'->o'.blk (c2.mu i)=some b->aX c.hp i=some o'/\o'.blk (c.mu i)=some b:=fun i o' b hS h1 h2=>by
   obtain⟨h3,h4⟩:=hsame i hS
   rw[h3]at h1
   rw[h4]at h2
   exact⟨h1,h2⟩
  have mixed: ∀i j o' p' b,S i-> ¬S j->aX c2.hp i=some o'->aX c2.hp j=some p'->o'.blk (c2.mu i)=some b->p'.blk (c2.mu j)=some b->False:=fun i j o' p' b h1 h2 h3 h4 h5 h6=>by
   obtain⟨h7,h8⟩:=old j p' b h2 h4 h6
   rcases hnew i o' b h1 h3 h5 with h9|⟨k,o,hk,h9,h10⟩
   ·have:=((hc.obj j p' h7).lt h8).2;omega
   ·have:=hc.inj k j o p' b h9 h7 h10 h8
    subst this
    exact h2 hk
  by_cases hi:S i<;>by_cases hj:S j
  ·exact hinj i j o' p' b hi hj h1 h2 h3 h4
  ·exact(mixed i j o' p' b hi hj h1 h2 h3 h4).elim
  ·exact(mixed j i p' o' b hj hi h2 h1 h4 h3).elim
  ·obtain⟨q1,q2⟩:=old i o' b hi h1 h3
   obtain⟨q3,q4⟩:=old j p' b hj h2 h4
   exact hc.inj i j o' p' b q1 q3 q2 q4
 ·rw[hmks]at hr
  exact⟨(hc.mks r hr).1,(hblk r (hc.mark_lt hr) fun i o hS h1 h2=>hc.mark_own hr ⟨i,o,h1,h2⟩).trans (hc.mks r hr).2⟩
 ·rw[hbar]at hb
  exact(hle.out b (hc.bar b hb)).1
theorem akf {size:Nat} {s u:Value} {vw:Option (Int×Int)} (h:fO size s vw u) {b off n cp:Nat} (hu:u=.slice (some ⟨b,off,none⟩) n cp):s.ownBlock=some b:=by
 subst hu
 cases vw with
 |none=>simp only[fO]at h;subst h;rfl
 |some p=>
  obtain⟨lo,hi⟩:=p
  simp only[fO]at h
  obtain⟨a,m,q,rfl,_,_,_,h4⟩:=h
  have h5:(some ⟨b,off,none⟩:Option Addr)=if q=lo.toNat then a else a.map (·.add (lo.toNat*size)):=by injection h4
  split at h5
  ·subst h5;rfl
  ·cases a with
   |none=>cases h5
   |some a=>
    simp only[Option.map_some,Option.some.injEq]at h5
    have:=congrArg Addr.block h5
    simp only[Value.ownBlock,Option.some.injEq]
    unfold Addr.add at this
    split at this<;>exact this.symm
theorem XF (hok:c.Ok W0) {cb:Cx} (hs: ∀b,c.free b->cb.free b/\cb.w.heap[b]? =c.w.heap[b]?) {t:Ty} {v:aA} {x:t.den} {u:Value}
  (ho: ∀id ver vw,v=.slc id ver vw-> ∀o b,aX c.hp id=some o->o.blk (c.mu id)=some b->cb.free b/\cb.w.heap[b]? =c.w.heap[b]?) (h:v.as c.hp t=some x) (hv:aF c v u):VD cb t x u:=by
 cases hno:ja v with
 |false=>exact BI hs hno h hv
 |true=>
  cases v with
  |slc id ver vw=>
   cases t with
   |list e=>
    obtain⟨a,cp,zs,h1,h2,h3⟩:=Jr hok h hv
    have h4:=OD hok h hv h1
    have h5: ∃t xs,aX c.hp id=some (.arr t ver xs):=by
     simp only[aA.as,uC]at h
     split at h
     ·rename_i t' v' xs harr
      replace h:=aP h;obtain⟨hver,h⟩:=h
      have hver:v'=ver:=by simpa using hver
      subst hver
      exact⟨_,_,harr⟩
     ·cases h
    obtain⟨t',xs',harr⟩:=h5
    simp only[aF]at hv
    have hview:=(hv.2.2 _ _ _ harr).2 rfl
    refine(VD.leaf rfl).2 ⟨a,cp,zs,by rw[h1],h4,dA.mono (cu.mono hs e) _ _ h2,h3.imp (fun h=>h) fun⟨b,off,q1,q2,q4,q3⟩=> ?_⟩
    have hb:=akf hview (b:=b) (off:=off) (n:=x.length) (cp:=cp) (by rw[h1,q1])
    obtain⟨p1,p2⟩:=ho id ver vw rfl _ b harr (by simpa [aW.blk] using hb)
    exact⟨b,off,q1,p1,q3.of_block p2⟩
   |_=>simp[aA.as]at h
  |agg l=>
   simp only[aA.as]at h
   replace h:=aP h;obtain⟨ha,h⟩:=h
   simp only[aF]at hv
   obtain⟨vs,rfl,h1,h2⟩:=hv
   have:=(VD.agg ha).2 ⟨vs,rfl,kF h h1⟩
   exact⟨fun e=>let⟨cs,h1,h2⟩:=this.1 e;⟨cs,h1,cu.mono hs _ _ _ h2⟩,fun e=>cu.mono hs _ _ _ (this.2 e)⟩
  |_=>simp[ja]at hno
theorem xm: ∀{l:List Nat},Ij l=true->l.Nodup
 |[],_=>List.nodup_nil
 |i::l,h=>by
  simp only[Ij,Bool.and_eq_true,Bool.not_eq_true']at h
  refine List.nodup_cons.2 ⟨fun hm=> ?_,xm h.2⟩
  have:Nw l i=true:=List.any_eq_true.2 ⟨i,hm,by simp⟩
  rw[this]at h;cases h.1
theorem L9 {hp:dN} {b:Bool}: ∀(cs:List (Ty×Bool)) (cells:List aA) {x},iy hp b cs cells=some x-> ∀n,(fV cs n).length=(jP cs cells).length:=by
 intro cs
 induction cs with
 |nil=>intro cells x h n;cases cells<;>rfl
 |cons tc cs ih=>
  intro cells x h n
  obtain⟨t,o⟩:=tc
  cases cells with
  |nil=>cases o<;>simp[iy]at h
  |cons v cells=>
   cases o with
   |false=>
    simp only[iy]at h
    rw[cond_eq_ite]at h
    split at h
    ·cases h
    ·split at h
     ·split at h
      ·rename_i h2
       simpa [fV,jP] using ih cells h2 n
      ·cases h
     ·cases h
   |true=>
    cases t with
    |list e=>
     cases v with
     |slc id ver vw=>
      cases vw with
      |none=>
       simp only[iy]at h
       split at h
       ·replace h:=aP h;obtain⟨_,h⟩:=h
        split at h
        ·split at h
         ·rename_i h2
          simp only[fV,jP,List.length_cons,ih cells h2 (n+1)]
         ·cases h
        ·cases h
       ·cases h
      |some p=>simp[iy]at h
     |_=>simp[iy]at h
    |_=>simp[iy]at h
theorem yO: ∀(cs:List (Ty×Bool)) (n:Nat),∀p∈fV cs n,n<=p.1
 |[],n,p,h=>by simp[fV]at h
 |(_,true)::cs,n,p,h=>by
  simp only[fV,List.mem_cons]at h
  rcases h with rfl|h
  ·exact Nat.le_refl _
  ·exact Nat.le_trans (Nat.le_succ n) (yO cs (n+1) p h)
 |(_,false)::cs,n,p,h=>yO cs n p h
theorem oW: ∀(cs:List (Ty×Bool)) (n:Nat),((fV cs n).map (·.1)).Nodup
 |[],n=>List.nodup_nil
 |(_,true)::cs,n=>by
  simp only[fV,List.map_cons]
  refine List.nodup_cons.2 ⟨fun h=> ?_,oW cs (n+1)⟩
  obtain⟨p,h1,h2⟩:=List.mem_map.1 h
  have:=yO cs (n+1) p h1
  omega
 |(_,false)::cs,n=>oW cs n
theorem Ld {hp:dN} {b:Bool}: ∀(cs:List (Ty×Bool)) (cells:List aA) (ids:List (Nat×Nat)) {x},iy hp b cs cells=some x->ids.length=(jP cs cells).length-> ∀i' o,(i',o)∈nX cs ids x->
  ∃(k i v v':Nat) (e:Ty) (xs:List e.den),(jP cs cells)[k]? =some (i,v)/\ids[k]? =some (i',v')/\o=.arr e v' xs/\aX hp i=some (.arr e v xs)/\(.list e,true)∈cs:=by
 intro cs
 induction cs with
 |nil=>intro cells ids x h hl i' o hm;simp[nX]at hm
 |cons tc cs ih=>
  intro cells ids x h hl i' o hm
  obtain⟨t,ob⟩:=tc
  cases cells with
  |nil=>cases ob<;>simp[iy]at h
  |cons v cells=>
   cases ob with
   |false=>
    simp only[iy]at h
    rw[cond_eq_ite]at h
    split at h
    ·cases h
    ·split at h
     ·split at h
      ·rename_i h2
       cases h
       obtain⟨k,i,v,v',e,xs,q1,q2,q3,q4,q5⟩:=ih cells ids h2 (by simpa [jP] using hl) i' o (by simpa [nX] using hm)
       exact⟨k,i,v,v',e,xs,by simpa [jP] using q1,q2,q3,q4,List.mem_cons_of_mem _ q5⟩
      ·cases h
     ·cases h
   |true=>
    cases t with
    |list e=>
     cases v with
     |slc id ver vw=>
      cases vw with
      |none=>
       simp only[iy]at h
       split at h
       ·rename_i t' v1 xs hg
        replace h:=aP h;obtain⟨hver,h⟩:=h
        have hver:v1=ver:=by simpa using hver
        subst hver
        split at h
        ·rename_i x1 hx1
         split at h
         ·rename_i y1 h2
          cases h
          have ee:=eH hx1
          cases ee
          rw[dK]at hx1
          cases hx1
          cases ids with
          |nil=>simp[jP]at hl
          |cons p ids=>
           obtain⟨i0,v0⟩:=p
           simp only[nX,List.mem_cons]at hm
           rcases hm with hm|hm
           ·cases hm
            exact⟨0,id,v1,v0,_,x1,by simp[jP],by simp,rfl,hg,by simp⟩
           ·obtain⟨k,i,v,v',e,xs,q1,q2,q3,q4,q5⟩:=ih cells ids h2 (by simpa [jP] using hl) i' o hm
            exact⟨k+1,i,v,v',e,xs,by simpa [jP] using q1,by simpa using q2,q3,q4,List.mem_cons_of_mem _ q5⟩
         ·cases h
        ·cases h
       ·cases h
      |some p=>simp[iy]at h
     |_=>simp[iy]at h
    |_=>simp[iy]at h
theorem Oo {hp:dN} {b:Bool}: ∀(cs:List (Ty×Bool)) (cells:List aA) (ids:List (Nat×Nat)) {x},iy hp b cs cells=some x-> ∀(k i v i' v':Nat),(jP cs cells)[k]? =some (i,v)->ids[k]? =some (i',v')->
  ∃e xs,aX hp i=some (.arr e v xs)/\(i',aW.arr e v' xs)∈nX cs ids x:=by
 intro cs
 induction cs with
 |nil=>intro cells ids x h k i v i' v' h1 h2;cases cells<;>simp[jP]at h1
 |cons tc cs ih=>
  intro cells ids x h k i v i' v' h1 h2
  obtain⟨t,ob⟩:=tc
  cases cells with
  |nil=>cases ob<;>simp[iy]at h
  |cons u cells=>
   cases ob with
   |false=>
    simp only[iy]at h
    rw[cond_eq_ite]at h
    split at h
    ·cases h
    ·split at h
     ·split at h
      ·rename_i h3
       cases h
       obtain⟨e,xs,q1,q2⟩:=ih cells ids h3 k i v i' v' (by simpa [jP] using h1) h2
       exact⟨e,xs,q1,by simpa [nX] using q2⟩
      ·cases h
     ·cases h
   |true=>
    cases t with
    |list e=>
     cases u with
     |slc id ver vw=>
      cases vw with
      |none=>
       simp only[iy]at h
       split at h
       ·rename_i t' v1 xs hg
        replace h:=aP h;obtain⟨hver,h⟩:=h
        have hver:v1=ver:=by simpa using hver
        subst hver
        split at h
        ·rename_i x1 hx1
         split at h
         ·rename_i y1 h3
          cases h
          have ee:=eH hx1
          cases ee
          rw[dK]at hx1
          cases hx1
          cases ids with
          |nil=>simp at h2
          |cons p ids=>
           obtain⟨i0,v0⟩:=p
           cases k with
           |zero=>
            simp only[jP,List.getElem?_cons_zero,Option.some.injEq,Prod.mk.injEq]at h1 h2
            obtain⟨rfl,rfl⟩:=h1
            obtain⟨rfl,rfl⟩:=h2
            exact⟨_,_,hg,by simp[nX]⟩
           |succ k=>
            obtain⟨e,xs,q1,q2⟩:=ih cells ids h3 k i v i' v' (by simpa [jP] using h1) (by simpa using h2)
            exact⟨e,xs,q1,by simp only[nX];exact List.mem_cons_of_mem _ q2⟩
         ·cases h
        ·cases h
       ·cases h
      |some p=>simp[iy]at h
     |_=>simp[iy]at h
    |_=>simp[iy]at h
theorem Tz {c':Cx} {b:Bool}: ∀(cs:List (Ty×Bool)) (cells:List aA) (ids:List (Nat×Nat)) {x} (vs:List Value),iy c.hp b cs cells=some x->aj c cells vs->ids.length=(jP cs cells).length->
  (∀(k i v i' v':Nat),(jP cs cells)[k]? =some (i,v)->ids[k]? =some (i',v')-> ∀e xs,aX c.hp i=some (.arr e v xs)->aX c'.hp i'=some (.arr e v' xs)/\(c'.mu i').v=(c.mu i).v)->
  (∀t v x u,(t,false)∈cs->(b=true->ja v=false\/t.rigid=true)->(∀i∈refs v,i∈nY cs cells)->v.as c.hp t=some x->aF c v u->VD c' t x u)->aj c' (yZ cs ids x) vs:=by
 intro cs
 induction cs with
 |nil=>
  intro cells ids x vs h hv _ _ _
  cases cells with
  |nil=>cases vs with
   |nil=>simp[yZ,aj]
   |cons=>simp[aj]at hv
  |cons=>simp[iy]at h
 |cons tc cs ih=>
  intro cells ids x vs h hv hl hi hd
  obtain⟨t,ob⟩:=tc
  cases cells with
  |nil=>cases ob<;>simp[iy]at h
  |cons v cells=>
   cases vs with
   |nil=>simp[aj]at hv
   |cons u vs=>
    simp only[aj]at hv
    cases ob with
    |false=>
     simp only[iy]at h
     rw[cond_eq_ite]at h
     split at h
     ·cases h
     ·rename_i hno
      split at h
      ·rename_i x1 hx1
       split at h
       ·rename_i y1 h2
        cases h
        simp only[yZ,aj,aF]
        refine⟨hd t v x1 u (by simp) (fun hb=> ?_) (fun i hi=>by simp[nY,hi]) hx1 hv.1,ih cells ids vs h2 hv.2 (by simpa [jP] using hl) (fun k i v i' v' q1 q2=>hi k i v i' v' (by simpa [jP] using q1) q2) fun t v x u q1 q2 q3=>hd t v x u (List.mem_cons_of_mem _ q1) q2 fun i hi=>by simp[nY,q3 i hi]⟩
        subst hb
        simp only[Bool.true_and,Bool.and_eq_true,not_and,Bool.not_eq_true,Bool.not_eq_eq_eq_not,Bool.not_false]at hno
        cases ho:ja v with
        |false=>exact .inl rfl
        |true=>exact .inr (by simpa using hno ho)
       ·cases h
      ·cases h
    |true=>
     cases t with
     |list e=>
      cases v with
      |slc id ver vw=>
       cases vw with
       |none=>
        simp only[iy]at h
        split at h
        ·rename_i t' v1 xs hg
         replace h:=aP h;obtain⟨hver,h⟩:=h
         have hver:v1=ver:=by simpa using hver
         subst hver
         split at h
         ·rename_i x1 hx1
          split at h
          ·rename_i y1 h2
           cases h
           have ee:=eH hx1
           cases ee
           rw[dK]at hx1
           cases hx1
           cases ids with
           |nil=>simp[jP]at hl
           |cons p ids=>
            obtain⟨i0,v0⟩:=p
            simp only[yZ,aj]
            obtain⟨q1,q2⟩:=hi 0 id v1 i0 v0 (by simp[jP]) (by simp) _ _ hg
            refine⟨?_,ih cells ids vs h2 hv.2 (by simpa [jP] using hl) (fun k i v i' v' q1 q2=>hi (k+1) i v i' v' (by simpa [jP] using q1) (by simpa using q2)) fun t v x u q1 q2 q3=>hd t v x u (List.mem_cons_of_mem _ q1) q2 fun i hi=>by simp only[nY];exact q3 i hi⟩
            have h1:=hv.1
            simp only[aF]at h1 ⊢
            refine⟨h1.1,.inl ⟨_,q1⟩,fun t u xs' hh=> ?_⟩
            rw[q1]at hh
            cases hh
            refine⟨Nat.le_refl _,fun _=> ?_⟩
            have:=(h1.2.2 _ _ _ hg).2 rfl
            simp only[fO]at this ⊢
            rw[q2];exact this
          ·cases h
         ·cases h
        ·cases h
       |some p=>simp[iy]at h
      |_=>simp[iy]at h
     |_=>simp[iy]at h
theorem Di: ∀(cs:List (Ty×Bool)) (ids:List (Nat×Nat)) (x),List.Sublist ((nX cs ids x).map (·.1)) (ids.map (·.1)):=by
 intro cs
 induction cs with
 |nil=>intro ids x;simp[nX]
 |cons tc cs ih=>
  intro ids x
  obtain⟨t,o⟩:=tc
  cases o with
  |false=>simpa only[nX] using ih ids x.2
  |true=>
   cases t with
   |list e=>
    cases ids with
    |nil=>simpa only[nX] using ih [] x.2
    |cons p ids=>
     obtain⟨i,v⟩:=p
     simp only[nX,List.map_cons]
     exact List.Sublist.cons_cons _ (ih ids x.2)
   |_=>simpa only[nX] using ih ids x.2
theorem EG: ∀(h:dN) (i:Nat) (o:aW),(h.map (·.1)).Nodup->(i,o)∈h->aX h i=some o
 |(k,p)::h,i,o,hn,hm=>by
  simp only[List.map_cons,List.nodup_cons]at hn
  rw[bH]
  rcases List.mem_cons.1 hm with e|hm
  ·cases e;simp
  ·have:k≠i:=fun e=>hn.1 (e▸List.mem_map.2 ⟨_,hm,rfl⟩)
   rw[if_neg this]
   exact EG h i o hn.2 hm
theorem jX: ∀(l h:dN) (i:Nat),i∉l.map (·.1)->aX (Fb l h) i=aX h i
 |[],h,i,_=>rfl
 |(k,o)::l,h,i,hn=>by
  simp only[List.map_cons,List.mem_cons,not_or]at hn
  simp only[Fb]
  rw[jX l _ i hn.2,gG,if_neg (Ne.symm hn.1)]
theorem wO: ∀(l h:dN) (i:Nat) (o:aW),(l.map (·.1)).Nodup->(i,o)∈l->(aX h i).isSome=true->aX (Fb l h) i=some o
 |(k,p)::l,h,i,o,hn,hm,hs=>by
  simp only[List.map_cons,List.nodup_cons]at hn
  simp only[Fb]
  rcases List.mem_cons.1 hm with e|hm
  ·have e1:=(Prod.mk.inj e).1
   have e2:=(Prod.mk.inj e).2
   subst e1 e2
   rw[jX l _ i hn.1,gG,if_pos rfl]
   cases hg:aX h i with
   |none=>rw[hg]at hs;cases hs
   |some q=>rfl
  ·refine wO l _ i o hn.2 hm ?_
   rw[gG]
   split
   ·rename_i e;subst e;cases hg:aX h k with
    |none=>rw[hg]at hs;cases hs
    |some q=>rfl
   ·exact hs
def JZ:List Nat->List Nat->(Nat->Loc)->(Nat->Loc)->Nat->Loc
 |a::qs,j::js,m1,m,i=>if a=i then m1 j else JZ qs js m1 m i
 |_,_,_,m,i=>m i
theorem Hf {m1 m:Nat->Loc}: ∀(qs js:List Nat) (k a j:Nat),qs.Nodup->qs[k]? =some a->js[k]? =some j->JZ qs js m1 m a=m1 j
 |[],_,k,a,j,_,h,_=>by simp at h
 |_::_,[],k,a,j,_,_,h=>by simp at h
 |a0::qs,j0::js,0,a,j,_,h1,h2=>by
  simp only[List.getElem?_cons_zero,Option.some.injEq]at h1 h2
  subst h1 h2
  simp[JZ]
 |a0::qs,j0::js,k+1,a,j,hn,h1,h2=>by
  simp only[List.getElem?_cons_succ]at h1 h2
  simp only[List.nodup_cons]at hn
  have:a0≠a:=fun e=>hn.1 (e▸List.mem_of_getElem? h1)
  simp only[JZ,if_neg this]
  exact Hf qs js k a j hn.2 h1 h2
theorem Ju {m1 m:Nat->Loc}: ∀(qs js:List Nat) (i:Nat),i∉qs->JZ qs js m1 m i=m i
 |[],_,i,_=>by simp[JZ]
 |_::_,[],i,_=>by simp[JZ]
 |a::qs,j::js,i,h=>by
  simp only[List.mem_cons,not_or]at h
  simp only[JZ,if_neg (Ne.symm h.1)]
  exact Ju qs js i h.2
def akE (W0:World) (c:Cx) (s:gq) (z:((s.cs.map (·.1)).foldr Ty.pair Ty.unit).den×(s.rs.foldr Ty.pair Ty.unit).den):Ending->World->Prop:=fun e w'=>
 ∃(c1:Cx) (us:List Value) (cells:List aA),e=.returned (D9 us)/\c1.w=w'/\c1.Ok W0/\c.Mono c1/\aX c1.hp 0=some (.box s.bt cells)/\(c1.mu 0).blk=(c.mu 0).blk/\
  ((jP s.cs cells).map (·.1)).Nodup/\iy c1.hp true s.cs cells=some z.1/\kV c1 s.rs z.2 us
def gY (P:Program) (g:FuncId) (s:gq):Prop:=
 ∀(W0:World) (c:Cx) x y z,c.Ok W0->c.mks=[]->c.nxt=0->c.hp=(0,.box s.bt (yZ s.cs (fV s.cs 1) x))::nX s.cs (fV s.cs 1) x-> ∀args':Array Value,aj c (.ptr 0 0::BZ s.ps y) args'.toList->s.f x y=some z->
  (callFunc g args').run P c.w=.ok (.enter g args') c.w/\Calls P g args' c.w (akE W0 c s z)
theorem qY: ∀(cs:List (Ty×Bool)) (n:Nat),∀p∈fV cs n,p.2=0
 |[],n,p,h=>by simp[fV]at h
 |(_,true)::cs,n,p,h=>by
  simp only[fV,List.mem_cons]at h
  rcases h with rfl|h
  ·rfl
  ·exact qY cs (n+1) p h
 |(_,false)::cs,n,p,h=>qY cs n p h
theorem Ei: ∀(ps:List Ty) x (us:List Value),kV c ps x us->aj c (BZ ps x) us
 |[],x,us,h=>by
  simp only[kV]at h
  subst h
  simp[BZ,aj]
 |t::ps,x,us,h=>by
  obtain⟨u,us',rfl,h1,h2⟩:=h
  simp only[BZ,aj,aF]
  exact⟨h1,Ei ps x.2 us' h2⟩
theorem kV.move {c' c2:Cx} (hw:c2.w=c'.w): ∀(ps:List Ty) x (us:List Value),((∀b,c'.free b->c2.free b)\/ps.all Ty.rigid=true)->kV c' ps x us->kV c2 ps x us
 |[],x,us,_,h=>h
 |t::ps,x,us,hr,h=>by
  obtain⟨u,us',rfl,h1,h2⟩:=h
  refine⟨u,us',rfl,VD.move hw (hr.imp (fun h=>h) fun h=> ?_) h1,kV.move hw ps x.2 us' (hr.imp (fun h=>h) fun h=> ?_) h2⟩
  ·simp only[List.all_cons,Bool.and_eq_true]at h;exact h.1
  ·simp only[List.all_cons,Bool.and_eq_true]at h;exact h.2
theorem LK: ∀(l:List aA) (v:aA),v∈l-> ∀i∈refs v,i∈kL l
 |u::l,v,hm,i,hi=>by
  simp only[kL,List.mem_append]
  rcases List.mem_cons.1 hm with e|hm
  ·subst e;exact .inl hi
  ·exact .inr (LK l v hm i hi)
theorem arA {g:FuncId} {s:gq} (hs:gY P g s) {id:Nat} {qs:List aA} {st:St} {K:aA->St->Option R} (h:s.go id qs st K=some r) {a:Act} (hr:fH W0 b0 rd c st a ats) {us:Array Value} (hv:aj c (.ptr id 0::qs) us.toList)
  (Rr:Ending->World->Prop) (hR: ∀c' z u st',K z st'=some r->fH W0 b0 rd c' st' a ats->aF c' z u->c.Mono c'->Rr (.returned u) c'.w):
  (callFunc g us).run P c.w=.ok (.enter g us) c.w/\Calls P g us c.w Rr:=by
 unfold gq.go at h
 split at h<;>try (cases h;done)
 rename_i t cells hbx
 replace h:=aP h
 obtain⟨hc,h⟩:=h
 simp only[Bool.and_eq_true,Bool.or_eq_true,Bool.not_eq_true']at hc
 obtain⟨ht,⟨hnd,hno⟩,hrg⟩:=hc
 have ht:t=s.bt:=Nat.eq_of_beq_eq_true ht
 subst ht
 split at h<;>try (cases h;done)
 rename_i x hx
 split at h<;>try (cases h;done)
 rename_i y hy
 cases hz:s.f x y with
 |none=>rw[hz]at h;cases h
 |some z=>
 rw[hz]at h
 simp only[ai]at h
 rw[<-hr.hp]at hbx hx hy
 have hnd:=xm hnd
 have hno:=rC hno
 generalize hown:jP s.cs cells=own at*
 have hok:=hr.ok
 obtain⟨hB,vs,hw,hvs,hone⟩:=hok.obj id _ hbx
 have harr: ∀(k i v:Nat),own[k]? =some (i,v)-> ∃(e:Ty) (xs:List e.den),aX c.hp i=some (.arr e v xs):=fun k i v hk=>by
  obtain⟨e,xs,h1,_⟩:=Oo s.cs cells own hx k i v i v (by rw[hown];exact hk) hk
  exact⟨e,xs,h1⟩
 have hidx: ∀p∈own,∃k:Nat,own[k]? =some p:=fun p hp=>List.getElem?_of_mem hp
 have hidn:id∉own.map (·.1):=fun hm=>by
  obtain⟨p,hp,rfl⟩:=List.mem_map.1 hm
  obtain⟨k,hk⟩:=hidx p hp
  obtain⟨e,xs,h1⟩:=harr k p.1 p.2 hk
  rw[hbx]at h1;cases h1
 let S:Nat->Prop:=fun i=>i=id\/i∈own.map (·.1)
 have hSo: ∀i,S i-> ∃o,aX c.hp i=some o/\ ∀f fr ps asg bd ky n p,o≠ .lp f fr ps asg bd ky n p:=fun i hi=>by
  rcases hi with rfl|hi
  ·exact⟨_,hbx,by simp⟩
  ·obtain⟨p,hp,rfl⟩:=List.mem_map.1 hi
   obtain⟨k,hk⟩:=hidx p hp
   obtain⟨e,xs,h1⟩:=harr k p.1 p.2 hk
   exact⟨_,h1,by simp⟩
 let ownS:Nat->Prop:=fun b=> ∃i o,S i/\aX c.hp i=some o/\o.blk (c.mu i)=some b
 have hownS: ∀b,ownS b->c.own b:=fun b ⟨i,o,_,h1,h2⟩=>⟨i,o,h1,h2⟩
 let c0:Cx:=⟨fun k=>if k=0 then c.mu id else JZ ((fV s.cs 1).map (·.1)) (own.map (·.1)) c.mu c.mu k,(0,.box s.bt (yZ s.cs (fV s.cs 1) x))::nX s.cs (fV s.cs 1) x,0,c.w,[],fun b=>s.rigid=false/\b<c.w.heap.size/\ ¬c.free b/\ ¬ownS b⟩
 have hlen:(fV s.cs 1).length=own.length:=by rw[<-hown];exact L9 s.cs cells hx 1
 have hmu0: ∀(k i v i':Nat),own[k]? =some (i,v)->(fV s.cs 1)[k]? =some (i',0)->i'≠0/\c0.mu i'=c.mu i:=fun k i v i' h1 h2=>by
  have h3:=yO s.cs 1 _ (List.mem_of_getElem? h2)
  refine⟨by simp at h3;omega, ?_⟩
  have h4:i'≠0:=by simp at h3;omega
  simp only[c0,if_neg h4]
  exact Hf _ _ k i' i (oW s.cs 1) (by rw[List.getElem?_map,h2];rfl) (by rw[List.getElem?_map,h1];rfl)
 have get0: ∀(i':Nat) (o:aW),aX c0.hp i'=some o->(i'=0/\o=.box s.bt (yZ s.cs (fV s.cs 1) x))\/
   ∃(k i v:Nat) (e:Ty) (xs:List e.den),own[k]? =some (i,v)/\(fV s.cs 1)[k]? =some (i',0)/\o=.arr e 0 xs/\aX c.hp i=some (.arr e v xs):=fun i' o ho=>by
  simp only[c0,bH]at ho
  split at ho
  ·rename_i e
   cases ho
   exact .inl ⟨e.symm,rfl⟩
  ·right
   obtain⟨k,i,v,v',e,xs,q1,q2,q3,q4,_⟩:=Ld s.cs cells (fV s.cs 1) hx (by rw[hown];exact hlen) i' o (tZ _ _ _ ho)
   rw[hown]at q1
   have:=qY s.cs 1 _ (List.mem_of_getElem? q2)
   simp only at this
   subst this
   exact⟨k,i,v,e,xs,q1,q2,q3,q4⟩
 have hown0: ∀b,c0.own b->ownS b:=fun b ⟨i',o,h1,h2⟩=>by
  rcases get0 i' o h1 with ⟨rfl,rfl⟩|⟨k,i,v,e,xs,q1,q2,rfl,q4⟩
  ·exact⟨id,_,.inl rfl,hbx,by simpa [c0,aW.blk] using h2⟩
  ·rw[(hmu0 k i v i' q1 q2).2]at h2
   exact⟨i,_,.inr (List.mem_map.2 ⟨_,List.mem_of_getElem? q1,rfl⟩),q4,h2⟩
 have hfree0: ∀b,c.free b->c0.free b/\c0.w.heap[b]? =c.w.heap[b]? :=fun b hb=>⟨⟨hb.1,fun ho=>hb.2.1 (hownS b (hown0 b ho)),by simp[c0],fun hbar=>hbar.2.2.1 hb⟩,rfl⟩
 have conv: ∀(t:Ty) (v:aA) (x:t.den) (u:Value),(∀i ver vw,v=.slc i ver vw->s.rigid=true/\i≠id/\i∉own.map (·.1))->v.as c.hp t=some x->aF c v u->VD c0 t x u:=fun t v x u hcond h1 h2=>by
  refine XF hok hfree0 (fun i ver vw hvw o b h3 h4=> ?_) h1 h2
  obtain⟨h5,h6,h7⟩:=hcond i ver vw hvw
  refine⟨⟨((hok.obj i o h3).lt h4).2,fun ho=> ?_,by simp[c0],fun hbar=>by have:=hbar.1;rw[h5]at this;cases this⟩,rfl⟩
  obtain⟨j,o',hj,h8,h9⟩:=hown0 b ho
  have:=hok.inj i j o o' b h3 h8 h4 h9
  subst this
  rcases hj with hj|hj
  ·exact h6 hj
  ·exact h7 hj
 have hnot: ∀i,i∈kL qs++nY s.cs cells->i≠id/\i∉own.map (·.1):=fun i hi=>by
  have:=hno i hi
  simp only[List.mem_cons,not_or]at this
  exact this
 have hok0:c0.Ok W0:=by
  refine⟨hok.bel,fun i' o ho=> ?_,fun i j o p b h1 h2 h3 h4=> ?_,fun r hr=>by simp[c0]at hr,fun b hb=>⟨hb.2.1,fun ho=>hb.2.2.2 (hown0 b ho),by simp[c0]⟩,hok.phi⟩
  ·rcases get0 i' o ho with ⟨rfl,rfl⟩|⟨k,i,v,e,xs,q1,q2,rfl,q4⟩
   ·refine⟨by simpa [c0] using hB,vs,by simpa [c0] using hw, ?_,hone⟩
    refine Tz s.cs cells (fV s.cs 1) vs.toList hx hvs (by rw[hown];exact hlen) (fun k i v i' v' q1 q2 e xs q3=> ?_) fun t v x u q1 q2 q3 q4 q5=>conv t v x u (fun i ver vw hvw=> ?_) q4 q5
    ·rw[hown]at q1
     have hz0:=qY s.cs 1 _ (List.mem_of_getElem? q2)
     simp only at hz0
     subst hz0
     obtain⟨h6,h7⟩:=hmu0 k i v i' q1 q2
     refine⟨?_,by rw[h7]⟩
     obtain⟨e2,xs2,h8,h9⟩:=Oo s.cs cells (fV s.cs 1) hx k i v i' 0 (by rw[hown];exact q1) q2
     rw[q3]at h8
     cases h8
     have aX:=EG _ _ _ (List.Sublist.nodup (Di s.cs (fV s.cs 1) x) (oW s.cs 1)) h9
     simp only[c0,bH,if_neg (Ne.symm h6)]
     exact aX
    ·subst hvw
     obtain⟨h6,h7⟩:=hnot i (List.mem_append_right _ (q3 i (by simp[refs])))
     refine⟨?_,h6,h7⟩
     cases hrg2:s.rigid with
     |true=>rfl
     |false=>
      rcases q2 (by rw[hrg2];rfl)with h8|h8
      ·simp[ja]at h8
      ·cases t<;>simp[Ty.rigid]at h8<;>simp[aA.as]at q4
   ·obtain⟨hpos,el,zs,w1,w2,w3⟩:=hok.obj i _ q4
    refine⟨hpos,el,zs,by rw[(hmu0 k i v i' q1 q2).2];exact w1,dA.mono (cu.mono hfree0 e) _ _ w2,w3⟩
  ·rcases get0 i o h1 with ⟨rfl,rfl⟩|⟨k,i1,v,e,xs,q1,q2,rfl,q4⟩<;>rcases get0 j p h2 with ⟨rfl,rfl⟩|⟨k',i2,v',e',xs',q1',q2',rfl,q4'⟩
   ·rfl
   ·rw[(hmu0 k' i2 v' j q1' q2').2]at h4
    have:=hok.inj id i2 _ _ b hbx q4' (by simpa [c0,aW.blk] using h3) h4
    subst this
    rw[hbx]at q4';cases q4'
   ·rw[(hmu0 k i1 v i q1 q2).2]at h3
    have:=hok.inj id i1 _ _ b hbx q4 (by simpa [c0,aW.blk] using h4) h3
    subst this
    rw[hbx]at q4;cases q4
   ·rw[(hmu0 k i1 v i q1 q2).2]at h3
    rw[(hmu0 k' i2 v' j q1' q2').2]at h4
    have:=hok.inj i1 i2 _ _ b q4 q4' h3 h4
    subst this
    have hkk:k=k':=by
     have e1:(own.map (·.1))[k]? =some i1:=by rw[List.getElem?_map,q1];rfl
     have e2:(own.map (·.1))[k']? =some i1:=by rw[List.getElem?_map,q1'];rfl
     exact(List.getElem?_inj (List.getElem?_eq_some_iff.1 e1).1 hnd).1 (e1.trans e2.symm)
    subst hkk
    rw[q2]at q2'
    cases q2'
    rfl
 obtain⟨us⟩:=us
 cases us with
 |nil=>simp[aj]at hv
 |cons u0 us=>
 simp only[aj]at hv
 obtain⟨hu0,hqs⟩:=hv
 have hv0:aj c0 (.ptr 0 0::BZ s.ps y) (u0::us):=by
  simp only[aj]
  refine⟨?_,Ei s.ps y us (uo s.ps qs y us hy hqs fun t v x u hm h1 h2=>conv t v x u (fun i ver vw hvw=> ?_) h1 h2)⟩
  ·simp only[aF]at hu0 ⊢
   exact⟨hu0.1,.inl ⟨_,by simp[c0,bH];rfl⟩,fun t' cs' _=>by simpa [c0] using hu0.2.2 _ _ hbx⟩
  ·subst hvw
   have hm2:i∈kL qs:=LK _ _ hm i (by simp[refs])
   obtain⟨h6,h7⟩:=hnot i (List.mem_append_left _ hm2)
   refine⟨?_,h6,h7⟩
   rcases hrg with hrg|hrg
   ·exact hrg
   ·have:=List.any_eq_false.1 hrg _ hm
    simp[ja]at this
 obtain⟨hrun,hcall⟩:=hs W0 c0 x y z hok0 rfl rfl rfl ⟨u0::us⟩ hv0 hz
 refine⟨hrun,hcall.mono ?_⟩
 rintro e w' ⟨c1,us1,cells1,rfl,rfl,hok1,hm1,hb1,hblk1,hnd1,hx1,hdv⟩
 let ids2:List (Nat×Nat):=own.map fun p=>(p.1,p.2+1)
 generalize hown1:jP s.cs cells1=own1 at*
 let c2:Cx:=⟨fun i=>if i=id then c.mu id else JZ (own.map (·.1)) (own1.map (·.1)) c1.mu c.mu i,gB (Fb (nX s.cs ids2 z.1) c.hp) id (.box s.bt (yZ s.cs ids2 z.1)),c.nxt,c1.w,c.mks,c.bar⟩
 have hlen1:own1.length=own.length:=by rw[<-hown1,<-L9 s.cs cells1 hx1 1,hlen]
 have hlen2:ids2.length=(jP s.cs cells1).length:=by rw[hown1];simp[ids2,hlen1]
 have hkeys:(ids2.map (·.1))=own.map (·.1):=by simp[ids2,List.map_map,Function.comp_def]
 have hndk:((nX s.cs ids2 z.1).map (·.1)).Nodup:=List.Sublist.nodup (Di s.cs ids2 z.1) (by rw[hkeys];exact hnd)
 have hsubk: ∀i,i∈(nX s.cs ids2 z.1).map (·.1)->i∈own.map (·.1):=fun i hi=>by
  have:=(Di s.cs ids2 z.1).subset hi
  rwa [hkeys]at this
 have get2: ∀(k i v:Nat),own[k]? =some (i,v)-> ∃(j w:Nat) (e:Ty) (xs:List e.den),own1[k]? =some (j,w)/\aX c1.hp j=some (.arr e w xs)/\aX c2.hp i=some (.arr e (v+1) xs)/\c2.mu i=c1.mu j/\(.list e,true)∈s.cs:=fun k i v hk=>by
  have hk1:k<own1.length:=by rw[hlen1];exact(List.getElem?_eq_some_iff.1 hk).1
  obtain⟨⟨j,w⟩,hj⟩: ∃p,own1[k]? =some p:=⟨_,List.getElem?_eq_getElem hk1⟩
  have hid2:ids2[k]? =some (i,v+1):=by simp[ids2,List.getElem?_map,hk]
  obtain⟨e,xs,h1,h2⟩:=Oo s.cs cells1 ids2 hx1 k j w i (v+1) (by rw[hown1];exact hj) hid2
  obtain⟨k',i1,v1,v2,e',xs',q1,q2,q3,q4,q5⟩:=Ld s.cs cells1 ids2 hx1 hlen2 i _ h2
  have him:i∈own.map (·.1):=List.mem_map.2 ⟨_,List.mem_of_getElem? hk,rfl⟩
  have hne:id≠i:=fun e=>hidn (e▸him)
  obtain⟨e0,xs0,h0⟩:=harr k i v hk
  refine⟨j,w,e,xs,hj,h1, ?_, ?_, ?_⟩
  ·simp only[c2]
   rw[gG,if_neg hne]
   exact wO _ _ _ _ hndk h2 (by rw[h0];rfl)
  ·simp only[c2,if_neg (Ne.symm hne)]
   exact Hf _ _ k i j hnd (by rw[List.getElem?_map,hk];rfl) (by rw[List.getElem?_map,hj];rfl)
  ·cases q3;exact q5
 have get2id:aX c2.hp id=some (.box s.bt (yZ s.cs ids2 z.1)):=by
  simp only[c2]
  rw[gG,if_pos rfl,jX _ _ _ fun h=>hidn (hsubk id h),hbx]
  rfl
 have mu2id:c2.mu id=c.mu id:=by simp[c2]
 have hm0:(c1.mu 0).blk=(c.mu id).blk:=by rw[hblk1];simp[c0]
 have new2: ∀(i:Nat) (o':aW),S i->aX c2.hp i=some o'-> ∃j o1,aX c1.hp j=some o1/\o1.blk (c1.mu j)=o'.blk (c2.mu i)/\((i=id/\j=0/\o1=.box s.bt cells1)\/ ∃(k v w:Nat),own[k]? =some (i,v)/\own1[k]? =some (j,w)/\ ∃(e:Ty) (xs:List e.den),o1=.arr e w xs):=fun i o' hi ho=>by
  rcases hi with rfl|hi
  ·rw[get2id]at ho
   cases ho
   exact⟨0,_,hb1,by simp[aW.blk,mu2id,hm0],.inl ⟨rfl,rfl,rfl⟩⟩
  ·obtain⟨p,hp,rfl⟩:=List.mem_map.1 hi
   obtain⟨k,hk⟩:=hidx p hp
   obtain⟨j,w,e,xs,q1,q2,q3,q4,_⟩:=get2 k p.1 p.2 hk
   rw[q3]at ho
   cases ho
   exact⟨j,_,q2,by simp only[aW.blk];rw[q4],.inr ⟨k,p.2,w,hk,q1,e,xs,rfl⟩⟩
 have out1: ∀b,b<c.w.heap.size-> ¬ownS b->c1.out b/\c1.w.heap[b]? =c.w.heap[b]? :=fun b hb hn=>hm1.out b ⟨hb,fun ho=>hn (hown0 b ho),by simp[c0]⟩
 obtain⟨hle,hmk⟩:=Cx.many (c2:=c2) hok S rfl rfl rfl (fun i hi=>by
   have h1:i≠id:=fun e=>hi (.inl e)
   have h2:i∉own.map (·.1):=fun e=>hi (.inr e)
   refine⟨?_,by simp only[c2,if_neg h1];exact Ju _ _ _ h2⟩
   simp only[c2]
   rw[gG,if_neg (Ne.symm h1),jX _ _ _ fun h=>h2 (hsubk i h)])
  (fun i hi=>by
   rcases hi with rfl|hi
   ·exact⟨_,_,hbx,get2id,by simp[aW.like,mu2id],by simp⟩
   ·obtain⟨p,hp,rfl⟩:=List.mem_map.1 hi
    obtain⟨k,hk⟩:=hidx p hp
    obtain⟨j,w,e,xs,q1,q2,q3,q4,_⟩:=get2 k p.1 p.2 hk
    obtain⟨e0,xs0,h0⟩:=harr k p.1 p.2 hk
    exact⟨_,_,h0,q3,⟨by omega,fun e=>by omega⟩,by simp⟩)
  hok1.bel hm1.size (fun b hb hn=>(out1 b hb fun⟨i,o,h1,h2,h3⟩=>hn i o h1 h2 h3).2)
  (fun i o' b hi ho hb=>by
   by_cases hlt:b<c.w.heap.size
   ·right
    refine Classical.byContradiction fun hn=> ?_
    obtain⟨j,o1,h1,h2,_⟩:=new2 i o' hi ho
    exact(out1 b hlt fun⟨j,o,h3,h4,h5⟩=>hn ⟨j,o,h3,h4,h5⟩).1.2.1 ⟨j,o1,h1,h2.trans hb⟩
   ·left;omega)
  (fun i i' o' p' b hi hi' ho hp hb hb'=>by
   obtain⟨j,o1,h1,h2,h3⟩:=new2 i o' hi ho
   obtain⟨j',o1',h1',h2',h3'⟩:=new2 i' p' hi' hp
   have hj:=hok1.inj j j' o1 o1' b h1 h1' (h2.trans hb) (h2'.trans hb')
   subst hj
   rw[h1]at h1'
   cases h1'
   rcases h3 with ⟨rfl,rfl,rfl⟩|⟨k,v,w,q1,q2,e,xs,rfl⟩
   ·rcases h3' with ⟨rfl,_⟩|⟨k',v',w',q1',q2',e',xs',he⟩
    ·rfl
    ·cases he
   ·rcases h3' with ⟨_,_,he⟩|⟨k',v',w',q1',q2',e',xs',he⟩
    ·cases he
    ·have hkk:k=k':=by
      have e1:(own1.map (·.1))[k]? =some j:=by rw[List.getElem?_map,q2];rfl
      have e2:(own1.map (·.1))[k']? =some j:=by rw[List.getElem?_map,q2'];rfl
      exact(List.getElem?_inj (List.getElem?_eq_some_iff.1 e1).1 hnd1).1 (e1.trans e2.symm)
     subst hkk
     rw[q1]at q1'
     cases q1'
     rfl)
  (fun b L i o hi ho hb=>by
   obtain⟨o2,h1,h2⟩:=hSo i hi
   rw[ho]at h1
   cases h1
   exact(hok.obj i o ho).no_loop h2 hb)
 have hfree2:s.rigid=true\/ ∀b,c1.free b->c2.free b:=by
  cases hrg2:s.rigid with
  |true=>exact .inl rfl
  |false=>
   right
   intro b hb
   have hbar1: ∀b,b<c.w.heap.size-> ¬c.free b-> ¬ownS b-> ¬c1.free b:=fun b h1 h2 h3 hf=>hf.2.2.2 (by rw[hm1.bar];exact⟨hrg2,h1,h2,h3⟩)
   refine⟨hb.1, ?_,fun hm=> ?_,fun hm=> ?_⟩
   ·rintro ⟨i,o',h1,h2⟩
    by_cases hi:S i
    ·obtain⟨j,o1,h3,h4,_⟩:=new2 i o' hi h1
     exact hb.2.1 ⟨j,o1,h3,h4.trans h2⟩
    ·have h1':i≠id:=fun e=>hi (.inl e)
     have h2':i∉own.map (·.1):=fun e=>hi (.inr e)
     simp only[c2]at h1 h2
     rw[gG,if_neg (Ne.symm h1'),jX _ _ _ fun h=>h2' (hsubk i h)]at h1
     rw[if_neg h1',Ju _ _ _ h2']at h2
     refine hbar1 b ((hok.obj i o' h1).lt h2).2 (fun hf=>hf.2.1 ⟨i,o',h1,h2⟩) ?_ hb
     rintro ⟨j,o,hj,h3,h4⟩
     have:=hok.inj i j o' o b h1 h3 h2 h4
     subst this
     exact hi hj
   ·exact hbar1 b (hok.mark_lt hm) (fun hf=>hf.2.2.1 hm) (fun ho=>hok.mark_own hm (hownS b ho)) hb
   ·exact hbar1 b (hok.bar b hm).1 (fun hf=>hf.2.2.2 hm) (fun ho=>(hok.bar b hm).2.1 (hownS b ho)) hb
 have hrgc:s.rigid=true->(∀p∈s.cs,p.1.rigid=true\/p.2=true/\p.1.elem.rigid=true)/\s.rs.all Ty.rigid=true:=fun h=>by
  simp only[gq.rigid,Bool.and_eq_true]at h
  exact⟨fun p hp=>by have:=List.all_eq_true.1 h.1 p hp;simpa using this,h.2⟩
 have hok2:c2.Ok W0:=hmk fun i o' hi ho=>by
  rcases hi with rfl|hi
  ·rw[get2id]at ho
   cases ho
   obtain⟨hB1,vs1,hw1,hvs1,hone1⟩:=hok1.obj 0 _ hb1
   refine⟨by rw[mu2id];exact hB,vs1,by rw[mu2id,<-hm0];exact hw1, ?_,hone1⟩
   refine Tz s.cs cells1 ids2 vs1.toList hx1 hvs1 hlen2 (fun k j w i v q1 q2 e xs q3=> ?_) fun t v x u q1 q2 q3 q4 q5=> ?_
   ·rw[hown1]at q1
    have hk: ∃v0,own[k]? =some (i,v0)/\v=v0+1:=by
     simp only[ids2,List.getElem?_map,Option.map_eq_some_iff]at q2
     obtain⟨p,hp1,hp2⟩:=q2
     cases hp2
     exact⟨p.2,hp1,rfl⟩
    obtain⟨v0,hk,rfl⟩:=hk
    obtain⟨j',w',e',xs',p1,p2,p3,p4,_⟩:=get2 k i v0 hk
    rw[q1]at p1
    cases p1
    rw[q3]at p2
    cases p2
    exact⟨p3,by rw[p4]⟩
   ·rcases hfree2 with hf|hf
    ·have ht:t.rigid=true:=by
      rcases(hrgc hf).1 (t,false) q1 with h|h
      ·exact h
      ·cases h.1
     cases ho:ja v with
     |false=>exact VD.move (c':=c1) (c2:=c2) rfl (.inr ht) (BI (cb:=c1) (fun b hb=>⟨hb,rfl⟩) ho q4 q5)
     |true=>
      refine VD.move (c':=c1) (c2:=c2) rfl (.inr ht) (XF (cb:=c1) hok1 (fun b hb=>⟨hb,rfl⟩) (fun i ver vw hvw=> ?_) q4 q5)
      subst hvw
      cases t<;>simp[Ty.rigid]at ht<;>simp[aA.as]at q4
    ·refine VD.move (c':=c1) (c2:=c2) rfl (.inl hf) (XF (cb:=c1) hok1 (fun b hb=>⟨hb,rfl⟩) (fun i ver vw hvw=> ?_) q4 q5)
     subst hvw
     rcases q2 rfl with h8|h8
     ·simp[ja]at h8
     ·cases t<;>simp[Ty.rigid]at h8<;>simp[aA.as]at q4
  ·obtain⟨p,hp,rfl⟩:=List.mem_map.1 hi
   obtain⟨k,hk⟩:=hidx p hp
   obtain⟨j,w,e,xs,q1,q2,q3,q4,q5⟩:=get2 k p.1 p.2 hk
   rw[q3]at ho
   cases ho
   obtain⟨hpos,el,zs,w1,w2,w3⟩:=hok1.obj j _ q2
   refine⟨hpos,el,zs,by rw[q4];exact w1,dA.move (c':=c1) (c2:=c2) rfl ?_ w2,w3⟩
   rcases hfree2 with hf|hf
   ·right
    rcases(hrgc hf).1 _ q5 with h|h
    ·simp[Ty.rigid]at h
    ·exact h.2
   ·exact .inl hf
 have hd:wF W0 c st c2 {st with hp:=gB (Fb (nX s.cs ids2 z.1) st.hp) id (.box s.bt (yZ s.cs ids2 z.1))}:=⟨by simp[c2,hr.hp],hr.nxt,rfl,rfl,hok2,hle⟩
 exact hR c2 _ _ _ h (hr.did hd) (uk (Ei s.rs z.2 us1 (kV.move (c':=c1) (c2:=c2) rfl s.rs z.2 us1 (hfree2.symm.imp (fun h=>h) fun h=>(hrgc h).2) hdv))) hle.mono
theorem TF {cl:Bool}: ∀(cs:List (Ty×Bool)) (n:Nat) (cells:List aA) (st:St) (K:List aA->St->Option R),nI cl n cs cells st K=some r-> ∀(c:Cx) (vs:List Value),c.Ok W0->c.hp=st.hp->c.nxt=st.nxt->aj c cells vs->
  ∃c' st' cells',wF W0 c st c' st'/\c'.w=c.w/\aj c' cells' vs/\K cells' st'=some r/\ ∀i o,aX st.hp i=some o->aX st'.hp i=some o:=by
 have plain: ∀(cells:List aA) (st:St) (K:List aA->St->Option R),K cells st=some r-> ∀(c:Cx) (vs:List Value),c.Ok W0->c.hp=st.hp->c.nxt=st.nxt->aj c cells vs->
   ∃c' st' cells',wF W0 c st c' st'/\c'.w=c.w/\aj c' cells' vs/\K cells' st'=some r/\ ∀i o,aX st.hp i=some o->aX st'.hp i=some o:=
  fun cells st K h c vs hok h1 h2 hv=>⟨c,st,cells,wF.refl hok h1 h2,rfl,hv,h,fun i o h=>h⟩
 intro cs
 induction cs with
 |nil=>intro n cells st K h;cases cells<;>exact plain _ st K h
 |cons tc cs ih=>
  intro n cells st K h c vs hok h1 h2 hv
  cases cells with
  |nil=>exact plain _ st K (by obtain⟨t,o⟩:=tc;cases o<;>cases t<;>simpa only[nI] using h) c vs hok h1 h2 hv
  |cons v cells=>
   cases vs with
   |nil=>simp[aj]at hv
   |cons u vs=>
    have step:nI cl (n+1) cs cells st (fun l st=>K (v::l) st)=some r-> ∃c' st' cells',wF W0 c st c' st'/\c'.w=c.w/\aj c' cells' (u::vs)/\K cells' st'=some r/\ ∀i o,aX st.hp i=some o->aX st'.hp i=some o:=fun h=>by
     simp only[aj]at hv
     obtain⟨c',st',cells',hd,hw,hv',hK,hp⟩:=ih (n+1) cells st _ h c vs hok h1 h2 hv.2
     exact⟨c',st',v::cells',hd,hw,by simp only[aj];exact⟨aF.le hd.le _ _ hv.1,hv'⟩,hK,hp⟩
    obtain⟨t,o⟩:=tc
    cases o with
    |false=>exact step (by simpa only[nI] using h)
    |true=>
     cases t with
     |list e=>
      cases v with
      |nils=>
       simp only[nI]at h
       replace h:=aP h
       obtain⟨hpos,h⟩:=h
       have hpos:0<e.size:=by simpa [Fp] using hpos
       obtain⟨id,n',h3,h4,h5,h⟩:=gu h
       simp only[aj]at hv
       have hu:=hv.1
       simp only[aF]at hu
       subst hu
       obtain⟨c1,hd1,hw1,hv1⟩:=lX hok h1 h2 h3 h4 h5 (y:=e) hpos (xs:=[]) (v:=.slice none 0 0) (w:=c.w) (Below.refl _ _) kQ [] ⟨by simp,.inl ⟨rfl,rfl⟩⟩ (by simp[dA]) rfl (fun _=>rfl)
       obtain⟨c',st',cells',hd,hw,hv',hK,hp⟩:=ih (n+1) cells _ _ h c1 vs hd1.ok hd1.hp hd1.nxt (aj.le hd1.le _ _ hv.2)
       refine⟨c',st',.slc id 0 none::cells',hd1.trans hd,hw.trans hw1,by simp only[aj];exact⟨aF.le hd.le _ _ hv1,hv'⟩,hK,fun i o ho=>hp i o ?_⟩
       have:id≠i:=fun e=>by subst e;rw[h3]at ho;cases ho
       simp only[bH,if_neg this]
       exact ho
      |_=>exact step (by simpa only[nI] using h)
     |_=>exact step (by simpa only[nI] using h)
theorem alf {g:FuncId} {s:gq} (hs:gY P g s) (cl:Bool) (n:Nat):jA (R:=R) P W0 n (C9 g s cl):=by
 intro b0 rd fv args dst st K r h c a ats fv' args' hr hfv hargs o next Q hn
 cases fv with
 |fn g' caps=>
  simp only[C9]at h
  split at h
  ·rename_i hg
   subst hg
   simp only[aF]at hfv
   obtain⟨vs,rfl,hcaps⟩:=hfv
   have hall:=aj.append_arr hargs hcaps
   have key: ∀Rr:Ending->World->Prop,(∀c' z u st',K z st'=some r->fH W0 b0 rd c' st' a ats->aF c' z u->c.Mono c'->Rr (.returned u) c'.w)->
     (callFunc g' (args'++vs)).run P c.w=.ok (.enter g' (args'++vs)) c.w/\Calls P g' (args'++vs) c.w Rr:=by
    intro Rr hRr
    generalize args++caps=al at h hall
    unfold gq.call at h
    split at h<;>try (cases h;done)
    rename_i id qs
    split at h<;>try (cases h;done)
    rename_i t cells hbx
    rw[cond_eq_ite]at h
    split at h
    ·rw[<-hr.hp]at hbx
     obtain⟨hB,vs0,hw,hvs,hone⟩:=hr.ok.obj id _ hbx
     obtain⟨c',st',cells',hd,hw',hv',hK,hp⟩:=TF s.cs _ cells st _ h c vs0.toList hr.ok hr.hp hr.nxt hvs
     have hr':=hr.did hd
     have hbx':aX c'.hp id=some (.box t cells):=by rw[hr'.hp];exact hp id _ (by rw[<-hr.hp];exact hbx)
     obtain⟨o1,q1,q2⟩:=hd.le.obj id _ (.inl ⟨_,hbx⟩) hbx'
     rw[hbx]at q1
     cases q1
     simp only[aW.like]at q2
     have hlike:aW.like (.box t cells) (c'.mu id) (.box t cells') (c'.mu id):=rfl
     have hll: ∀b,(aW.box t cells').blk (c'.mu id)=some b->(aW.box t cells).blk (c'.mu id)=some b\/c'.w.heap.size<=b:=fun b hb=>.inl hb
     have hlp: ∀(b:Nat) (L:Loop),(aW.box t cells).blk (c'.mu id)=some b->c'.w.heap[b]? =some (Obj.loop L)-> ∃L':Loop,c'.w.heap[b]? =some (Obj.loop L'):=fun b L _ hL=>⟨L,hL⟩
     have hle:=Cx.Le.put (w:=c'.w) hr'.ok hbx' hlike (Nat.le_refl _) (fun b _ _=>rfl) hll hlp
     have hput:wF W0 c' st' (c'.put id (.box t cells') (c'.mu id) c'.w) {st' with hp:=gB st'.hp id (.box t cells')}:=by
      refine⟨by simp only[Cx.put];rw[hr'.hp],hr'.nxt,rfl,rfl,Cx.Ok.put hr'.ok hbx' hlike hr'.ok.bel (Nat.le_refl _) (fun b _ _=>rfl) hll hlp ?_,hle⟩
      refine⟨by simp only[Cx.put,upd_same];rw[q2];exact hB,vs0,by simp only[Cx.put,upd_same];rw[q2,hw'];exact hw,aj.le hle _ _ hv',hone⟩
     have hd2:=hd.trans hput
     have hG:=arA hs hK (hr.did hd2) (aj.le hd2.le _ _ hall) Rr fun c3 z u st3 k1 k2 k3 k4=>hRr c3 z u st3 k1 k2 k3 (hd2.le.mono.trans k4)
     change (callFunc g' (args'++vs)).run P c'.w=.ok (.enter g' (args'++vs)) c'.w/\Calls P g' (args'++vs) c'.w Rr at hG
     rw[hw']at hG
     exact hG
    ·exact arA hs h hr hall Rr hRr
   obtain⟨q1,q2⟩:=key (fun e w''=>match e with
     |.returned v=>next (a.put o.dst v) w''
     |.panicked chain=>Q (.panic chain) a w''
     |.outgrown=>LetsOut Q) (fun c' z u st' k1 k2 k3 k4=>hn c' z u st' k1 k2 k3 k4)
   rw[lK,q1]
   exact⟨oz rd,(uf q2).mono fun e w'' he=>by cases e<;>exact he⟩
  ·cases h
 |_=>simp[C9]at h
end
end Go.Proofs.YtihafdllichkeaaGreatDoor
