/- Parts of the proof, joined and shortened by a program: the plain machine, the functions as it prints them, and the mathematics over them. -/
import Derived.Laws.Externs
import Derived.Lib.Bytealg
import Derived.ChangeArms
import Derived.WideShapes
import Derived.Test.YtihafdllichkeaaGreatDoorProg
import Derived.Shelf.Strings.Builder1
import Derived.Test.YtihafdllichkeaaGreatDoorZ2
namespace Go.Proofs.YtihafdllichkeaaGreatDoor
open Go.RowKit
set_option linter.unusedVariables false
set_option linter.unusedSimpArgs false
section
variable {P:Program} {T:TT} {W0:World} {b0:Nat} {rd:Option Nat} {R:Type} {r:R} {c:Cx} {ats:List (Array Value)}
theorem arz {g:FuncId} {s:Sum} (hs:bD P g s) (cl:Bool) (n:Nat):jA (R:=R) P W0 n (wJ g s cl):=by
 intro b0 rd fv args dst st K r h c a ats fv' args' hr hfv hargs o next Q hn
 cases fv with
 |fn g' caps=>
  simp only[wJ]at h
  split at h
  ·rename_i hg
   subst hg
   simp only[aF]at hfv
   obtain⟨vs,rfl,hcaps⟩:=hfv
   have hall:=aj.append_arr hargs hcaps
   obtain⟨hc,x,y,hx,hy,h2⟩:=SY h
   rw[<-hr.hp]at hx
   obtain⟨bar,hbar,hdv,hfree⟩: ∃bar:Nat->Prop,(∀b,bar b->b<c.w.heap.size)/\kV (iK c.w bar) s.ps x (args'++vs).toList/\
     ((s.rs.all fun r=>r.1.rigid||(r.2&&r.1.elem.rigid))=true\/bar=fun b=>b<c.w.heap.size/\ ¬c.free b):=by
    rcases hc with hc|hc
    ·refine⟨fun _=>False,fun b h=>h.elim,uo s.ps _ x _ hx hall fun t v x u _ h1 h2=>Yr hr.ok (fun b hb=>⟨Ai.2 ⟨hb,fun h=>h⟩,rfl⟩) h1 h2,.inl hc⟩
    ·refine⟨fun b=>b<c.w.heap.size/\ ¬c.free b,fun b h=>h.1,uo s.ps _ x _ hx hall fun t v x u hm h1 h2=>BI (fun b hb=>⟨Ai.2 ⟨hb.1,fun h=>h.2 hb⟩,rfl⟩) ?_ h1 h2,.inr rfl⟩
     have:=List.any_eq_false.1 hc v hm
     simpa using this
   have key: ∀e w'',oQ c.w bar s.rs y e w''->(match e with
     |.returned v=>next (a.put o.dst v) w''
     |.panicked chain=>Q (.panic chain) a w''
     |.outgrown=>LetsOut Q):= ?_
   ·rw[lK]
    rcases hs c.w bar (args'++vs) x y hr.ok.phiw hbar hdv hy with ⟨h3,h4⟩|⟨u,h3,h4⟩
    ·rw[h3]
     exact⟨oz rd,(uf h4).mono fun e w'' he=>by
      have:=key e w'' he
      cases e<;>exact this⟩
    ·rw[h3]
     exact key (.returned u) c.w h4
   rintro e w'' ⟨c',us,rfl,rfl,hok',hb',hm',hhp',hv'⟩
   simp only
   have hext:y7 c c'.w:=hok'.bel
   have hmove: ∀(c2:Cx),c2.w=c'.w->(∀b,(c.at_ c'.w).free b->c'.free b->c2.free b)->((s.rs.all fun r=>r.1.rigid||(r.2&&r.1.elem.rigid))=true\/ ∀b,c'.free b->c2.free b):=fun c2 hw hf=>by
    rcases hfree with hf1|hf1
    ·exact .inl hf1
    ·right
     intro b hb
     exact hf b (agx hr.ok hok' (hb'.trans hf1) hb) hb
   rcases h2 with ⟨hn0,hnews,hK⟩|⟨e,xs,id,n',hn1,hnews,h5,h6,h7,hK⟩
   ·have hr2:=hr.ext hext
    refine hn (c.at_ c'.w) _ _ _ hK hr2 (uk ?_) (Cx.Le.ext hext).mono
    refine yB (c':=c') (c2:=c.at_ c'.w) rfl 0 s.rs y us (fun t ht=> ?_) (.inl hnews) hv'
    rcases hmove (c.at_ c'.w) rfl (fun b h _=>h)with h8|h8
    ·have:=List.all_eq_true.1 h8 t ht
     simp only[Bool.or_eq_true,Bool.and_eq_true]at this
     rcases this with h9|h9
     ·exact .inr (.inl h9)
     ·exact .inr (.inr h9.1)
    ·exact .inl h8
   ·have hobj:=hok'.obj 0 (.arr e 0 xs) (by rw[hhp',yT,hn1];simp[bH])
    obtain⟨hpos,el,zs,hown,hL,htyq⟩:=hobj
    have hk:=sO hr.hp hr.nxt h5 h6
    obtain⟨u0,hu0⟩:=Tt s.rs y us (by omega) hv'
    simp only[aF]at hu0
    have hget0:aX c'.hp 0=some (.arr e 0 xs):=by rw[hhp',yT,hn1];simp[bH]
    have hone:(c'.mu 0).v.oneCell'=true:=by
     have:=(hu0.2.2 _ _ _ hget0).2 rfl
     simp only[fO]at this
     rw[<-this];exact hu0.1
    have hl: ∀b,aW.blk (.arr e 0 xs) ⟨0,(c'.mu 0).v⟩=some b->c.w.heap.size<=b:=fun b hb=>(World.ownsRow.lt hown b hb).1
    have hle:=Cx.Le.push (o:=.arr e 0 xs) (l:=⟨0,(c'.mu 0).v⟩) (nxt:=n') (w:=c'.w) hk (by rw[hr.nxt];exact h7) hext.size hext.block hl
    have hfree2:=hmove (c.push id (.arr e 0 xs) ⟨0,(c'.mu 0).v⟩ n' c'.w) rfl (fun b hb1 hb2=>⟨hb1.1,(by
     rintro ⟨j,o,q1,q2⟩
     simp only[Cx.push,bH]at q1 q2
     split at q1
     ·rename_i e1
      subst e1
      cases q1
      rw[upd_same]at q2
      exact hb2.2.1 ⟨0,_,hget0,q2⟩
     ·rename_i e1
      rw[upd_ne _ _ (Ne.symm e1)]at q2
      exact hb1.2.1 ⟨j,o,q1,q2⟩),hb1.2.2⟩)
    have hown':c'.w.ownsRow W0.heap.size el e.size (c'.mu 0).v xs.length zs:=by
     refine⟨hown.1, ?_⟩
     rcases hown.2 with h|⟨g,cap,cur,e1,e2,e3⟩
     ·exact .inl h
     ·exact .inr ⟨g,cap,cur,e1,Nat.le_trans hr.ok.size e2,e3⟩
    have ho:(c.push id (.arr e 0 xs) ⟨0,(c'.mu 0).v⟩ n' c'.w).ORel W0.heap.size id (.arr e 0 xs):=by
     refine⟨hpos,el,zs,by simp only[Cx.push,upd_same];exact hown',dA.move (c':=c') (c2:=c.push id (.arr e 0 xs) ⟨0,(c'.mu 0).v⟩ n' c'.w) rfl ?_ hL,htyq⟩
     rcases hfree2 with h8|h8
     ·exact .inr (Eu s.rs y hn1 h8)
     ·exact .inl h8
    have hok2:=hr.ok.push hk (by rw[hr.nxt];exact h7) hext hl ho
    have hd:wF W0 c st (c.push id (.arr e 0 xs) ⟨0,(c'.mu 0).v⟩ n' c'.w) {st with hp:=(id,.arr e 0 xs)::st.hp,nxt:=n'}:=⟨by simp[Cx.push,hr.hp],rfl,rfl,rfl,hok2,hle⟩
    refine hn (c.push id (.arr e 0 xs) ⟨0,(c'.mu 0).v⟩ n' c'.w) _ _ _ hK (hr.did hd) (uk ?_) hle.mono
    refine yB (c':=c') (c2:=c.push id (.arr e 0 xs) ⟨0,(c'.mu 0).v⟩ n' c'.w) rfl id s.rs y us (fun t ht=> ?_) (.inr fun u hu=> ?_) hv'
    ·rcases hfree2 with h8|h8
     ·have:=List.all_eq_true.1 h8 t ht
      simp only[Bool.or_eq_true,Bool.and_eq_true]at this
      rcases this with h9|h9
      ·exact .inr (.inl h9)
      ·exact .inr (.inr h9.1)
     ·exact .inl h8
    ·simp only[aF]at hu ⊢
     have hu1:=(hu.2.2 _ _ _ hget0).2 rfl
     simp only[fO]at hu1
     subst hu1
     refine⟨hone,.inl ⟨.arr e 0 xs,by simp[Cx.push,bH]⟩,fun t u xs' h=> ?_⟩
     have:aW.arr e 0 xs=.arr t u xs':=by simpa [Cx.push,bH] using h
     cases this
     exact⟨Nat.le_refl _,fun _=>by simp[fO,Cx.push,upd_same]⟩
  ·cases h
 |_=>simp[wJ]at h
theorem Ip: ∀(rs:List (Ty×Bool)),(rs.all fun r=> !r.2&&r.1.rigid)=true->news rs=0
 |[],_=>rfl
 |(t,true)::rs,h=>by simp at h
 |(t,false)::rs,h=>by
  simp only[List.all_cons,Bool.and_eq_true]at h
  exact Ip rs h.2
theorem as4 {g:FuncId} {s:Sum} (hs:bD P g s) (cl:Bool) (hall:(s.rs.all fun r=> !r.2&&r.1.rigid)=true):jM (R:=R) P (wJ g s cl):=by
 intro W0 b0 rd fv args dst st K r h c a ats fv' args' hr hfv hargs
 cases fv with
 |fn g' caps=>
  simp only[wJ]at h
  split at h
  ·rename_i hg
   subst hg
   simp only[aF]at hfv
   obtain⟨vs,rfl,hcaps⟩:=hfv
   have hall2:=aj.append_arr hargs hcaps
   obtain⟨hc,x,y,hx,hy,h2⟩:=SY h
   rw[<-hr.hp]at hx
   rcases h2 with ⟨hn0,hnews,hK⟩|⟨e,xs,id,n',hn1,hnews,_⟩
   ·have hrig:=G5 _ (Af 0 s.rs y hall)
    refine⟨_,rv (Bj (jO 0 s.rs y)),hK,(Aa hrig _).2 rfl,fun w' hw'=> ?_⟩
    have hdv:kV (iK w' fun _=>False) s.ps x (args'++vs).toList:=uo s.ps _ x _ hx hall2 fun t v x u _ h1 h2=>Yr hr.ok (fun b hb=>⟨Ai.2 ⟨Nat.lt_of_lt_of_le hb hw'.size,fun h=>h⟩,hw'.block b hb⟩) h1 h2
    rcases hs w' (fun _=>False) (args'++vs) x y (VY.below hw' hr.ok.phiw) (fun b h=>h.elim) hdv hy with ⟨h3,h4⟩|⟨u,h3,h4⟩
    ·refine .inl ⟨g',args'++vs,by rw[lK,h3],h4.mono ?_⟩
     rintro e w'' ⟨c',us,rfl,rfl,hok',hb',hm',hhp',hv'⟩
     exact⟨by rw[(Aa hrig _).1 (uk hv')],hw'.trans (hok'.bel.mono hw'.size)⟩
    ·obtain⟨c',us,hu,_,hok',_,_,_,hv'⟩:=h4
     cases hu
     right
     rw[lK,h3,(Aa hrig _).1 (uk hv')]
   ·rw[Ip _ hall]at hnews;omega
  ·cases h
 |_=>simp[wJ]at h
theorem aij {E:Env} (hT:TOk P E.T) (hb: ∀g,E.bf g=true->uX P g) (h: ∀g s,E.sg g=some s->bD P g s) (hx: ∀g s,E.sb g=some s->gY P g s):qx P E:=
 ⟨hT,fun R W0 n g s hs=>alf (hx g s hs) E.cl n,hb,fun R W0 n g s hs=>arz (h g s hs) E.cl n,fun R g s hs hall=>as4 (h g s hs) E.cl hall⟩
def yG:(ps:List Ty)->(ps.foldr Ty.pair Ty.unit).den->List aA
 |[],_=>[]
 |t::ps,x=>.val t x.1::yG ps x.2
def frozen (hp:dN):aA->aA
 |.val t x=>.val t x
 |.nils=>.nils
 |.slc id ver vw=>match aX hp id with
  |some (.arr e v xs)=>bif v==ver then .val (.list e) (Ov xs vw)else .undef
  |_=>.undef
 |_=>.undef
def aA.asR (hp:dN) (own:Bool) (t:Ty) (v:aA):Option t.den:=bif own then v.as hp t else match v with
 |.agg l=>bif t.isAgg then zh t (l.map (frozen hp))else none
 |v=>v.as hp t
def fJ (own:Bool):(rs:List (Ty×Bool))->List aA->dN->Option ((rs.map (·.1)).foldr Ty.pair Ty.unit).den
 |[],[],_=>some ()
 |(t,false)::rs,v::l,hp=>match(bif own&&(ja v&& !t.rigid)then none else v.asR hp own t),fJ own rs l hp with
  |some x,some y=>some (x,y)
  |_,_=>none
 |(.list e,true)::rs,.slc id ver none::l,hp=>match aX hp id with
  |some (.arr t u xs)=>bif u==ver then(match iL (.list e) (t':=.list t) xs,fJ own rs l hp with
   |some x,some y=>some (x,y)
   |_,_=>none)else none
  |_=>none
 |_,_,_=>none
def uI (n:Nat) (v:aA):List aA:=
 match n,v with
 |1,v=>[v]
 |_,.tup l=>l
 |_,_=>[.undef]
def ik (E:Env) (g:FuncId) (ps:List Ty) (rs:List (Ty×Bool)) (x:(ps.foldr Ty.pair Ty.unit).den):Option ((rs.map (·.1)).foldr Ty.pair Ty.unit).den:=
 exec E 1000000 (.call g (yG ps x)) ⟨[],[],[],0⟩ fun v st=>fJ (!Nat.beq (news rs) 0) rs (uI rs.length v) st.hp
theorem ET: ∀(ps:List Ty) x (us:List Value),kV c ps x us->aj c (yG ps x) us
 |[],x,us,h=>by
  simp only[kV]at h
  subst h
  simp[yG,aj]
 |t::ps,x,us,h=>by
  obtain⟨u,us',rfl,h1,h2⟩:=h
  simp only[yG,aj,aF]
  exact⟨h1,ET ps x.2 us' h2⟩
theorem oZ {own:Bool}: ∀(rs:List (Ty×Bool)) (l:List aA) {hp:dN},(fJ own rs l hp).isSome=true->l.length=rs.length
 |[],[],_,_=>rfl
 |[],_::_,_,h=>by simp[fJ]at h
 |(t,false)::rs,[],_,h=>by simp[fJ]at h
 |(t,false)::rs,v::l,hp,h=>by
  simp only[fJ]at h
  split at h
  ·rename_i h2
   simp[oZ rs l (hp:=hp) (by rw[h2];rfl)]
  ·cases h
 |(t,true)::rs,[],_,h=>by cases t<;>simp[fJ]at h
 |(t,true)::rs,v::l,hp,h=>by
  cases t with
  |list e=>
   cases v with
   |slc id ver vw=>
    cases vw with
    |none=>
     simp only[fJ]at h
     split at h
     ·rw[cond_eq_ite]at h
      split at h
      ·split at h
       ·rename_i h2
        simp[oZ rs l (hp:=hp) (by rw[h2];rfl)]
       ·cases h
      ·cases h
     ·cases h
    |some p=>simp[fJ]at h
   |_=>simp[fJ]at h
  |_=>simp[fJ]at h
theorem xn {own:Bool} {v:aA} {u:Value} {rs:List (Ty×Bool)} {hp:dN} (h:(fJ own rs (uI rs.length v) hp).isSome=true) (hv:aF c v u): ∃us,u=D9 us/\aj c (uI rs.length v) us:=by
 match rs,h with
 |[t],h=>exact⟨[u],rfl,by simpa [uI,aj] using hv⟩
 |[],h=>
  cases v with
  |tup l=>
   simp only[List.length_nil,uI]at h ⊢
   cases l with
   |nil=>
    simp only[aF]at hv
    obtain⟨vs,rfl,h1⟩:=hv
    have:vs= #[]:=by
     have:=aj.length _ _ h1
     exact Array.eq_empty_of_size_eq_zero (by simpa using this.symm)
    subst this
    exact⟨[],rfl,by simp[aj]⟩
   |cons _ _=>simp[fJ]at h
  |_=>simp[uI,fJ]at h
 |t1::t2::rs,h=>
  cases v with
  |tup l=>
   simp only[aF]at hv
   obtain⟨vs,rfl,h1⟩:=hv
   have hl:=aj.length _ _ h1
   have hlen:l.length=(t1::t2::rs).length:=oZ _ _ h
   simp only[List.length_cons,uI]
   refine⟨vs.toList, ?_,h1⟩
   cases hvs:vs.toList with
   |nil=>rw[hvs,hlen]at hl;simp only[List.length_cons,List.length_nil]at hl;omega
   |cons v1 r1=>
    cases r1 with
    |nil=>rw[hvs,hlen]at hl;simp only[List.length_cons,List.length_nil]at hl;omega
    |cons v2 r2=>simp only[D9];rw[<-hvs]
  |_=>
   exfalso
   have:=oZ _ _ h
   simp[uI]at this
end
end Go.Proofs.YtihafdllichkeaaGreatDoor
namespace Go.Proofs.YtihafdllichkeaaGreatDoor
open Go.RowKit
set_option linter.unusedVariables false
set_option linter.unusedSimpArgs false
structure bJ (E:Env):Prop where
 T:TOk E.P E.T
 m:E.P.follows .mixedOrders=true
 ng:BC E.P
 S: ∀g s,E.sg g=some s->bD E.P g s
 L:mX E.P E
 R:Xk E
 B: ∀g,E.bf g=true->uX E.P g
 X: ∀g s,E.sb g=some s->gY E.P g s
def auR (rs:List (Ty×Bool)):Bool:=Nat.ble (news rs) 1&&rs.all fun r=> !r.2||(match r.1 with|.list e=>Nat.blt 0 e.size|_=>false)
section
variable {P:Program} {T:TT} {W0:World} {b0:Nat} {rd:Option Nat} {R:Type} {r:R} {c:Cx} {ats:List (Array Value)}
theorem sW {E:Env} (h:bJ E) (m:Nat) (R:Type) (W0:World):oO E.P W0 (exec E m (R:=R)):=
 (Ap h.T h.m h.ng rfl rfl (aij h.T h.B h.S h.X) h.L h.R m R W0).1
theorem pF {w:World} {bar:Nat->Prop} (hphi:VY w) (hb: ∀b,bar b->b<w.heap.size):fH w 0 none (iK w bar) ⟨[],[],[],0⟩ ⟨#[],[]⟩ []:=
 ⟨rfl,rfl,⟨Below.refl _ _,fun id o h=>by simp[iK,aX]at h,fun i j o p b h=>by simp[iK,aX]at h,fun r hr=>by simp[iK]at hr,fun b h=>⟨hb b h,(by rintro ⟨i,o,h,_⟩;simp[iK,aX]at h),by simp[iK]⟩,hphi⟩,by simp[iK,aj],trivial,⟨[],rfl,List.nodup_nil,fun r hr=>by simp at hr⟩,fun l hl=>by cases hl⟩
theorem OV {own:Bool} {c':Cx} (hw:c'.w=c.w) (hf: ∀b,c.free b->c'.free b) (hf2:own=false-> ∀b,b<c.w.heap.size-> ¬c.bar b->c'.free b) {t:Ty} {v:aA} {x:t.den} {u:Value} (hok:c.Ok W0)
  (h:(bif own&&(ja v&& !t.rigid)then none else v.asR c.hp own t)=some x) (hv:aF c v u):VD c' t x u:=by
 have hm: ∀b,c.free b->c'.free b/\c'.w.heap[b]? =c.w.heap[b]? :=fun b hb=>⟨hf b hb,by rw[hw]⟩
 rw[cond_eq_ite]at h
 split at h
 ·cases h
 rename_i hc
 have slcCase: ∀{id ver vw} {u:Value} {e:Ty} {x:List e.den},own=false->(aA.slc id ver vw).as c.hp (.list e)=some x->aF c (.slc id ver vw) u->VD c' (.list e) x u:=fun {id ver vw u e x} hown h hv=>by
  obtain⟨a,cp,zs,h1,h2,h3⟩:=Jr hok h hv
  have h4:=OD hok h hv h1
  exact(VD.leaf rfl).2 ⟨a,cp,zs,by rw[h1],h4,dA.mono (cu.mono hm e) _ _ h2,h3.imp (fun h=>h) fun⟨b,off,q1,q2,q4,q3⟩=>⟨b,off,q1,hf2 hown b q2 q4,q3.of_block (by rw[hw])⟩⟩
 cases own with
 |true=>
  have h:v.as c.hp t=some x:=h
  cases ho:ja v with
  |false=>exact BI hm ho h hv
  |true=>
   cases v with
   |slc id ver vw=>
    cases t with
    |list e=>simp[ja,Ty.rigid]at hc
    |_=>simp[aA.as]at h
   |agg l=>
    simp only[aA.as]at h
    rw[cond_eq_ite]at h
    split at h
    ·rename_i ha
     simp only[aF]at hv
     obtain⟨vs,rfl,h1,h2⟩:=hv
     exact VD.move hw (.inl hf) ((VD.agg ha).2 ⟨vs,rfl,kF h h1⟩)
    ·cases h
   |_=>simp[ja]at ho
 |false=>
  cases v with
  |slc id ver vw=>
   have h:(aA.slc id ver vw).as c.hp t=some x:=h
   cases t with
   |list e=>exact slcCase rfl h hv
   |_=>simp[aA.as]at h
  |agg l=>
   have h:(bif t.isAgg then zh t (l.map (frozen c.hp))else none)=some x:=h
   obtain⟨ha,h⟩:=aP h
   simp only[aF]at hv
   obtain⟨vs,rfl,h1,h2⟩:=hv
   have key: ∀(l:List aA) (vs:List Value),aj c l vs->aj c' (l.map (frozen c.hp)) vs:=by
    intro l
    induction l with
    |nil=>intro vs h;cases vs with
     |nil=>simp[aj]
     |cons _ _=>simp[aj]at h
    |cons v l ih=>intro vs h;cases vs with
     |nil=>simp[aj]at h
     |cons u vs=>
      simp only[aj,List.map_cons]at h ⊢
      refine⟨?_,ih vs h.2⟩
      have hv:=h.1
      cases v with
      |val t x=>
       simp only[frozen,aF]at hv ⊢
       exact VD.move hw (.inl hf) hv
      |nils=>simpa only[frozen,aF] using hv
      |slc id ver vw=>
       simp only[frozen]
       split
       ·rename_i e v xs hg
        rw[cond_eq_ite]
        split
        ·rename_i hver
         simp only[aF]
         refine slcCase rfl ?_ hv
         simp only[aA.as,uC,hg,hver,cond_true,dK]
        ·simp[aF]
       ·simp[aF]
      |_=>simp[frozen,aF]
   exact(VD.agg ha).2 ⟨vs,rfl,kF h (key l _ h1)⟩
  |_=>
   simp only[aA.asR,cond_false]at h
   exact BI hm rfl h hv
theorem OC {own:Bool} {c':Cx} (hok:c.Ok W0) (hw:c'.w=c.w) (hf: ∀b,c.free b->c'.free b) (hf2:own=false-> ∀b,b<c.w.heap.size-> ¬c.bar b->c'.free b): ∀(rs:List (Ty×Bool)) (l:List aA) (y) (us:List Value),fJ own rs l c.hp=some y->news rs=0->aj c l us->aj c' (jO 0 rs y) us
 |[],[],y,[],_,_,_=>by simp[jO,aj]
 |[],[],_,_::_,_,_,hv=>by simp[aj]at hv
 |[],_::_,_,_,h,_,_=>by simp[fJ]at h
 |(t,true)::rs,_,_,_,_,hn,_=>by simp[news]at hn
 |(t,false)::rs,[],_,_,h,_,_=>by simp[fJ]at h
 |(t,false)::rs,v::l,y,[],h,_,hv=>by simp[aj]at hv
 |(t,false)::rs,v::l,y,u::us,h,hn,hv=>by
  simp only[fJ]at h
  split at h
  ·rename_i x y' h1 h2
   cases h
   simp only[aj]at hv
   simp only[jO,aj,aF]
   exact⟨OV hw hf hf2 hok h1 hv.1,OC hok hw hf hf2 rs l y' us h2 (by simpa [news] using hn) hv.2⟩
  ·cases h
theorem ZB (hok:c.Ok W0): ∀(rs:List (Ty×Bool)) (l:List aA) (y) (us:List Value),fJ true rs l c.hp=some y->news rs=1->aj c l us->
  ∃(id ver:Nat) (e:Ty) (xs:List e.den),aX c.hp id=some (.arr e ver xs)/\rO rs y=some ⟨e,xs⟩/\
   ∀c':Cx,c'.w=c.w->(∀b,c.free b->c'.free b)->c'.hp=[(0,.arr e 0 xs)]->(c'.mu 0).v=(c.mu id).v->aj c' (jO 0 rs y) us
 |[],_,_,_,_,hn,_=>by simp[news]at hn
 |(t,false)::rs,[],_,_,h,_,_=>by simp[fJ]at h
 |(t,false)::rs,v::l,y,[],h,_,hv=>by simp[aj]at hv
 |(t,false)::rs,v::l,y,u::us,h,hn,hv=>by
  simp only[fJ]at h
  split at h
  ·rename_i x y' h1 h2
   cases h
   simp only[aj]at hv
   obtain⟨id,ver,e,xs,k1,k2,k3⟩:=ZB hok rs l y' us h2 (by simpa [news] using hn) hv.2
   refine⟨id,ver,e,xs,k1,k2,fun c' hw hf hhp hmu=> ?_⟩
   simp only[jO,aj,aF]
   exact⟨OV hw hf (fun h=>by cases h) hok h1 hv.1,k3 c' hw hf hhp hmu⟩
  ·cases h
 |(t,true)::rs,[],_,_,h,_,_=>by cases t<;>simp[fJ]at h
 |(t,true)::rs,v::l,y,[],h,_,hv=>by simp[aj]at hv
 |(t,true)::rs,v::l,y,u::us,h,hn,hv=>by
  cases t with
  |list e=>
   cases v with
   |slc id ver vw=>
    cases vw with
    |none=>
     simp only[fJ]at h
     split at h
     ·rename_i t' w xs hg
      rw[cond_eq_ite]at h
      split at h
      ·rename_i hver
       have hver:w=ver:=by simpa using hver
       subst hver
       split at h
       ·rename_i x y' h1 h2
        cases h
        have ee:=eH h1
        cases ee
        rw[dK]at h1
        cases h1
        simp only[aj]at hv
        refine⟨id,w,e,x,hg,rfl,fun c' hw hf hhp hmu=> ?_⟩
        simp only[jO,aj]
        refine⟨?_,OC hok hw hf (fun h=>by cases h) rs l y' us h2 (by simpa [news] using hn) hv.2⟩
        have hu:=hv.1
        simp only[aF]at hu ⊢
        have hu1:=(hu.2.2 _ _ _ hg).2 rfl
        simp only[fO]at hu1
        refine⟨hu.1,.inl ⟨.arr e 0 x,by rw[hhp];simp[bH]⟩,fun t u' xs' h=> ?_⟩
        have:aW.arr e 0 x=.arr t u' xs':=by rw[hhp]at h;simpa [bH] using h
        cases this
        exact⟨Nat.le_refl _,fun _=>by simp only[fO];rw[hmu];exact hu1⟩
       ·cases h
      ·cases h
     ·cases h
    |some p=>simp[fJ]at h
   |_=>simp[fJ]at h
  |_=>simp[fJ]at h
theorem Jc: ∀(rs:List (Ty×Bool)) y,news rs=0->rO rs y=none
 |[],_,_=>rfl
 |(t,true)::rs,_,h=>by simp[news]at h
 |(t,false)::rs,y,h=>Jc rs y.2 (by simpa [news] using h)
theorem BX (hok:c.Ok W0) {rs:List (Ty×Bool)} {l:List aA} {y} {us:List Value} (h:fJ (!Nat.beq (news rs) 0) rs l c.hp=some y) (hn:news rs<=1) (hv:aj c l us):
  ∃c':Cx,c'.w=c.w/\c'.Ok W0/\c'.bar=c.bar/\c'.mks=[]/\c'.hp=yT rs y/\aj c' (jO 0 rs y) us:=by
 by_cases h0:news rs=0
 ·let c':Cx:=⟨c.mu,[],c.nxt,c.w,[],c.bar⟩
  have hf: ∀b,c.free b->c'.free b:=fun b hb=>⟨hb.1,(by rintro ⟨i,o,h,_⟩;simp[c',aX]at h),by simp[c'],hb.2.2.2⟩
  exact⟨c',rfl,⟨hok.bel,fun id o h=>by simp[c',aX]at h,fun i j o p b h=>by simp[c',aX]at h,fun r hr=>by simp[c']at hr,fun b hb=>⟨(hok.bar b hb).1,(by rintro ⟨i,o,h,_⟩;simp[c',aX]at h),by simp[c']⟩,hok.phi⟩,rfl,rfl,by rw[yT,Jc rs y h0],OC hok (c':=c') rfl hf (fun _ b h1 h2=>⟨h1,(by rintro ⟨i,o,h,_⟩;simp[c',aX]at h),by simp[c'],h2⟩) rs l y us h h0 hv⟩
 ·have h1':news rs=1:=by omega
  rw[show(!Nat.beq (news rs) 0)=true by rw[h1'];rfl]at h
  obtain⟨id,ver,e,xs,k1,k2,k3⟩:=ZB hok rs l y us h h1' hv
  let c':Cx:=⟨fun _=>c.mu id,[(0,.arr e 0 xs)],c.nxt,c.w,[],c.bar⟩
  have hf: ∀b,c.free b->c'.free b:=fun b hb=>⟨hb.1,(by
   rintro ⟨i,o,h1,h2⟩
   simp only[c',bH]at h1 h2
   split at h1
   ·cases h1;exact hb.2.1 ⟨id,_,k1,h2⟩
   ·simp[aX]at h1),by simp[c'],hb.2.2.2⟩
  refine⟨c',rfl,⟨hok.bel,fun i o h=> ?_,fun i j o p b h1 h2 _ _=> ?_,fun r hr=>by simp[c']at hr,fun b hb=>⟨(hok.bar b hb).1,(by
   rintro ⟨i,o,h1,h2⟩
   simp only[c',bH]at h1 h2
   split at h1
   ·cases h1;exact(hok.bar b hb).2.1 ⟨id,_,k1,h2⟩
   ·simp[aX]at h1),by simp[c']⟩,hok.phi⟩,rfl,rfl,by rw[yT,k2],k3 c' rfl hf rfl rfl⟩
  ·simp only[c',bH]at h
   split at h
   ·cases h
    obtain⟨h0,e',zs,h1,h2,hty⟩:=hok.obj id _ k1
    exact⟨h0,e',zs,h1,dA.mono (cu.mono (fun b hb=>⟨hf b hb,rfl⟩) e) _ _ h2,hty⟩
   ·simp[aX]at h
  ·simp only[c',bH]at h1 h2
   split at h1
   ·split at h2
    ·rename_i e1 e2;omega
    ·simp[aX]at h2
   ·simp[aX]at h1
theorem sQ {E:Env} (hE:bJ E) {g:FuncId} {s:Sum} (hn:news s.rs<=1) (h: ∀x y,s.f x=some y->ik E g s.ps s.rs x=some y) (w:World) (bar:Nat->Prop) (args':Array Value) (x) (y) (hphi:VY w) (hbar: ∀b,bar b->b<w.heap.size)
  (hdv:kV (iK w bar) s.ps x args'.toList) (hy:s.f x=some y):(callFunc g args').run E.P w=.ok (.enter g args') w/\Calls E.P g args' w (oQ w bar s.rs y):=by
 have h1:=h x y hy
 unfold ik at h1
 refine sW hE 1000000 _ w g (yG s.ps x) _ _ y h1 0 none (iK w bar) ⟨#[],[]⟩ [] args' (pF hphi hbar) (ET _ _ _ hdv) (oQ w bar s.rs y) fun c1 z u st1 k1 k2 k3 k4=> ?_
 obtain⟨us,rfl,h3⟩:=xn (by rw[k1];rfl) k3
 rw[<-k2.hp]at k1
 obtain⟨c',q1,q2,q3,q4,q5,q6⟩:=BX k2.ok k1 hn h3
 exact⟨c',us,rfl,q1,q2,q3.trans k4.bar,q4,q5,q6⟩
theorem gy {E:Env} (hE:bJ E) {g:FuncId} {s:Sum} (hn:news s.rs<=1) (h: ∀x y,s.f x=some y->ik E g s.ps s.rs x=some y):bD E.P g s:=fun w bar args' x y hphi hbar hdv hy=>.inl (sQ hE hn h w bar args' x y hphi hbar hdv hy)
theorem TP {E:Env} (hE:bJ E) {g:FuncId} {ps:List Ty} {x:(ps.foldr Ty.pair Ty.unit).den} {t:Ty} {y:t.den} (ht:t.rigid=true) (h:ik E g ps [(t,false)] x=some (y,())) {w:World} {args:Array Value} (ha:kV (iK w fun _=>False) ps x args.toList) (hphi:VY w:=by exact trivial):
  Calls E.P g args w fun e w'=>e=.returned (BB t y)/\Below w.heap.size w w':=by
 obtain⟨_,h2⟩:=sQ hE (g:=g) (s:=⟨ps,[(t,false)],fun x'=>ik E g ps [(t,false)] x'⟩) (by simp[news]) (fun x y h=>h) w (fun _=>False) args x (y,()) hphi (fun b h=>h.elim) ha h
 refine h2.mono ?_
 rintro e w' ⟨c',us,rfl,rfl,hok,_,_,_,hv⟩
 refine⟨?_,hok.bel⟩
 cases us with
 |nil=>simp[jO,aj]at hv
 |cons u us=>
  cases us with
  |cons _ _=>simp[jO,aj]at hv
  |nil=>
   simp only[jO,aj,aF,and_true]at hv
   simp only[D9]
   rw[(VD.rigid ht u).1 hv]
theorem alX {E:Env} (hE:bJ E) {g:FuncId} {e e2:Ty} (hpos:0<e.size) {f:List e.den->Option (List e2.den)} (h1: ∀xs y,f xs=some y->exec E 1000000 (.call g [.lst e xs false]) ⟨[],[],[],0⟩ (fun v st=>fJ false [(.list e2,false)] (uI 1 v) st.hp)=some (y,()))
  (h2: ∀y,f []=some y->exec E 1000000 (.call g [.lst e [] true]) ⟨[],[],[],0⟩ (fun v st=>fJ false [(.list e2,false)] (uI 1 v) st.hp)=some (y,())):
  bD E.P g ⟨[.list e],[(.list e2,false)],fun x=>match f x.1 with|some y=>some (y,())|none=>none⟩:=fun w bar args' x y hphi hbar hdv hy=>.inl (by
 obtain⟨u,us',hu,hx,hnil⟩:=hdv
 obtain⟨a,n,zs,q1,q2,q3,q4⟩:=jW hx
 simp only at hy
 split at hy
 ·rename_i y' hf
  cases hy
  have hrun:exec E 1000000 (.call g [.lst e x.1 a.isNone]) ⟨[],[],[],0⟩ (fun v st=>fJ false [(.list e2,false)] (uI 1 v) st.hp)=some (y',()):=by
   cases ha:a with
   |some _=>exact h1 _ _ hf
   |none=>
    have hz:zs=[]:=by
     rcases q4 with q4|⟨b,off,q4,_⟩
     ·exact q4
     ·rw[ha]at q4;cases q4
    have hl:=dA.length _ _ q3
    rw[hz]at hl
    have hx0:x.1=[]:=by
     cases hxx:x.1 with
     |nil=>rfl
     |cons a l=>rw[hxx]at hl;have:=Nat.mul_pos (show 0<(a::l).length by simp) hpos;rw[<-hl]at this;exact absurd this (by simp)
    rw[hx0]at hf ⊢
    exact h2 _ hf
  have hv:aj (iK w bar) [.lst e x.1 a.isNone] args'.toList:=by
   rw[hu,show us'=[] from hnil]
   simp only[aj,aF,and_true]
   exact⟨hx,a,_,_,q1,rfl⟩
  refine sW hE 1000000 _ w g [.lst e x.1 a.isNone] _ _ _ hrun 0 none (iK w bar) ⟨#[],[]⟩ [] args' (pF hphi hbar) hv (oQ w bar [(.list e2,false)] (y',())) fun c1 z u st1 k1 k2 k3 k4=> ?_
  obtain⟨us,rfl,h3⟩:=xn (own:=false) (rs:=[(.list e2,false)]) (hp:=st1.hp) (by rw[show fJ false [(.list e2,false)] (uI [(Ty.list e2,false)].length z) st1.hp=some (y',()) from k1];rfl) k3
  rw[<-k2.hp]at k1
  obtain⟨c',q1,q2,q3,q4,q5,q6⟩:=BX (rs:=[(.list e2,false)]) k2.ok k1 (by simp[news]) h3
  exact⟨c',us,rfl,q1,q2,q3.trans k4.bar,q4,q5,q6⟩
 ·cases hy)
theorem aeE {E:Env} (hE:bJ E) {g:FuncId} {e e2:Ty} (hpos:0<e.size) {f:List e.den->Option (List e2.den)} (h0:f []=none) (h1: ∀xs y,f xs=some y->exec E 1000000 (.call g [.lst e xs false]) ⟨[],[],[],0⟩ (fun v st=>fJ true [(.list e2,true)] (uI 1 v) st.hp)=some (y,())):
  bD E.P g ⟨[.list e],[(.list e2,true)],fun x=>match f x.1 with|some y=>some (y,())|none=>none⟩:=fun w bar args' x y hphi hbar hdv hy=>.inl (by
 obtain⟨u,us',hu,hx,hnil⟩:=hdv
 obtain⟨a,n,zs,q1,q2,q3,q4⟩:=jW hx
 simp only at hy
 split at hy
 ·rename_i y' hf
  cases hy
  have ha:a.isNone=false:=by
   cases ha:a with
   |some _=>rfl
   |none=>
    have hz:zs=[]:=by
     rcases q4 with q4|⟨b,off,q4,_⟩
     ·exact q4
     ·rw[ha]at q4;cases q4
    have hl:=dA.length _ _ q3
    rw[hz]at hl
    have hx0:x.1=[]:=by
     cases hxx:x.1 with
     |nil=>rfl
     |cons a l=>rw[hxx]at hl;have:=Nat.mul_pos (show 0<(a::l).length by simp) hpos;rw[<-hl]at this;exact absurd this (by simp)
    rw[hx0,h0]at hf
    cases hf
  have hrun:=h1 _ _ hf
  have hv:aj (iK w bar) [.lst e x.1 false] args'.toList:=by
   rw[hu,show us'=[] from hnil]
   simp only[aj,aF,and_true]
   exact⟨hx,a,_,_,q1,ha.symm⟩
  refine sW hE 1000000 _ w g [.lst e x.1 false] _ _ _ hrun 0 none (iK w bar) ⟨#[],[]⟩ [] args' (pF hphi hbar) hv (oQ w bar [(.list e2,true)] (y',())) fun c1 z u st1 k1 k2 k3 k4=> ?_
  obtain⟨us,rfl,h3⟩:=xn (own:=true) (rs:=[(.list e2,true)]) (hp:=st1.hp) (by rw[show fJ true [(.list e2,true)] (uI [(Ty.list e2,true)].length z) st1.hp=some (y',()) from k1];rfl) k3
  rw[<-k2.hp]at k1
  obtain⟨c',q1,q2,q3,q4,q5,q6⟩:=BX (rs:=[(.list e2,true)]) k2.ok k1 (by simp[news]) h3
  exact⟨c',us,rfl,q1,q2,q3.trans k4.bar,q4,q5,q6⟩
 ·cases hy)
theorem wz {E:Env} (hE:bJ E) {g:FuncId} {e e2:Ty} (hpos:0<e.size) (hpos2:0<e2.size) {f:List e.den->Option (List e2.den)} (h1: ∀xs y,f xs=some y->exec E 1000000 (.call g [.lst e xs false]) ⟨[],[],[],0⟩ (fun v st=>fJ true [(.list e2,true)] (uI 1 v) st.hp)=some (y,()))
  (h2: ∀y,f []=some y->y=[]/\exec E 1000000 (.call g [.lst e [] true]) ⟨[],[],[],0⟩ (fun v st=>match v,st.hp with|.nils,[]=>some ()|_,_=>none)=some ()):
  bD E.P g ⟨[.list e],[(.list e2,true)],fun x=>match f x.1 with|some y=>some (y,())|none=>none⟩:=fun w bar args' x y hphi hbar hdv hy=>.inl (by
 obtain⟨u,us',hu,hx,hnil⟩:=hdv
 obtain⟨a,n,zs,q1,q2,q3,q4⟩:=jW hx
 simp only at hy
 split at hy
 ·rename_i y' hf
  cases hy
  have hv:aj (iK w bar) [.lst e x.1 a.isNone] args'.toList:=by
   rw[hu,show us'=[] from hnil]
   simp only[aj,aF,and_true]
   exact⟨hx,a,_,_,q1,rfl⟩
  cases ha:a.isNone with
  |true=>
   have hz:zs=[]:=by
    rcases q4 with q4|⟨b,off,q4,_⟩
    ·exact q4
    ·rw[q4]at ha;cases ha
   have hl:=dA.length _ _ q3
   rw[hz]at hl
   have hx0:x.1=[]:=by
    cases hxx:x.1 with
    |nil=>rfl
    |cons a l=>rw[hxx]at hl;have:=Nat.mul_pos (show 0<(a::l).length by simp) hpos;rw[<-hl]at this;exact absurd this (by simp)
   rw[ha,hx0]at hv
   rw[hx0]at hf
   obtain⟨rfl,hrun⟩:=h2 _ hf
   refine sW hE 1000000 _ w g [.lst e [] true] _ _ _ hrun 0 none (iK w bar) ⟨#[],[]⟩ [] args' (pF hphi hbar) hv (oQ w bar [(.list e2,true)] ([],())) fun c1 z u st1 k1 k2 k3 k4=> ?_
   split at k1
   ·rename_i hz0 hst
    simp only[aF]at k3
    obtain⟨c2,d1,d2,d3⟩:=lX (W0:=w) k2.ok k2.hp k2.nxt (id:=st1.nxt) (n':=st1.nxt+1) (by rw[hst];rfl) (Nat.le_refl _) (by omega) hpos2 (xs:=[]) (Below.refl _ _) (if e2=.int .u8 then kQ else 0) [] (World.ownsRow_nil _ _ _ _) (by simp[dA]) (v:=.slice none 0 0) rfl (fun h=>by simp[h])
    have k1':fJ true [(.list e2,true)] [.slc st1.nxt 0 none] c2.hp=some (([],()):List e2.den×Unit):=by
     rw[d1.hp]
     simp only[fJ,aX,beq_self_eq_true,Nat.beq_refl,cond_true,dK]
     rfl
    have h3:aj c2 [.slc st1.nxt 0 none] [.slice none 0 0]:=by simp only[aj,and_true];exact d3
    obtain⟨c',q1,q2,q3,q4,q5,q6⟩:=BX (rs:=[(.list e2,true)]) d1.ok k1' (by simp[news]) h3
    exact⟨c',[.slice none 0 0],by rw[k3];rfl,q1.trans d2,q2,q3.trans (d1.le.bar.trans k4.bar),q4,q5,q6⟩
   ·cases k1
  |false=>
   rw[ha]at hv
   have hrun:=h1 _ _ hf
   refine sW hE 1000000 _ w g [.lst e x.1 false] _ _ _ hrun 0 none (iK w bar) ⟨#[],[]⟩ [] args' (pF hphi hbar) hv (oQ w bar [(.list e2,true)] (y',())) fun c1 z u st1 k1 k2 k3 k4=> ?_
   obtain⟨us,rfl,h3⟩:=xn (own:=true) (rs:=[(.list e2,true)]) (hp:=st1.hp) (by rw[show fJ true [(.list e2,true)] (uI [(Ty.list e2,true)].length z) st1.hp=some (y',()) from k1];rfl) k3
   rw[<-k2.hp]at k1
   obtain⟨c',q1,q2,q3,q4,q5,q6⟩:=BX (rs:=[(.list e2,true)]) k2.ok k1 (by simp[news]) h3
   exact⟨c',us,rfl,q1,q2,q3.trans k4.bar,q4,q5,q6⟩
 ·cases hy)
theorem atA {P:Program} {g:FuncId} {ps:List Ty} {rs:List (Ty×Bool)} {f1 f2:(ps.foldr Ty.pair Ty.unit).den->Option ((rs.map (·.1)).foldr Ty.pair Ty.unit).den} (c:(ps.foldr Ty.pair Ty.unit).den->Bool) (h1:bD P g ⟨ps,rs,f1⟩) (h2:bD P g ⟨ps,rs,f2⟩):
  bD P g ⟨ps,rs,fun x=>bif c x then f1 x else f2 x⟩:=fun w bar args' x y hphi hbar hdv hy=>by
 cases hc:c x with
 |true=>simp only[hc,cond_true]at hy;exact h1 w bar args' x y hphi hbar hdv hy
 |false=>simp only[hc,cond_false]at hy;exact h2 w bar args' x y hphi hbar hdv hy
def Kq:(rs:List Ty)->List aA->dN->Option (rs.foldr Ty.pair Ty.unit).den
 |[],[],_=>some ()
 |t::rs,v::l,hp=>match(bif true&&(ja v&& !t.rigid)then none else v.as hp t),Kq rs l hp with
  |some x,some y=>some (x,y)
  |_,_=>none
 |_,_,_=>none
def uB (E:Env) (g:FuncId) (bt:TypeId) (cs:List (Ty×Bool)) (ps rs:List Ty) (x:((cs.map (·.1)).foldr Ty.pair Ty.unit).den) (y:(ps.foldr Ty.pair Ty.unit).den):Option (((cs.map (·.1)).foldr Ty.pair Ty.unit).den×(rs.foldr Ty.pair Ty.unit).den):=
 exec E 1000000 (.call g (.ptr 0 0::BZ ps y)) ⟨[.ptr 0 0],[],(0,.box bt (yZ cs (fV cs 1) x))::nX cs (fV cs 1) x,0⟩ fun v st=>match st.fr with
  |[.ptr 0 0]=>match aX st.hp 0 with
   |some (.box t cells)=>bif Nat.beq t bt&&Ij ((jP cs cells).map (·.1))then(match iy st.hp true cs cells with
    |some x'=>match Kq rs (uI rs.length v) st.hp with
     |some z'=>some (x',z')
     |none=>none
    |none=>none)else none
   |_=>none
  |_=>none
theorem LX: ∀(rs:List Ty) (l:List aA) {hp:dN},(Kq rs l hp).isSome=true->(fJ true (rs.map fun t=>(t,false)) l hp).isSome=true
 |[],[],_,_=>rfl
 |[],_::_,_,h=>by simp[Kq]at h
 |_::_,[],_,h=>by simp[Kq]at h
 |t::rs,v::l,hp,h=>by
  simp only[Kq]at h
  split at h
  ·rename_i x y h1 h2
   have:=LX rs l (hp:=hp) (by rw[h2];rfl)
   change @Option.isSome ((((t,false)::rs.map fun t=>(t,false)).map (·.1)).foldr Ty.pair Ty.unit).den (fJ true ((t,false)::rs.map fun t=>(t,false)) (v::l) hp)=true
   rw[fJ]
   rw[show aA.asR hp true t v=v.as hp t from rfl,h1]
   cases h3:fJ true (rs.map fun t=>(t,false)) l hp with
   |none=>rw[h3]at this;cases this
   |some z=>rfl
  ·cases h
theorem Um (hok:c.Ok W0): ∀(rs:List Ty) (l:List aA) (z) (us:List Value),Kq rs l c.hp=some z->aj c l us->kV c rs z us
 |[],[],z,[],_,_=>rfl
 |[],[],_,_::_,_,hv=>by simp[aj]at hv
 |[],_::_,_,_,h,_=>by simp[Kq]at h
 |_::_,[],_,_,h,_=>by simp[Kq]at h
 |t::rs,v::l,z,[],_,hv=>by simp[aj]at hv
 |t::rs,v::l,z,u::us,h,hv=>by
  simp only[Kq]at h
  split at h
  ·rename_i x y h1 h2
   cases h
   simp only[aj]at hv
   exact⟨u,us,rfl,OV (own:=true) (c':=c) rfl (fun b h=>h) (fun h=>by cases h) hok h1 hv.1,Um hok rs l y us h2 hv.2⟩
  ·cases h
theorem dY {E:Env} (hE:bJ E) {g:FuncId} {s:gq} (h: ∀x y z,s.f x y=some z->uB E g s.bt s.cs s.ps s.rs x y=some z):gY E.P g s:=fun W0 c x y z hok hmk hnx hhp args' hv hz=>by
 have h1:=h x y z hz
 unfold uB at h1
 obtain⟨us⟩:=args'
 cases us with
 |nil=>simp[aj]at hv
 |cons u0 us=>
 have hv':=hv
 simp only[aj]at hv'
 obtain⟨hu0,_⟩:=hv'
 have hr:fH W0 0 none c ⟨[.ptr 0 0],[],(0,.box s.bt (yZ s.cs (fV s.cs 1) x))::nX s.cs (fV s.cs 1) x,0⟩ ⟨#[u0],[]⟩ []:=
  ⟨hhp,hnx,hok,by simp only[aj];exact⟨hu0,trivial⟩,trivial,⟨[],rfl,List.nodup_nil,fun r hr=>by simp at hr⟩,fun l hl=>by cases hl⟩
 refine sW hE 1000000 _ W0 g (.ptr 0 0::BZ s.ps y) _ _ z h1 0 none c ⟨#[u0],[]⟩ [] ⟨u0::us⟩ hr hv (akE W0 c s z) fun c1 v u st1 k1 k2 k3 k4=> ?_
 split at k1<;>try (cases k1;done)
 rename_i hfr
 split at k1<;>try (cases k1;done)
 rename_i t cells hb
 replace k1:=aP k1
 obtain⟨hc,k1⟩:=k1
 simp only[Bool.and_eq_true]at hc
 obtain⟨ht,hnd⟩:=hc
 have ht:t=s.bt:=Nat.eq_of_beq_eq_true ht
 subst ht
 split at k1<;>try (cases k1;done)
 rename_i x' hx'
 split at k1<;>try (cases k1;done)
 rename_i z' hz'
 cases k1
 obtain⟨us1,rfl,h3⟩:=xn (own:=true) (rs:=s.rs.map fun t=>(t,false)) (hp:=st1.hp) (by rw[List.length_map];exact LX _ _ (by rw[hz'];rfl)) k3
 rw[List.length_map]at h3
 rw[<-k2.hp]at hb hx' hz'
 refine⟨c1,us1,cells,rfl,rfl,k2.ok,k4,hb, ?_,xm hnd,hx',Um k2.ok s.rs _ z' us1 hz' h3⟩
 have hf:=k2.fr
 rw[hfr]at hf
 simp only[aj,aF,and_true]at hf
 simp only[aF]at hu0
 have e1:=hf.2.2 _ _ hb
 have e2:=hu0.2.2 _ _ (by rw[hhp];simp[bH];exact⟨rfl,rfl⟩)
 rw[e1]at e2
 simpa using e2
end
end Go.Proofs.YtihafdllichkeaaGreatDoor
namespace Go.Proofs.YtihafdllichkeaaGreatDoor
open Go.RowKit
set_option linter.unusedVariables false
set_option linter.unusedSimpArgs false
def RZ:Sum:=⟨[.str,.int .u8],[(.int .i64,false)],fun x=>some (Lib.indexByte x.1 x.2.1.toNat.toUInt8,())⟩
theorem TZ {w:World} {bar:Nat->Prop} (hphi:VY w) (hb: ∀b,bar b->b<w.heap.size):(iK w bar).Ok w:=(pF hphi hb).ok
theorem Uc {P:Program} {g:FuncId} {fn:Func} (hf:P.funcs[g]? =some fn) (hname:(fn.name== "runtime.NumGoroutine")=false) (hb:fn.body.isNone=true) (hn:Extern.findNext fn=none)
  (he:Extern.find fn=some Extern.BytealgIndexByte.indexByte):bD P g RZ:=by
 intro w bar args' x y hphi hbar hdv hy
 obtain⟨u,us1,e1,h1,u2,us2,e2,h2,h3⟩:=hdv
 simp only[kV]at h3
 subst h3 e2
 have ha:args'= #[u,u2]:=by
  apply Array.ext'
  simpa using e1
 subst ha
 have e4:=h1.str_inv
 have e5:=h2.int_inv
 subst e4 e5
 have hy2:=Option.some.inj hy
 subst hy2
 refine .inr ⟨_,by rw[run_callFunc_extern hf hname hb hn he,Lib.run_indexByteString];rfl,iK w bar,[_],rfl,rfl,TZ hphi hbar,rfl,rfl,rfl, ?_⟩
 simp only[RZ,jO,aj,aF,and_true]
 exact VD.int_mk
def XC:Sum:=⟨[.str,.str],[(.int .i64,false)],fun x=>some (Lib.compareBytes x.1 x.2.1,())⟩
theorem acT {P:Program} {g:FuncId} {fn:Func} (hf:P.funcs[g]? =some fn) (hname:(fn.name== "runtime.NumGoroutine")=false) (hb:fn.body.isNone=true) (hn:Extern.findNext fn=none)
  (he:Extern.find fn=some Extern.BytealgCompare.compare):bD P g XC:=by
 intro w bar args' x y hphi hbar hdv hy
 obtain⟨u,us1,e1,h1,u2,us2,e2,h2,h3⟩:=hdv
 simp only[kV]at h3
 subst h3 e2
 have ha:args'= #[u,u2]:=by
  apply Array.ext'
  simpa using e1
 subst ha
 have e4:=h1.str_inv
 have e5:=h2.str_inv
 subst e4 e5
 have hy2:=Option.some.inj hy
 subst hy2
 refine .inr ⟨_,by rw[run_callFunc_extern hf hname hb hn he,Lib.run_compareString];rfl,iK w bar,[_],rfl,rfl,TZ hphi hbar,rfl,rfl,rfl, ?_⟩
 simp only[XC,jO,aj,aF,and_true]
 exact VD.int_mk
end Go.Proofs.YtihafdllichkeaaGreatDoor
namespace Go.Proofs.YtihafdllichkeaaGreatDoor
open Go.RowKit
set_option linter.unusedVariables false
set_option linter.unusedSimpArgs false
inductive FK where
 |u
 |v (t:Ty)
 |slc (id:Nat)
 |ptr (id off:Nat)
 |nils
 |slf (id:Nat)
 |yld (id:Nat)
 |nilp
 |e
 |fn (f:FuncId) (caps:List (Nat×Nat))
 |cp (t:Ty)
 |mpv (id:Nat)
 |mfn (f:FuncId) (fst:List (Nat×Nat))
def us (l:List FK) (n:Nat):List FK:=l++List.replicate n .u
def FKs.den:List FK->Ty
 |[]=>.unit
 |.v t::l=>.pair t (FKs.den l)
 |.u::l=>FKs.den l
 |.slc _::l=>FKs.den l
 |.ptr _ _::l=>FKs.den l
 |.nils::l=>FKs.den l
 |.slf _::l=>FKs.den l
 |.mpv _::l=>FKs.den l
 |.mfn _ _::l=>FKs.den l
 |.yld _::l=>FKs.den l
 |.nilp::l=>FKs.den l
 |.e::l=>FKs.den l
 |.fn _ _::l=>FKs.den l
 |.cp t::l=>.pair t (FKs.den l)
def Eh:List (Nat×Nat)->List aA
 |[]=>[]
 |(i,o)::l=>.ptr i o::Eh l
def Ku:(l:List FK)->(FKs.den l).den->List aA
 |[],_=>[]
 |.v t::l,y=>.val t y.1::Ku l y.2
 |.u::l,y=>.undef::Ku l y
 |.slc id::l,y=>.slc id 0 none::Ku l y
 |.ptr id off::l,y=>.ptr id off::Ku l y
 |.nils::l,y=>.nils::Ku l y
 |.slf id::l,y=>.slf id::Ku l y
 |.mpv id::l,y=>.mpv id::Ku l y
 |.mfn f c::l,y=>.mfn f (Eh c)::Ku l y
 |.yld id::l,y=>.yld id::Ku l y
 |.nilp::l,y=>.nilp::Ku l y
 |.e::l,y=>.tup []::Ku l y
 |.fn f caps::l,y=>.fn f (Eh caps)::Ku l y
 |.cp t::l,y=>.cellp t y.1::Ku l y.2
def YY (t:Ty):aA->Option t.den
 |.val t' x=>iL t x
 |_=>none
def akg (t:Ty):aA->Option t.den
 |.cellp t' x=>iL t x
 |_=>none
def isU:aA->Bool
 |.undef=>true
 |_=>false
def isNils:aA->Bool
 |.nils=>true
 |_=>false
def NI:aA->Bool
 |.nilp=>true
 |_=>false
def isE:aA->Bool
 |.tup l=>l.isEmpty
 |_=>false
def Zf (id:Nat):aA->Bool
 |.slf i=>Nat.beq i id
 |_=>false
def ZH (id:Nat):aA->Bool
 |.mpv i=>Nat.beq i id
 |_=>false
def ZJ (id:Nat):aA->Bool
 |.yld i=>Nat.beq i id
 |_=>false
def UQ (id:Nat):aA->Bool
 |.slc i v w=>Nat.beq i id&&(Nat.beq v 0&&(match w with|none=>true|some _=>false))
 |_=>false
def isPtr (id off:Nat):aA->Bool
 |.ptr i o=>Nat.beq i id&&Nat.beq o off
 |_=>false
def zK:List (Nat×Nat)->List aA->Bool
 |[],[]=>true
 |(i,o)::c,v::l=>isPtr i o v&&zK c l
 |_,_=>false
def aeg (f:FuncId) (c:List (Nat×Nat)):aA->Bool
 |.fn g l=>Nat.beq g f&&zK c l
 |_=>false
def Sr (f:FuncId) (c:List (Nat×Nat)):aA->Bool
 |.mfn g l=>Nat.beq g f&&zK c l
 |_=>false
theorem VU {t:Ty} {v:aA} {x:t.den} (h:YY t v=some x):v=.val t x:=by
 cases v with
 |val t' z=>
  simp only[YY]at h
  have e:=eH h
  subst e
  rw[dK]at h
  cases h
  rfl
 |_=>simp[YY]at h
theorem aax {t:Ty} {v:aA} {x:t.den} (h:akg t v=some x):v=.cellp t x:=by
 cases v with
 |cellp t' z=>
  simp only[akg]at h
  have e:=eH h
  subst e
  rw[dK]at h
  cases h
  rfl
 |_=>simp[akg]at h
theorem ahb {v:aA} (h:isU v=true):v=.undef:=by cases v<;>first|rfl|(simp[isU]at h)
theorem RD {v:aA} (h:isNils v=true):v=.nils:=by cases v<;>first|rfl|(simp[isNils]at h)
theorem xX: ∀{c:List (Nat×Nat)} {l:List aA},zK c l=true->l=Eh c
 |[],[],_=>rfl
 |(i,o)::c,v::l,h=>by
  simp only[zK,Bool.and_eq_true]at h
  have h1:v=.ptr i o:=by
   have:=h.1
   cases v<;>simp only[isPtr,Bool.false_eq_true]at this
   simp only[Bool.and_eq_true]at this
   rw[Nat.eq_of_beq_eq_true this.1,Nat.eq_of_beq_eq_true this.2]
  rw[h1,xX h.2];rfl
 |[],_::_,h=>by simp[zK]at h
 |_::_,[],h=>by simp[zK]at h
theorem abY {f:FuncId} {c:List (Nat×Nat)} {v:aA} (h:aeg f c v=true):v=.fn f (Eh c):=by
 cases v with
 |fn g l=>
  simp only[aeg,Bool.and_eq_true]at h
  rw[Nat.eq_of_beq_eq_true h.1,xX h.2]
 |_=>simp[aeg]at h
theorem Xn {f:FuncId} {c:List (Nat×Nat)} {v:aA} (h:Sr f c v=true):v=.mfn f (Eh c):=by
 cases v with
 |mfn g l=>
  simp only[Sr,Bool.and_eq_true]at h
  rw[Nat.eq_of_beq_eq_true h.1,xX h.2]
 |_=>simp[Sr]at h
theorem RX {v:aA} (h:NI v=true):v=.nilp:=by cases v<;>first|rfl|(simp[NI]at h)
theorem adG {v:aA} (h:isE v=true):v=.tup []:=by
 cases v with
 |tup l=>cases l with
  |nil=>rfl
  |cons=>simp[isE]at h
 |_=>simp[isE]at h
theorem WA {id:Nat} {v:aA} (h:Zf id v=true):v=.slf id:=by
 cases v with
 |slf i=>rw[Nat.eq_of_beq_eq_true h]
 |_=>simp[Zf]at h
theorem Xz {id:Nat} {v:aA} (h:ZH id v=true):v=.mpv id:=by
 cases v with
 |mpv i=>rw[Nat.eq_of_beq_eq_true h]
 |_=>simp[ZH]at h
theorem Xv {id:Nat} {v:aA} (h:ZJ id v=true):v=.yld id:=by
 cases v with
 |yld i=>rw[Nat.eq_of_beq_eq_true h]
 |_=>simp[ZJ]at h
theorem Wp {id:Nat} {v:aA} (h:UQ id v=true):v=.slc id 0 none:=by
 cases v with
 |slc i k w=>
  simp only[UQ,Bool.and_eq_true]at h
  obtain rfl:i=id:=Nat.eq_of_beq_eq_true h.1
  obtain rfl:k=0:=Nat.eq_of_beq_eq_true h.2.1
  cases w with
  |none=>rfl
  |some _=>simp at h
 |_=>simp[UQ]at h
theorem V4 {id off:Nat} {v:aA} (h:isPtr id off v=true):v=.ptr id off:=by
 cases v with
 |ptr i o=>
  simp only[isPtr,Bool.and_eq_true]at h
  rw[Nat.eq_of_beq_eq_true h.1,Nat.eq_of_beq_eq_true h.2]
 |_=>simp[isPtr]at h
def iY:(l:List FK)->List aA->Option (FKs.den l).den
 |[],fr=>match fr with
  |[]=>some ()
  |_=>none
 |.v t::l,fr=>match fr with
  |v::fr=>match YY t v,iY l fr with
   |some x,some y=>some (x,y)
   |_,_=>none
  |[]=>none
 |.u::l,fr=>match fr with
  |v::fr=>bif isU v then iY l fr else none
  |[]=>none
 |.slc id::l,fr=>match fr with
  |v::fr=>bif UQ id v then iY l fr else none
  |[]=>none
 |.ptr id off::l,fr=>match fr with
  |v::fr=>bif isPtr id off v then iY l fr else none
  |[]=>none
 |.nils::l,fr=>match fr with
  |v::fr=>bif isNils v then iY l fr else none
  |[]=>none
 |.nilp::l,fr=>match fr with
  |v::fr=>bif NI v then iY l fr else none
  |[]=>none
 |.e::l,fr=>match fr with
  |v::fr=>bif isE v then iY l fr else none
  |[]=>none
 |.fn f c::l,fr=>match fr with
  |v::fr=>bif aeg f c v then iY l fr else none
  |[]=>none
 |.mfn f c::l,fr=>match fr with
  |v::fr=>bif Sr f c v then iY l fr else none
  |[]=>none
 |.slf id::l,fr=>match fr with
  |v::fr=>bif Zf id v then iY l fr else none
  |[]=>none
 |.mpv id::l,fr=>match fr with
  |v::fr=>bif ZH id v then iY l fr else none
  |[]=>none
 |.yld id::l,fr=>match fr with
  |v::fr=>bif ZJ id v then iY l fr else none
  |[]=>none
 |.cp t::l,fr=>match fr with
  |v::fr=>match akg t v,iY l fr with
   |some x,some y=>some (x,y)
   |_,_=>none
  |[]=>none
theorem fM: ∀(l:List FK) (fr:List aA) (y:(FKs.den l).den),iY l fr=some y->fr=Ku l y
 |[],fr,y,h=>by
  simp only[iY]at h
  split at h
  ·rfl
  ·cases h
 |.v t::l,fr,y,h=>by
  simp only[iY]at h
  split at h
  ·split at h
   ·rename_i x y' hx hy
    cases h
    rw[VU hx,fM l _ y' hy];rfl
   ·cases h
  ·cases h
 |.u::l,fr,y,h=>by
  simp only[iY]at h
  split at h
  ·rename_i v fr
   obtain⟨hu,h⟩:isU v=true/\iY l fr=some y:=aP h
   rw[ahb hu,fM l fr y h];rfl
  ·cases h
 |.slc id::l,fr,y,h=>by
  simp only[iY]at h
  split at h
  ·rename_i v fr
   obtain⟨hu,h⟩:UQ id v=true/\iY l fr=some y:=aP h
   rw[Wp hu,fM l fr y h];rfl
  ·cases h
 |.ptr id off::l,fr,y,h=>by
  simp only[iY]at h
  split at h
  ·rename_i v fr
   obtain⟨hu,h⟩:isPtr id off v=true/\iY l fr=some y:=aP h
   rw[V4 hu,fM l fr y h];rfl
  ·cases h
 |.nils::l,fr,y,h=>by
  simp only[iY]at h
  split at h
  ·rename_i v fr
   obtain⟨hu,h⟩:isNils v=true/\iY l fr=some y:=aP h
   rw[RD hu,fM l fr y h];rfl
  ·cases h
 |.nilp::l,fr,y,h=>by
  simp only[iY]at h
  split at h
  ·rename_i v fr
   obtain⟨hu,h⟩:NI v=true/\iY l fr=some y:=aP h
   rw[RX hu,fM l fr y h];rfl
  ·cases h
 |.e::l,fr,y,h=>by
  simp only[iY]at h
  split at h
  ·rename_i v fr
   obtain⟨hu,h⟩:isE v=true/\iY l fr=some y:=aP h
   rw[adG hu,fM l fr y h];rfl
  ·cases h
 |.fn f c::l,fr,y,h=>by
  simp only[iY]at h
  split at h
  ·rename_i v fr
   obtain⟨hu,h⟩:aeg f c v=true/\iY l fr=some y:=aP h
   rw[abY hu,fM l fr y h];rfl
  ·cases h
 |.mfn f c::l,fr,y,h=>by
  simp only[iY]at h
  split at h
  ·rename_i v fr
   obtain⟨hu,h⟩:Sr f c v=true/\iY l fr=some y:=aP h
   rw[Xn hu,fM l fr y h];rfl
  ·cases h
 |.slf id::l,fr,y,h=>by
  simp only[iY]at h
  split at h
  ·rename_i v fr
   obtain⟨hu,h⟩:Zf id v=true/\iY l fr=some y:=aP h
   rw[WA hu,fM l fr y h];rfl
  ·cases h
 |.mpv id::l,fr,y,h=>by
  simp only[iY]at h
  split at h
  ·rename_i v fr
   obtain⟨hu,h⟩:ZH id v=true/\iY l fr=some y:=aP h
   rw[Xz hu,fM l fr y h];rfl
  ·cases h
 |.yld id::l,fr,y,h=>by
  simp only[iY]at h
  split at h
  ·rename_i v fr
   obtain⟨hu,h⟩:ZJ id v=true/\iY l fr=some y:=aP h
   rw[Xv hu,fM l fr y h];rfl
  ·cases h
 |.cp t::l,fr,y,h=>by
  simp only[iY]at h
  split at h
  ·split at h
   ·rename_i x y' hx hy
    cases h
    rw[aax hx,fM l _ y' hy];rfl
   ·cases h
  ·cases h
noncomputable def rfA (f:FuncId) (k:Nat):Code:=match og f k with
 |some (a,_)=>a
 |none=>.skip
noncomputable def rfB (f:FuncId) (k:Nat):Code:=match og f k with
 |some (_,b)=>b
 |none=>.skip
inductive HK where
 |arr (id:Nat) (e:Ty)
 |box (id:Nat) (t:TypeId) (cs:List FK)
 |mp (id:Nat) (kk vk:IntKind)
 |lp (id:Nat) (f:FuncId) (fr:List FK) (ps:List Nat) (key:Nat) (n:Nat) (p:Option Ex)
def HKs.den:List HK->Ty
 |[]=>.unit
 |.arr _ e::l=>.pair (.list e) (HKs.den l)
 |.mp _ kk vk::l=>.pair (.list (.pair (.int kk) (.int vk))) (HKs.den l)
 |.box _ _ cs::l=>.pair (FKs.den cs) (HKs.den l)
 |.lp _ _ fr _ _ _ _::l=>.pair (FKs.den fr) (HKs.den l)
noncomputable def mkH:(l:List HK)->(HKs.den l).den->dN
 |[],_=>[]
 |.arr id e::l,y=>(id,.arr e 0 y.1)::mkH l y.2
 |.mp id kk vk::l,y=>(id,.mp kk vk y.1)::mkH l y.2
 |.box id t cs::l,y=>(id,.box t (Ku cs y.1))::mkH l y.2
 |.lp id f fr ps key n p::l,y=>(id,.lp f (Ku fr y.1) ps (rfA f key) (rfB f key) (some key) n p)::mkH l y.2
def Yj (e:Ty):aW->Option (List e.den)
 |.arr e' v xs=>bif Nat.beq v 0 then iL (.list e) (t':=.list e') xs else none
 |_=>none
def aji (kk vk:IntKind):aW->Option (List (Int×Int))
 |.mp k v es=>bif decide (k=kk)&&decide (v=vk)then some es else none
 |_=>none
theorem acN {kk vk:IntKind} {o:aW} {x:List (Int×Int)} (h:aji kk vk o=some x):o=.mp kk vk x:=by
 cases o with
 |mp k v es=>
  simp only[aji]at h
  replace h:=aP h
  obtain⟨h1,h⟩:=h
  simp only[Bool.and_eq_true,decide_eq_true_eq]at h1
  obtain⟨rfl,rfl⟩:=h1
  cases h
  rfl
 |_=>simp[aji]at h
def ZL (t:TypeId) (cs:List FK):aW->Option (FKs.den cs).den
 |.box t' l=>bif Nat.beq t' t then iY cs l else none
 |_=>none
def anH:Ex->Ex->Bool
 |.normal,.normal=>true
 |.exit i,.exit j=>Nat.beq i j
 |.goto i,.goto j=>Nat.beq i j
 |.ret,.ret=>true
 |_,_=>false
def afi:Option Ex->Option Ex->Bool
 |none,none=>true
 |some a,some b=>anH a b
 |_,_=>false
def Dc:List Nat->List Nat->Bool
 |[],[]=>true
 |a::l,b::m=>Nat.beq a b&&Dc l m
 |_,_=>false
theorem ac6 {a b:Ex} (h:anH a b=true):a=b:=by
 cases a<;>cases b<;>simp only[anH,Bool.false_eq_true]at h<;>first|rfl|rw[Nat.eq_of_beq_eq_true h]
theorem VT {a b:Option Ex} (h:afi a b=true):a=b:=by
 cases a<;>cases b<;>simp only[afi,Bool.false_eq_true]at h<;>first|rfl|rw[ac6 h]
theorem EJ: ∀{l m:List Nat},Dc l m=true->l=m
 |[],[],_=>rfl
 |a::l,b::m,h=>by
  simp only[Dc,Bool.and_eq_true]at h
  rw[Nat.eq_of_beq_eq_true h.1,EJ h.2]
 |[],_::_,h=>by simp[Dc]at h
 |_::_,[],h=>by simp[Dc]at h
def ah1 (f:FuncId) (fr:List FK) (ps:List Nat) (key n:Nat) (p:Option Ex):aW->Option (FKs.den fr).den
 |.lp f' fr' ps' _ _ (some k') n' p'=>bif Nat.beq f' f&&(Dc ps' ps&&(Nat.beq k' key&&(Nat.beq n' n&&afi p' p)))then iY fr fr' else none
 |_=>none
theorem VN {e:Ty} {o:aW} {x:List e.den} (h:Yj e o=some x):o=.arr e 0 x:=by
 cases o with
 |arr e' v xs=>
  simp only[Yj]at h
  rw[cond_eq_ite]at h
  split at h
  ·rename_i hv
   obtain rfl:v=0:=Nat.eq_of_beq_eq_true hv
   have ee:=eH h
   cases ee
   rw[dK]at h
   cases h
   rfl
  ·cases h
 |_=>simp[Yj]at h
theorem XG {t:TypeId} {cs:List FK} {o:aW} {x:(FKs.den cs).den} (h:ZL t cs o=some x):o=.box t (Ku cs x):=by
 cases o with
 |box t' l=>
  simp only[ZL]at h
  obtain⟨h1,h⟩:=aP h
  rw[fM cs l x h,Nat.eq_of_beq_eq_true h1]
 |_=>simp[ZL]at h
theorem ace {f:FuncId} {fr:List FK} {ps:List Nat} {key n:Nat} {p:Option Ex} {o:aW} {x:(FKs.den fr).den} (hw:WfO o) (h:ah1 f fr ps key n p o=some x):o=.lp f (Ku fr x) ps (rfA f key) (rfB f key) (some key) n p:=by
 cases o with
 |lp f' fr' ps' asg bd ky n' p'=>
  cases ky with
  |none=>simp[ah1]at h
  |some k'=>
   simp only[ah1]at h
   replace h:=aP h
   obtain⟨hc,h⟩:=h
   simp only[Bool.and_eq_true]at hc
   obtain⟨h1,h2,h3,h4,h5⟩:=hc
   have h1:=Nat.eq_of_beq_eq_true h1
   have h2:=EJ h2
   have h3:=Nat.eq_of_beq_eq_true h3
   have h4:=Nat.eq_of_beq_eq_true h4
   have h5:=VT h5
   subst h1 h2 h3 h4 h5
   have hw':og f' k'=some (asg,bd):=hw
   have hA:rfA f' k'=asg:=by unfold rfA;rw[hw']
   have hB:rfB f' k'=bd:=by unfold rfB;rw[hw']
   rw[fM fr fr' x h,hA,hB]
 |_=>simp[ah1]at h
def Fq:(l:List HK)->dN->Option (HKs.den l).den
 |[],hp=>match hp with
  |[]=>some ()
  |_=>none
 |.arr id e::l,hp=>match hp with
  |(j,o)::hp=>bif Nat.beq j id then(match Yj e o,Fq l hp with
   |some x,some y=>some (x,y)
   |_,_=>none)else none
  |[]=>none
 |.mp id kk vk::l,hp=>match hp with
  |(j,o)::hp=>bif Nat.beq j id then(match aji kk vk o,Fq l hp with
   |some x,some y=>some (x,y)
   |_,_=>none)else none
  |[]=>none
 |.box id t cs::l,hp=>match hp with
  |(j,o)::hp=>bif Nat.beq j id then(match ZL t cs o,Fq l hp with
   |some x,some y=>some (x,y)
   |_,_=>none)else none
  |[]=>none
 |.lp id f fr ps key n p::l,hp=>match hp with
  |(j,o)::hp=>bif Nat.beq j id then(match ah1 f fr ps key n p o,Fq l hp with
   |some x,some y=>some (x,y)
   |_,_=>none)else none
  |[]=>none
theorem pM: ∀(l:List HK) (hp:dN) (y:(HKs.den l).den),(∀e∈hp,WfO e.2)->Fq l hp=some y->hp=mkH l y
 |[],hp,y,_,h=>by
  simp only[Fq]at h
  split at h
  ·rfl
  ·cases h
 |.arr id e::l,hp,y,hw,h=>by
  simp only[Fq]at h
  split at h
  ·rw[cond_eq_ite]at h
   split at h
   ·rename_i hb
    split at h
    ·rename_i x y' hx hy
     cases h
     rw[VN hx,pM l _ y' (fun e he=>hw e (List.mem_cons_of_mem _ he)) hy,Nat.eq_of_beq_eq_true hb];rfl
    ·cases h
   ·cases h
  ·cases h
 |.mp id kk vk::l,hp,y,hw,h=>by
  simp only[Fq]at h
  split at h
  ·rw[cond_eq_ite]at h
   split at h
   ·rename_i hb
    split at h
    ·rename_i x y' hx hy
     cases h
     rw[acN hx,pM l _ y' (fun e he=>hw e (List.mem_cons_of_mem _ he)) hy,Nat.eq_of_beq_eq_true hb];rfl
    ·cases h
   ·cases h
  ·cases h
 |.box id t cs::l,hp,y,hw,h=>by
  simp only[Fq]at h
  split at h
  ·rw[cond_eq_ite]at h
   split at h
   ·rename_i hb
    split at h
    ·rename_i x y' hx hy
     cases h
     rw[XG hx,pM l _ y' (fun e he=>hw e (List.mem_cons_of_mem _ he)) hy,Nat.eq_of_beq_eq_true hb];rfl
    ·cases h
   ·cases h
  ·cases h
 |.lp id f fr ps key n p::l,hp,y,hw,h=>by
  simp only[Fq]at h
  split at h
  ·rw[cond_eq_ite]at h
   split at h
   ·rename_i hb
    split at h
    ·rename_i x y' hx hy
     cases h
     have hw0:=hw _ List.mem_cons_self
     dsimp only at hw0
     rw[ace hw0 hx,pM l _ y' (fun e he=>hw e (List.mem_cons_of_mem _ he)) hy,Nat.eq_of_beq_eq_true hb];rfl
    ·cases h
   ·cases h
  ·cases h
structure SP where
 fr:List FK
 hp:List HK
def SP.den (p:SP):Type:=(FKs.den p.fr).den×(HKs.den p.hp).den
noncomputable def iZ (p:SP) (y:p.den):St:=⟨Ku p.fr y.1,[[]],mkH p.hp y.2,0⟩
def afL (p:SP) (st:St):Option p.den:=
 match st.stk,st.nxt with
 |[[]],0=>match iY p.fr st.fr,Fq p.hp st.hp with
  |some x,some y=>bif nG st.hp then some (x,y)else none
  |_,_=>none
 |_,_=>none
theorem IY {p:SP} {st:St} {y:p.den} (hw:UY st.hp) (h:afL p st=some y):st=iZ p y:=by
 obtain⟨fr,stk,hp,nxt⟩:=st
 unfold afL at h
 split at h
 ·rename_i h1 h2
  subst h1 h2
  split at h
  ·rename_i x y' hx hy
   replace h:=aP h
   obtain⟨hn,h⟩:=h
   cases h
   have e1:=fM _ _ _ hx
   have e2:=pM _ _ _ (Dw _ hn hw) hy
   simp only[iZ]
   rw[<-e1,<-e2]
  ·cases h
 ·cases h
def wE {R:Type} (E:Env) (d:Nat) (f:FuncId) (c:Code):St->(Ex->St->Option R)->Option R:=run (E.at d) (exec E d) (KG E d) f c
noncomputable def dO (k:dB) (l la lb:SP) (ex:Ex) (sp:l.den->Option (la.den⊕lb.den)) (dep:Nat:=0) (exb:Ex:=.ret):bG where
 V:=l.den
 A:=fun _=>la.den
 B:=fun _=>lb.den
 get:=fun st=>match Bd k.slots k.owns st with
  |some st=>afL l st
  |none=>none
 spec:=sp
 exA:=fun _=>ex
 stA:=fun _ _ a=>iZ la a
 stB:=fun _ _ b=>iZ lb b
 dep:=dep
 exB:=fun _=>exb
theorem aa2 {E:Env} {f:FuncId} {c:Code} {k:dB} {l la lb:SP} {ex:Ex} {sp:l.den->Option (la.den⊕lb.den)} {dep:Nat} {exb:Ex} (hk:E.kp f (aQ c)=some k)
  (h: ∀(R:Type) (d:Nat) (K:Ex->St->Option R) (v:l.den) o,sp v=some o->
   ∃m,iter (some k) (wE E (d+dep) f c) m (iZ l v) K=bF o (fun a=>K ex (iZ la a)) fun b=>K exb (iZ lb b)):di E f c (dO k l la lb ex sp dep exb):=by
 intro R d r st v K hwf hg hr
 simp only[dO]at hg
 split at hg
 ·rename_i st1 ht
  have e:=IY (hwf _ _ _ ht) hg
  subst e
  simp only[dO]at hr
  cases ho:sp v with
  |none=>rw[ho]at hr;cases hr
  |some o=>
   rw[ho]at hr
   obtain⟨m,hm⟩:=h R d K v o ho
   have hk2:(E.at (d+(dO k l la lb ex sp dep exb).dep)).kp f (aQ c)=some k:=hk
   refine⟨m,iZ l v,by rw[hk2];exact ht, ?_⟩
   rw[hk2]
   exact hm.trans hr
 ·cases hg
theorem CX {E:Env} {f:FuncId} {c:Code} {k:dB} {l la lb:SP} {ex:Ex} {sp:l.den->Option (la.den⊕lb.den)} {dep:Nat} {exb:Ex} (hk:E.kp f (800000+aQ c)=some k)
  (h: ∀(R:Type) (d:Nat) (K:Ex->St->Option R) (v:l.den) o,sp v=some o->
   ∃m,iter (some k) (zF (wE E (d+dep) f c)) m (iZ l v) K=bF o (fun a=>K ex (iZ la a)) fun b=>K exb (iZ lb b)):qF E f c (dO k l la lb ex sp dep exb):=by
 intro R d r st v K hwf hg hr
 simp only[dO]at hg
 split at hg
 ·rename_i st1 ht
  have e:=IY (hwf _ _ _ ht) hg
  subst e
  simp only[dO]at hr
  cases ho:sp v with
  |none=>rw[ho]at hr;cases hr
  |some o=>
   rw[ho]at hr
   obtain⟨m,hm⟩:=h R d K v o ho
   have hk2:(E.at (d+(dO k l la lb ex sp dep exb).dep)).kp f (800000+aQ c)=some k:=hk
   refine⟨m,iZ l v,by rw[hk2];exact ht, ?_⟩
   rw[hk2]
   exact hm.trans hr
 ·cases hg
def FKss.den:List (List FK)->Type
 |[]=>Unit
 |l::ls=>(FKs.den l).den×FKss.den ls
def mkK:(l:List (List FK))->FKss.den l->List (List aA)
 |[],_=>[]
 |l::ls,y=>Ku l y.1::mkK ls y.2
def adT:(l:List (List FK))->List (List aA)->Option (FKss.den l)
 |[],st=>match st with
  |[]=>some ()
  |_=>none
 |l::ls,st=>match st with
  |fr::st=>match iY l fr,adT ls st with
   |some x,some y=>some (x,y)
   |_,_=>none
  |[]=>none
theorem Nh: ∀(l:List (List FK)) (st:List (List aA)) (y:FKss.den l),adT l st=some y->st=mkK l y
 |[],st,y,h=>by
  simp only[adT]at h
  split at h
  ·rfl
  ·cases h
 |l::ls,st,y,h=>by
  simp only[adT]at h
  split at h
  ·split at h
   ·rename_i x y' hx hy
    cases h
    rw[fM _ _ _ hx,Nh ls _ y' hy];rfl
   ·cases h
  ·cases h
structure SQ where
 fr:List FK
 stk:List (List FK)
 hp:List HK
def SQ.den (p:SQ):Type:=(FKs.den p.fr).den×(FKss.den p.stk×(HKs.den p.hp).den)
noncomputable def lL (p:SQ) (y:p.den):St:=⟨Ku p.fr y.1,mkK p.stk y.2.1,mkH p.hp y.2.2,0⟩
def Yc (p:SQ) (st:St):Option p.den:=
 match st.nxt with
 |0=>match iY p.fr st.fr,adT p.stk st.stk,Fq p.hp st.hp with
  |some x,some k,some y=>bif nG st.hp then some (x,k,y)else none
  |_,_,_=>none
 |_=>none
theorem EF {p:SQ} {st:St} {y:p.den} (hw:UY st.hp) (h:Yc p st=some y):st=lL p y:=by
 obtain⟨fr,stk,hp,nxt⟩:=st
 unfold Yc at h
 split at h
 ·rename_i h2
  subst h2
  split at h
  ·rename_i x k y' hx hk hy
   replace h:=aP h
   obtain⟨hn,h⟩:=h
   cases h
   have e1:=fM _ _ _ hx
   have e2:=pM _ _ _ (Dw _ hn hw) hy
   have e3:=Nh _ _ _ hk
   simp only[lL]
   rw[<-e1,<-e2,<-e3]
  ·cases h
 ·cases h
noncomputable def gQ (k:dB) (l la lb:SQ) (ex:Ex) (sp:l.den->Option (la.den⊕lb.den)) (dep:Nat:=0) (exb:Ex:=.ret):bG where
 V:=l.den
 A:=fun _=>la.den
 B:=fun _=>lb.den
 get:=fun st=>match Bd k.slots k.owns st with
  |some st=>Yc l st
  |none=>none
 spec:=sp
 exA:=fun _=>ex
 stA:=fun _ _ a=>lL la a
 stB:=fun _ _ b=>lL lb b
 dep:=dep
 exB:=fun _=>exb
theorem VR {E:Env} {f:FuncId} {c:Code} {k:dB} {l la lb:SQ} {ex:Ex} {sp:l.den->Option (la.den⊕lb.den)} {dep:Nat} {exb:Ex} (hk:E.kp f (aQ c)=some k)
  (h: ∀(R:Type) (d:Nat) (K:Ex->St->Option R) (v:l.den) o,sp v=some o->
   ∃m,iter (some k) (wE E (d+dep) f c) m (lL l v) K=bF o (fun a=>K ex (lL la a)) fun b=>K exb (lL lb b)):di E f c (gQ k l la lb ex sp dep exb):=by
 intro R d r st v K hwf hg hr
 simp only[gQ]at hg
 split at hg
 ·rename_i st1 ht
  have e:=EF (hwf _ _ _ ht) hg
  subst e
  simp only[gQ]at hr
  cases ho:sp v with
  |none=>rw[ho]at hr;cases hr
  |some o=>
   rw[ho]at hr
   obtain⟨m,hm⟩:=h R d K v o ho
   have hk2:(E.at (d+(gQ k l la lb ex sp dep exb).dep)).kp f (aQ c)=some k:=hk
   refine⟨m,lL l v,by rw[hk2];exact ht, ?_⟩
   rw[hk2]
   exact hm.trans hr
 ·cases hg
theorem an2 {E:Env} {f:FuncId} {c:Code} {k:dB} {l la lb:SQ} {ex:Ex} {sp:l.den->Option (la.den⊕lb.den)} {dep:Nat} {exb:Ex} (hk:E.kp f (800000+aQ c)=some k)
  (h: ∀(R:Type) (d:Nat) (K:Ex->St->Option R) (v:l.den) o,sp v=some o->
   ∃m,iter (some k) (zF (wE E (d+dep) f c)) m (lL l v) K=bF o (fun a=>K ex (lL la a)) fun b=>K exb (lL lb b)):qF E f c (gQ k l la lb ex sp dep exb):=by
 intro R d r st v K hwf hg hr
 simp only[gQ]at hg
 split at hg
 ·rename_i st1 ht
  have e:=EF (hwf _ _ _ ht) hg
  subst e
  simp only[gQ]at hr
  cases ho:sp v with
  |none=>rw[ho]at hr;cases hr
  |some o=>
   rw[ho]at hr
   obtain⟨m,hm⟩:=h R d K v o ho
   have hk2:(E.at (d+(gQ k l la lb ex sp dep exb).dep)).kp f (800000+aQ c)=some k:=hk
   refine⟨m,lL l v,by rw[hk2];exact ht, ?_⟩
   rw[hk2]
   exact hm.trans hr
 ·cases hg
def oD (L M:bG):bG where
 V:=L.V⊕M.V
 A:=fun v=>match v with|.inl v=>L.A v|.inr v=>M.A v
 B:=fun v=>match v with|.inl v=>L.B v|.inr v=>M.B v
 get:=fun st=>match L.get st with
  |some v=>some (.inl v)
  |none=>match M.get st with
   |some v=>some (.inr v)
   |none=>none
 spec:=fun v=>match v with|.inl v=>L.spec v|.inr v=>M.spec v
 exA:=fun v=>match v with|.inl v=>L.exA v|.inr v=>M.exA v
 stA:=fun st v=>match v with|.inl v=>L.stA st v|.inr v=>M.stA st v
 stB:=fun st v=>match v with|.inl v=>L.stB st v|.inr v=>M.stB st v
 dep:=L.dep+M.dep
 exB:=fun v=>match v with|.inl v=>L.exB v|.inr v=>M.exB v
theorem Nb {E:Env} {f:FuncId} {c:Code} {L M:bG} (h1:di E f c L) (h2:di E f c M):di E f c (oD L M):=fun R m r st v K hwf hg hr=>by
 simp only[oD]at hg
 split at hg
 ·rename_i v1 hv
  cases hg
  have e:m+(oD L M).dep=(m+M.dep)+L.dep:=by show m+(L.dep+M.dep)=_;omega
  rw[e]
  exact h1 R _ r st v1 K hwf hv hr
 ·split at hg
  ·rename_i v1 hv
   cases hg
   have e:m+(oD L M).dep=(m+L.dep)+M.dep:=by show m+(L.dep+M.dep)=_;omega
   rw[e]
   exact h2 R _ r st v1 K hwf hv hr
  ·cases hg
theorem aqH {E:Env} {f:FuncId} {c:Code} {L M:bG} (h1:qF E f c L) (h2:qF E f c M):qF E f c (oD L M):=fun R m r st v K hwf hg hr=>by
 simp only[oD]at hg
 split at hg
 ·rename_i v1 hv
  cases hg
  have e:m+(oD L M).dep=(m+M.dep)+L.dep:=by show m+(L.dep+M.dep)=_;omega
  rw[e]
  exact h1 R _ r st v1 K hwf hv hr
 ·split at hg
  ·rename_i v1 hv
   cases hg
   have e:m+(oD L M).dep=(m+L.dep)+M.dep:=by show m+(L.dep+M.dep)=_;omega
   rw[e]
   exact h2 R _ r st v1 K hwf hv hr
  ·cases hg
end Go.Proofs.YtihafdllichkeaaGreatDoor
namespace Go.Proofs.YtihafdllichkeaaGreatDoor
open Go.RowKit
set_option linter.unusedVariables false
set_option linter.unusedSimpArgs false
def agO:List (FuncId×Sum)->FuncId->Option Sum
 |[],_=>none
 |e::l,g=>bif Nat.beq g e.1 then some e.2 else agO l g
theorem PG {P:Program}: ∀(l:List (FuncId×Sum)),(∀e∈l,bD P e.1 e.2)-> ∀g s,agO l g=some s->bD P g s
 |[],_,g,s,h=>by cases h
 |e::l,hl,g,s,h=>by
  simp only[agO]at h
  rw[cond_eq_ite]at h
  split at h
  ·rename_i hg
   obtain rfl:g=e.1:=Nat.eq_of_beq_eq_true hg
   cases h
   exact hl e (by simp)
  ·exact PG l (fun e he=>hl e (List.mem_cons_of_mem _ he)) g s h
def auo (f:FuncId) (l:List (Nat×dB)) (g:FuncId) (id:Nat):Option dB:=
 bif Nat.beq g f then(l.find? fun e=>Nat.beq id e.1).map (·.2)else none
def alx (f:FuncId) (l:List (Nat×bG)) (g:FuncId) (id:Nat):Option bG:=
 bif Nat.beq g f then(match l.find? fun e=>Nat.beq id e.1 with|some e=>some e.2|none=>none)else none
theorem X0 {f g:FuncId} (l:List (Nat×bG)) (h:g≠f) (id:Nat):alx f l g id=none:=by
 have:Nat.beq g f=false:=by
  cases hb:Nat.beq g f with
  |false=>rfl
  |true=>exact absurd (Nat.eq_of_beq_eq_true hb) h
 simp[alx,this]
def art:FuncId:=143
def Bf (g:FuncId):Bool:=Nat.beq g art&& !Nat.beq art 1000000
def aey:List (FuncId×gq)->FuncId->Option gq
 |[],_=>none
 |e::l,g=>bif Nat.beq g e.1 then some e.2 else aey l g
theorem PH {P:Program}: ∀(l:List (FuncId×gq)),(∀e∈l,gY P e.1 e.2)-> ∀g s,aey l g=some s->gY P g s
 |[],_,g,s,h=>by cases h
 |e::l,hl,g,s,h=>by
  simp only[aey]at h
  cases hb:Nat.beq g e.1 with
  |true=>
   rw[hb]at h
   cases h
   rw[Nat.eq_of_beq_eq_true hb]
   exact hl e (by simp)
  |false=>
   rw[hb]at h
   exact PH l (fun e he=>hl e (List.mem_cons_of_mem _ he)) g s h
def dH (P:Program) (T:TT) (f:FuncId) (sg:List (FuncId×Sum)) (kp:List (Nat×dB)) (lp:List (Nat×bG)) (sb:List (FuncId×gq):=[]):Env:=
 {P:=P,T:=T,cl:=false,kp:=auo f kp,sg:=agO sg,lp:=alx f lp,bf:=Bf,sb:=aey sb}
theorem bz {P:Program} {T:TT} (hT:TOk P T) (hm:P.follows .mixedOrders=true) (hng:BC P) {f:FuncId} {sg:List (FuncId×Sum)} {kp:List (Nat×dB)} {lp:List (Nat×bG)} {sb:List (FuncId×gq)}
  (hs: ∀e∈sg,bD P e.1 e.2) {fn:Func} {c:Code} (hf:P.funcs[f]? =some fn) (hb:fn.body=some c) (hl:cZ (dH P T f sg kp lp sb) f c) (hrf: ∀E,mX P E->Xk E) (hB: ∀g,Bf g=true->uX P g) (hx: ∀e∈sb,gY P e.1 e.2:=by simp):bJ (dH P T f sg kp lp sb):=by
 have hL:mX P (dH P T f sg kp lp sb):= ?_
 exact⟨hT,hm,hng,PG sg hs,hL,hrf _ hL,hB,PH sb hx⟩
 intro g fn' c' h1 h2
 by_cases e:g=f
 ·subst e
  have h1':P.funcs[g]? =some fn':=h1
  rw[hf]at h1'
  cases h1'
  rw[hb]at h2
  cases h2
  exact hl
 ·exact aS (fun id=>X0 lp e id) (fun _=>rfl) c'
def ao3 (l:List (FuncId×Nat×dB)) (g:FuncId) (id:Nat):Option dB:=match l.find? fun e=>Nat.beq g e.1&&Nat.beq id e.2.1 with
 |some e=>some e.2.2
 |none=>none
def Yg:List (FuncId×Nat×bG)->FuncId->Nat->Option bG
 |[],_,_=>none
 |e::l,g,id=>bif Nat.beq g e.1&&Nat.beq id e.2.1 then some e.2.2 else Yg l g id
theorem Iu: ∀(l:List (FuncId×Nat×bG)) (g:FuncId),(∀e∈l,e.1≠g)-> ∀id,Yg l g id=none
 |[],g,_,id=>rfl
 |e::l,g,h,id=>by
  have hb:Nat.beq g e.1=false:=by
   cases hb:Nat.beq g e.1 with
   |false=>rfl
   |true=>exact absurd (Nat.eq_of_beq_eq_true hb).symm (h e (by simp))
  simp only[Yg,hb,Bool.false_and,cond_false]
  exact Iu l g (fun e he=>h e (List.mem_cons_of_mem _ he)) id
def fZ (P:Program) (T:TT) (sg:List (FuncId×Sum)) (kp:List (FuncId×Nat×dB)) (lp:List (FuncId×Nat×bG)) (rf:List FuncId) (sb:List (FuncId×gq):=[]):Env:=
 {P:=P,T:=T,cl:=false,kp:=ao3 kp,sg:=agO sg,lp:=Yg lp,rf:=fun g _=>rf.any fun x=>Nat.beq g x,bf:=Bf,sb:=aey sb}
theorem dQ {P:Program} {T:TT} (hT:TOk P T) (hm:P.follows .mixedOrders=true) (hng:BC P) {sg:List (FuncId×Sum)} {kp:List (FuncId×Nat×dB)} {lp:List (FuncId×Nat×bG)}
  {rf:List FuncId} {sb:List (FuncId×gq)} (hs: ∀e∈sg,bD P e.1 e.2) (fs:List FuncId) (hall:(lp.all fun e=>fs.any fun g=>Nat.beq e.1 g)=true) (hall2:(rf.all fun e=>fs.any fun g=>Nat.beq e g)=true) (hl: ∀g∈fs,∃fn c,P.funcs[g]? =some fn/\fn.body=some c/\cZ (fZ P T sg kp lp rf sb) g c)
  (hrf: ∀E,mX P E->Xk E) (hB: ∀g,Bf g=true->uX P g) (hx: ∀e∈sb,gY P e.1 e.2:=by simp):bJ (fZ P T sg kp lp rf sb):=by
 have hL:mX P (fZ P T sg kp lp rf sb):= ?_
 exact⟨hT,hm,hng,PG sg hs,hL,hrf _ hL,hB,PH sb hx⟩
 intro g fn' c' h1 h2
 by_cases e:g∈fs
 ·obtain⟨fn,c,h3,h4,h5⟩:=hl g e
  have h1':P.funcs[g]? =some fn':=h1
  rw[h3]at h1'
  cases h1'
  rw[h4]at h2
  cases h2
  exact h5
 ·refine aS (fun id=>Iu lp g (fun x hx hxe=>e ?_) id) (fun _=> ?_) c'
  ·have:=List.all_eq_true.1 hall x hx
   obtain⟨g',hg',hb⟩:=List.any_eq_true.1 this
   rw[<-hxe,Nat.eq_of_beq_eq_true hb]
   exact hg'
  ·cases hr:rf.any fun x=>Nat.beq g x with
   |false=>exact hr
   |true=>
    obtain⟨x,hx,hxb⟩:=List.any_eq_true.1 hr
    obtain⟨g',hg',hb⟩:=List.any_eq_true.1 (List.all_eq_true.1 hall2 x hx)
    exact absurd (by rw[Nat.eq_of_beq_eq_true hxb,Nat.eq_of_beq_eq_true hb];exact hg') e
def az {α:Type} (a b:List α):List α:=a++b
def au (i:Int):Nat:=i.toNat
def ay {α:Type} (l:List α) (d:α) (i:Nat):α:=l.getD i d
def takeN {α:Type} (l:List α) (n:Nat):List α:=l.take n
def aoY {α:Type} (n:Nat) (x:α):List α:=List.replicate n x
def fG (a b:List UInt8):Bool:=decide (a.length+b.length<=jg)
def pz {α:Type} (i:Nat) (l:List α):Bool:=Fp i l.length
def avE (a b:Int):Int:=a.tmod b
def auZ (k:IntKind) (n:Int):Int:=k.wrap n
def ava (a b:Int):Int:=a+b
def aeb (c:Int) (n:Nat):Bool:=decide (c.toNat*n<=jg)
def fF (a b:Bool):Bool:=a==b
def dR (t:Ty) (x y:List t.den):Bool:=qw (NL t) x y
def ibW (s:List UInt8) (c:Int):Int:=Lib.indexByte s c.toNat.toUInt8
def cA:Code->Code
 |.seq a _=>a
 |.block _ c=>c
 |.loop c=>c
 |.scope c=>c
 |.cond _ a _=>a
 |.rangeFunc _ _ a _=>a
 |c=>c
def cB:Code->Code
 |.seq _ b=>b
 |.cond _ _ b=>b
 |.rangeFunc _ _ _ b=>b
 |c=>c
def bZ:Code->List Code
 |.seq a b=>bZ a++bZ b
 |.cond _ a b=>bZ a++bZ b
 |.block _ c=>bZ c
 |.scope c=>bZ c
 |.loop c=>bZ c++[c]
 |.rangeFunc _ _ a b=>bZ a++bZ b
 |_=>[]
def iJ:Code->List (Code×Code)
 |.seq a b=>iJ a++iJ b
 |.cond _ a b=>iJ a++iJ b
 |.block _ c=>iJ c
 |.scope c=>iJ c
 |.loop c=>iJ c
 |.rangeFunc _ _ a b=>(a,b)::(iJ a++iJ b)
 |_=>[]
def lg:Code->List Code
 |.seq a b=>lg a++(b::lg b)
 |.cond _ a b=>lg a++lg b
 |.block _ c=>lg c
 |.scope c=>lg c
 |.loop c=>lg c
 |.rangeFunc _ _ a b=>lg a++lg b
 |_=>[]
def V7 (E:Env) (f:FuncId) (c:Code):Bool:=(lg c).all fun d=>(E.lp f (800000+aQ d)).isNone
theorem iF {R:Type} {E:Env} {x:jH R} {xd:N8} {f:FuncId}: ∀c:Code,(∀x∈iJ c,E.rf f (aQ x.2)=true->og f (aQ x.2)=some x)->(∀d∈bZ c,∀L,E.lp f (aQ d)=some L->L.dep.ble E.dp=true->QZ E x xd f d L)->
  (∀d∈lg c,∀L,E.lp f (800000+aQ d)=some L->L.dep.ble E.dp=true->X6 E x xd f d L)->gK E x xd f c
 |.seq a b,g,h,k=>⟨⟨iF a (fun d hd=>g d (List.mem_append.2 (.inl hd))) (fun d hd=>h d (List.mem_append.2 (.inl hd))) fun d hd=>k d (List.mem_append.2 (.inl hd)),k b (List.mem_append.2 (.inr List.mem_cons_self))⟩,
   iF b (fun d hd=>g d (List.mem_append.2 (.inr hd))) (fun d hd=>h d (List.mem_append.2 (.inr hd))) fun d hd=>k d (List.mem_append.2 (.inr (List.mem_cons_of_mem _ hd)))⟩
 |.cond _ a b,g,h,k=>⟨iF a (fun d hd=>g d (List.mem_append.2 (.inl hd))) (fun d hd=>h d (List.mem_append.2 (.inl hd))) fun d hd=>k d (List.mem_append.2 (.inl hd)),iF b (fun d hd=>g d (List.mem_append.2 (.inr hd))) (fun d hd=>h d (List.mem_append.2 (.inr hd))) fun d hd=>k d (List.mem_append.2 (.inr hd))⟩
 |.block _ c,g,h,k=>iF (E:=E) c g h k
 |.scope c,g,h,k=>iF (E:=E) c g h k
 |.loop c,g,h,k=>⟨iF c g (fun d hd=>h d (List.mem_append.2 (.inl hd))) k,h c (List.mem_append.2 (.inr (List.mem_singleton.2 rfl)))⟩
 |.rangeFunc _ _ a b,g,h,k=>⟨iF a (fun d hd=>g d (List.mem_cons_of_mem _ (List.mem_append.2 (.inl hd)))) (fun d hd=>h d (List.mem_append.2 (.inl hd))) fun d hd=>k d (List.mem_append.2 (.inl hd)),
   iF b (fun d hd=>g d (List.mem_cons_of_mem _ (List.mem_append.2 (.inr hd)))) (fun d hd=>h d (List.mem_append.2 (.inr hd))) fun d hd=>k d (List.mem_append.2 (.inr hd)),g (a,b) List.mem_cons_self⟩
 |.skip,_,_,_|.label _,_,_,_|.region _ _ _,_,_,_|.exit _,_,_,_|.goto _,_,_,_|.ret,_,_,_|.refuse _,_,_,_=>trivial
theorem EM {E:Env} {f:FuncId} (c:Code) (g: ∀x∈iJ c,E.rf f (aQ x.2)=true->og f (aQ x.2)=some x) (h: ∀d∈bZ c,∀L,E.lp f (aQ d)=some L->di E f d L)
  (k: ∀d∈lg c,∀L,E.lp f (800000+aQ d)=some L->qF E f d L):cZ E f c:=fun R m=>
 iF (E:=E.at m) c g (fun d hd L hL hdp=>by
  have h2:=h d hd L hL R (m-L.dep)
  rw[show m-L.dep+L.dep=m from Nat.sub_add_cancel (Nat.le_of_ble_eq_true (m:=m) hdp)]at h2
  exact h2) fun d hd L hL hdp=>by
  have h2:=k d hd L hL R (m-L.dep)
  rw[show m-L.dep+L.dep=m from Nat.sub_add_cancel (Nat.le_of_ble_eq_true (m:=m) hdp)]at h2
  exact h2
theorem aaD {E:Env} {f:FuncId} {c:Code} (h:V7 E f c=true): ∀d∈lg c,∀L,E.lp f (800000+aQ d)=some L->qF E f d L:=fun d hd L hL=>by
 have:=List.all_eq_true.1 h d hd
 rw[hL]at this;cases this
def Lt (E:Env) (f:FuncId) (c:Code):List Code:=(lg c).filter fun d=>(E.lp f (800000+aQ d)).isSome
theorem Ox {E:Env} {f:FuncId} {c:Code} (h: ∀d∈Lt E f c,∀L,E.lp f (800000+aQ d)=some L->qF E f d L): ∀d∈lg c,∀L,E.lp f (800000+aQ d)=some L->qF E f d L:=fun d hd L hL=>
 h d (List.mem_filter.2 ⟨hd,by rw[hL];rfl⟩) L hL
theorem qN {E:Env} {f:FuncId} (c:Code) (g: ∀x∈iJ c,E.rf f (aQ x.2)=true->og f (aQ x.2)=some x) (h: ∀d∈bZ c,∀L,E.lp f (aQ d)=some L->di E f d L) (k:V7 E f c=true:=by kernel_rfl):cZ E f c:=
 EM c g h (aaD k)
theorem bP {E:Env} {f:FuncId} (c:Code) (hrf: ∀id,E.rf f id=false) (h: ∀d∈bZ c,∀L,E.lp f (aQ d)=some L->di E f d L) (k:V7 E f c=true:=by kernel_rfl):cZ E f c:=
 qN c (fun x _ hx=>by rw[hrf]at hx;cases hx) h k
theorem bg {α β:Type} (b:Bool) (x y:Option α) (k:α->Option β):ai (bif b then x else y) k=bif b then ai x k else ai y k:=by cases b<;>rfl
theorem bn {α β:Type} (k:α->Option β):ai none k=none:=rfl
theorem ae {α β:Type} (x:α) (k:α->Option β):ai (some x) k=k x:=rfl
theorem aV {α β γ:Type} (x:Option α) (k:α->Option β) (l:β->Option γ):ai (ai x k) l=ai x fun a=>ai (k a) l:=by cases x<;>rfl
theorem arl {α β γ:Type} (a:α) (f:α->γ) (g:β->γ):bF (.inl a) f g=f a:=rfl
theorem arG {α β γ:Type} (b:β) (f:α->γ) (g:β->γ):bF (.inr b) f g=g b:=rfl
theorem bi {α β γ δ:Type} (o:α⊕β) (f:α->Option γ) (g:β->Option γ) (k:γ->Option δ):ai (bF o f g) k=bF o (fun a=>ai (f a) k) fun b=>ai (g b) k:=by cases o<;>rfl
end Go.Proofs.YtihafdllichkeaaGreatDoor
namespace Go.Proofs.YtihafdllichkeaaGreatDoor
open Go.RowKit
set_option linter.unusedVariables false
set_option linter.unusedSimpArgs false
def TT.allK:TT->Bool
 |.nil=>true
 |.node _ i l r=>i.known&&(l.allK&&r.allK)
theorem TT.allK_at: ∀(T:TT) (t:TypeId),T.allK=true->(T.at t).ty.isSome=true->(T.at t).known=true
 |.nil,t,_,h=>by simp[TT.at]at h;cases h
 |.node k i l r,t,h,h2=>by
  simp only[TT.allK,Bool.and_eq_true]at h
  simp only[TT.at]at h2 ⊢
  by_cases e:Nat.beq k t=true
  ·simp only[e,cond_true]at h2 ⊢;exact h.1
  ·have e':Nat.beq k t=false:=(Bool.not_eq_true _).mp e
   simp only[e',cond_false]at h2 ⊢
   by_cases e2:Nat.blt t k=true
   ·simp only[e2,cond_true]at h2 ⊢;exact TT.allK_at l t h.2.1 h2
   ·have e2':Nat.blt t k=false:=(Bool.not_eq_true _).mp e2
    simp only[e2',cond_false]at h2 ⊢;exact TT.allK_at r t h.2.2 h2
def wfD:(t:Ty)->t.den->Prop
 |.unit,_=>True
 |.bool,_=>True
 |.int k,x=>(Lit.int k x).wf=true
 |.str,x=>x.length<=maxLen
 |.list e,xs=>xs.length<=maxLen/\ ∀x∈xs,wfD e x
 |.pair a b,x=>wfD a x.1/\wfD b x.2
section
variable {P:Program} {T:TT} {w:World} {H:Type} {enc:TypeId×Value->H} {spare:Nat->Bool} {held:Bool}
theorem ahi {t:TypeId} {k:TK} (h:(P.underlying t).map iR=some (some k)): ∃d,P.underlying t=some d/\iR d=some k:=by
 cases hu:P.underlying t with
 |none=>rw[hu]at h;cases h
 |some d=>rw[hu]at h;exact⟨d,rfl,by simpa using h⟩
theorem zH (hT:TOk P T) {t:TypeId} (hk:(T.at t).known=true):P.cellsOf t=(T.at t).size:=by
 obtain⟨h,_⟩:=hT t hk
 unfold Program.cellsOf
 cases hi:P.info? t with
 |none=>rw[hi]at h;cases h
 |some f=>
  rw[hi]at h
  simp only[Option.map_some,Option.some.injEq,Prod.mk.injEq]at h
  simp[h.1]
theorem ajU {a:Addr} {v:Value} (h:w.cell? a=some v):a.block<w.heap.size/\a.spot=none:=by
 unfold World.cell? at h
 split at h
 ·rename_i hb
  refine⟨(Array.getElem?_eq_some_iff.1 hb).1, ?_⟩
  split at h
  ·cases h
  ·rename_i hs
   cases hsp:a.spot with
   |none=>rfl
   |some _=>rw[hsp]at hs;simp at hs
 ·cases h
theorem addr_add_add (a:Addr) (x m:Nat):(a.add x).add m=a.add (x+m):=by
 unfold Addr.add
 by_cases h1:x=0<;>by_cases h2:m=0<;>simp_all [Nat.add_assoc]
theorem RY {e:Ty} {size:Nat} (hsz:e.size=size) {a:Addr} {len:Nat} {F:List Value->Option (DataW H×List MemPlace)} (hF: ∀cs y,F cs=some y-> ∃x:e.den,cu w (fun b=>b<w.heap.size) e x cs/\wfD e x)
  (h: ∀i,i<len-> ∃y,(w.cells? 0 (a.add (i*size)) size).bind F=some y): ∀(k j:Nat),j+k<=len->
  ∃(xs:List e.den) (zs:List Value),xs.length=k/\dA (cu w (fun b=>b<w.heap.size) e) e.size xs zs/\(∀m (hm:m<zs.length),w.cell? (a.add (j*size+m))=some zs[m])/\ ∀x∈xs,wfD e x
 |0,j,_=>⟨[],[],rfl,rfl,fun m hm=>absurd hm (by simp),fun x hx=>by cases hx⟩
 |k+1,j,hj=>by
  obtain⟨xs,zs,h1,h2,h3,h4⟩:=RY hsz hF h k (j+1) (by omega)
  obtain⟨y,hy⟩:=h j (by omega)
  obtain⟨c,hc,hy⟩:=Option.bind_eq_some_iff.1 hy
  obtain⟨x,hx,hwf⟩:=hF c y hy
  have hcl:c.length=e.size:=cu.length e x c hx
  have hcell: ∀m (hm:m<c.length),w.cell? (a.add (j*size+m))=some c[m]:=fun m hm=>by
   simp only[World.cells?,Nat.zero_le,if_true]at hc
   have:=mapM_some_get hc m m (by rw[List.getElem?_range (by omega)])
   rw[List.getElem?_eq_getElem hm]at this
   rw[<-this,addr_add_add]
  refine⟨x::xs,c++zs,by simp[h1],⟨c,zs,rfl,hcl,hx,h2⟩,fun m hm=> ?_,fun z hz=> ?_⟩
  ·by_cases hmc:m<c.length
   ·rw[List.getElem_append_left hmc];exact hcell m hmc
   ·rw[List.getElem_append_right (by omega)]
    have:=h3 (m-c.length) (by simp at hm;omega)
    rw[<-this,hcl,hsz]
    congr 2
    have:size<=m:=by omega
    rw[Nat.add_mul];omega
  ·rcases List.mem_cons.1 hz with rfl|hz
   ·exact hwf
   ·exact h4 z hz
theorem Jt (hT:TOk P T) {n:Nat} {cs:List Value} (ih: ∀(t:TypeId) (cs:List Value) (y:DataW H×List MemPlace) (ty:Ty),(T.at t).known=true->(T.at t).ty=some ty->DataW.trod enc P w 0 spare held n t cs=some y-> ∃x:ty.den,cu w (fun b=>b<w.heap.size) ty x cs/\wfD ty x):
  ∀(fs:List (Nat×TypeId)) (off:Nat) (ty:Ty),gV T off fs=some ty->(∀p∈fs,∃y,DataW.trod enc P w 0 spare held n p.2 ((cs.drop p.1).take (P.cellsOf p.2))=some y)->
   ∃x:ty.den,cu w (fun b=>b<w.heap.size) ty x ((cs.drop off).take ty.size)/\wfD ty x
 |[],off,ty,h,_=>by
  simp only[gV,Option.some.injEq]at h
  subst h
  exact⟨(),by simp[cu,Ty.size],trivial⟩
 |(o,ft)::rest,off,ty,h,hall=>by
  simp only[gV]at h
  split at h
  ·rename_i ho
   split at h
   ·rename_i a ha
    split at h
    ·rename_i hs
     split at h
     ·rename_i b hb
      simp only[Option.some.injEq]at h
      subst h ho
      obtain⟨y,hy⟩:=hall (o,ft) (by simp)
      simp only[zH hT hs.2,<-hs.1]at hy
      obtain⟨x1,h1,h2⟩:=ih ft _ y a hs.2 ha hy
      obtain⟨x2,h3,h4⟩:=Jt hT ih rest _ b hb fun p hp=>hall p (List.mem_cons_of_mem _ hp)
      refine⟨(x1,x2),⟨_,_, ?_,h1,h3⟩,h2,h4⟩
      simp only[Ty.size]
      rw[List.take_add,List.drop_drop]
     ·cases h
    ·cases h
   ·cases h
  ·cases h
theorem Jy (hT:TOk P T) (hK:T.allK=true): ∀(fuel:Nat) (t:TypeId) (cs:List Value) (y:DataW H×List MemPlace) (ty:Ty),(T.at t).known=true->(T.at t).ty=some ty->DataW.trod enc P w 0 spare held fuel t cs=some y->
  ∃x:ty.den,cu w (fun b=>b<w.heap.size) ty x cs/\wfD ty x
 |0,t,cs,y,ty,_,_,h=>by simp[DataW.trod]at h
 |fuel+1,t,cs,y,ty,hk,hty,h=>by
  obtain⟨hinfo,hund,hty2,hsz,-,-,-,-⟩:=hT t hk
  obtain⟨d,hd,hdk⟩:=ahi hund
  have hty3:jc T (T.at t).k=some ty:=by
   rcases hty2 with h1|h1
   ·rw[h1]at hty;cases hty
   ·rw[<-h1,hty]
  have hc:=zH hT hk
  have hsize:=hsz ty hty
  cases d with
  |bool=>
   simp only[iR,Option.some.injEq]at hdk
   rw[<-hdk]at hty3
   simp only[jc,Option.some.injEq]at hty3
   subst hty3
   obtain⟨b,rfl,_⟩:=DataW.trod_bool hd h
   exact⟨b,rfl,trivial⟩
  |int k=>
   simp only[iR,Option.some.injEq]at hdk
   rw[<-hdk]at hty3
   simp only[jc,Option.some.injEq]at hty3
   subst hty3
   obtain⟨b,rfl,_,hw⟩:=DataW.trod_int hd h
   exact⟨b,rfl,hw⟩
  |string=>
   simp only[iR,Option.some.injEq]at hdk
   rw[<-hdk]at hty3
   simp only[jc,Option.some.injEq]at hty3
   subst hty3
   obtain⟨s,rfl,_,hw⟩:=DataW.trod_string hd h
   exact⟨s.data.toList,by simp[cu],(show s.data.toList.length<=maxLen from by rw[Array.length_toList];exact hw)⟩
  |slice e=>
   simp only[iR,Option.some.injEq]at hdk
   rw[<-hdk]at hty3
   simp only[jc,Option.map_eq_some_iff]at hty3
   obtain⟨ety,hety,rfl⟩:=hty3
   have hek:=TT.allK_at T e hK (by rw[hety];rfl)
   have hes:ety.size=(T.at e).size:=(hT e hek).2.2.2.1 ety hety
   have hec:=zH hT hek
   rcases DataW.trod_slice hd h with ⟨rfl,_⟩|⟨a,len,cap,elems,rest,n,hn,rfl,_,_,hl,hm,hlen,hel,_,_⟩
   ·exact⟨[],⟨none,0,[],rfl,Nat.le_refl _,rfl,.inl rfl⟩,Nat.zero_le _,fun x hx=>by cases hx⟩
   ·obtain rfl:n=fuel:=by omega
    have hrow: ∀i,i<len-> ∃y,(w.cells? 0 (a.add (i*P.cellsOf e)) (P.cellsOf e)).bind (DataW.trod enc P w 0 spare held n e)=some y:=fun i hi=>by
     rw[hel i hi,List.getElem?_eq_getElem (by omega)]
     exact⟨_,rfl⟩
    obtain⟨xs,zs,h1,h2,h3,h4⟩:=RY (w:=w) (e:=ety) (hes.trans hec.symm) (fun cs y hy=>Jy hT hK n e cs y ety hek hety hy) hrow len 0 (by omega)
    refine⟨xs,⟨some a,cap,zs,by rw[h1],by omega,h2, ?_⟩,by rw[h1];omega,h4⟩
    by_cases hz:zs=[]
    ·exact .inl hz
    ·have h0:=h3 0 (List.length_pos_iff.2 hz)
     rw[show a.add (0*P.cellsOf e+0)=a by simp[Addr.add]]at h0
     obtain⟨q1,q2⟩:=ajU h0
     obtain⟨ab,ao,asp⟩:=a
     simp only at q1 q2
     subst q2
     refine .inr ⟨ab,ao,rfl,q1,fun j hj=> ?_⟩
     have:=h3 j hj
     rwa [show(0*P.cellsOf e+j)=j by omega,iI]at this
  |struct fs=>
   simp only[iR,Option.some.injEq]at hdk
   rw[<-hdk]at hty3
   simp only[jc]at hty3
   obtain⟨xs,n,hn,_,hlen,hxl,hf⟩:=DataW.trod_struct hd h
   obtain rfl:n=fuel:=by omega
   obtain⟨x,h1,h2⟩:=Jt (P:=P) (T:=T) (w:=w) (enc:=enc) (spare:=spare) (held:=held) (cs:=cs) hT (fun t cs y ty a b c=>Jy hT hK n t cs y ty a b c) _ 0 ty hty3 (fun p hp=>by
    obtain⟨f,hfm,rfl⟩:=List.mem_map.1 hp
    obtain⟨i,hi⟩:=List.getElem?_of_mem hfm
    have:=hf i f (by simpa using hi)
    rw[this,List.getElem?_eq_getElem (by have:=(List.getElem?_eq_some_iff.1 hi).1;simp at this;omega)]
    exact⟨_,rfl⟩)
   refine⟨x, ?_,h2⟩
   rw[List.drop_zero,List.take_of_length_le (by omega)]at h1
   exact h1
  |func a b c=>
   simp only[iR,Option.some.injEq]at hdk
   rw[<-hdk]at hty3
   simp[jc]at hty3
  |array a b=>simp[iR]at hdk
  |_=>
   simp only[iR,Option.some.injEq]at hdk
   rw[<-hdk]at hty3
   simp[jc]at hty3
theorem Jj (hT:TOk P T) (hK:T.allK=true) {t:TypeId} {v:Value} {d:DataW H} {ps:List MemPlace} {r:Reach} {b0:Nat} {ty:Ty} (hty:(T.at t).ty=some ty) (hval:Value.okWide P w r b0 t v) (h:DataW.Trod enc P w 0 spare held t v d ps):
  ∃x:ty.den,VD (iK w fun _=>False) ty x v/\wfD ty x:=by
 have hk:=TT.allK_at T t hK (by rw[hty];rfl)
 obtain⟨fuel,hf⟩:=h
 obtain⟨x,h1,h2⟩:=Jy hT hK fuel t _ _ ty hk hty hf
 have h3:cu w (iK w fun _=>False).free ty x v.cells.toList:=cu.mono (fun b hb=>⟨⟨hb,(by rintro ⟨i,o,h,_⟩;simp[iK,aX]at h),by simp[iK],fun h=>h⟩,rfl⟩) ty x _ h1
 refine⟨x, ?_,h2⟩
 obtain⟨hinfo,hund,hty2,-⟩:=hT t hk
 obtain⟨d',hd,hdk⟩:=ahi hund
 have hty3:jc T (T.at t).k=some ty:=by
  rcases hty2 with h1|h1
  ·rw[h1]at hty;cases hty
  ·rw[<-h1,hty]
 cases ha:ty.isAgg with
 |true=>
  cases d' with
  |struct fs=>
   obtain⟨cs,rfl,_⟩:=Go.WideShapes.okWide_struct hd hval
   exact(VD.agg ha).2 ⟨cs,rfl,h3⟩
  |array a b=>simp[iR]at hdk
  |slice e=>
   simp only[iR,Option.some.injEq]at hdk
   rw[<-hdk]at hty3
   simp only[jc,Option.map_eq_some_iff]at hty3
   obtain⟨ety,_,rfl⟩:=hty3
   cases ha
  |_=>
   simp only[iR,Option.some.injEq]at hdk
   rw[<-hdk]at hty3
   simp[jc]at hty3
   all_goals (subst hty3;cases ha)
 |false=>
  rw[VD.leaf ha]
  have hv:v.cells= #[v]:=by
   cases d' with
   |struct fs=>
    simp only[iR,Option.some.injEq]at hdk
    rw[<-hdk]at hty3
    simp only[jc]at hty3
    exfalso
    cases hfs:(fs.toList.map fun f=>(f.offset,f.type))with
    |nil=>rw[hfs]at hty3;simp only[gV,Option.some.injEq]at hty3;subst hty3;cases ha
    |cons p l=>
     rw[hfs]at hty3
     simp only[gV]at hty3
     split at hty3
     ·split at hty3
      ·split at hty3
       ·split at hty3
        ·simp only[Option.some.injEq]at hty3;subst hty3;cases ha
        ·cases hty3
       ·cases hty3
      ·cases hty3
     ·cases hty3
   |array a b=>simp[iR]at hdk
   |bool=>obtain⟨b,rfl⟩:=Go.WideShapes.okWide_bool hd hval;rfl
   |int k=>obtain⟨b,rfl⟩:=Go.WideShapes.okWide_int hd hval;rfl
   |string=>obtain⟨b,rfl⟩:=Go.WideShapes.okWide_string hd hval;rfl
   |slice e=>obtain⟨a,b,c,rfl⟩:=Go.WideShapes.okWide_slice hd hval;rfl
   |_=>
    simp only[iR,Option.some.injEq]at hdk
    rw[<-hdk]at hty3
    simp[jc]at hty3
  rw[hv]at h3
  exact h3
end
end Go.Proofs.YtihafdllichkeaaGreatDoor
namespace Go.Proofs.YtihafdllichkeaaGreatDoor
open Go.RowKit
set_option linter.unusedVariables false
set_option maxRecDepth 100000
def dL:TI:=⟨true,.fn,1,8,none,[.nilfn],false,false,true⟩
def ti2:TI:=⟨true,(.int .i64),1,8,some (.int .i64),[.val (.int .i64) 0],false,false,true⟩
def ti3:TI:=ti2
def ti4:TI:=⟨true,.bool,1,1,some .bool,[.val .bool false],false,false,true⟩
def ti5:TI:=⟨true,(.int .u8),1,1,some (.int .u8),[.val (.int .u8) 0],false,false,true⟩
def ti7:TI:=⟨true,(.struct [(0,2),(1,3),(2,4),(3,6)]),4,24,none,[.val (.int .i64) 0,.val (.int .i64) 0,.val .bool false,.val (.int .u8) 0],false,false,true⟩
def ti8:TI:=ti7
def ti9:TI:=⟨true,.str,1,16,some .str,[.val .str []],false,false,true⟩
def auk:TI:=ti9
def at6:TI:=ti9
def aiu:TI:=⟨true,(.int .u64),1,8,some (.int .u64),[.val (.int .u64) 0],false,false,true⟩
def aoJ:TI:=⟨true,(.struct [(0,9),(1,12)]),2,24,some (.pair .str (.pair (.int .u64) .unit)),[.val .str [],.val (.int .u64) 0],false,false,true⟩
def aui:TI:=aoJ
def auY:TI:=⟨true,(.ptr 342),1,8,none,[.nilp],false,false,true⟩
def auS:TI:=⟨true,(.ptr 345),1,8,none,[.nilp],false,false,true⟩
def auI:TI:=⟨true,(.ptr 352),1,8,none,[.nilp],false,false,true⟩
def apN:TI:=⟨true,(.struct [(0,17)]),1,8,none,[.nilp],false,false,true⟩
def aub:TI:=apN
def alH:TI:=⟨true,(.int .i32),1,4,some (.int .i32),[.val (.int .i32) 0],false,false,true⟩
def atL:TI:=dL
def auV:TI:=dL
def atw:TI:=⟨true,(.struct [(0,3),(1,3),(2,3),(3,3),(4,9),(5,4),(6,9),(7,3),(8,3)]),9,88,some (.pair (.int .i64) (.pair (.int .i64) (.pair (.int .i64) (.pair (.int .i64) (.pair .str (.pair .bool (.pair .str (.pair (.int .i64) (.pair (.int .i64) .unit))))))))),[.val (.int .i64) 0,.val (.int .i64) 0,.val (.int .i64) 0,.val (.int .i64) 0,.val .str [],.val .bool false,.val .str [],.val (.int .i64) 0,.val (.int .i64) 0],false,false,true⟩
def atn:TI:=⟨true,(.struct [(0,3),(1,3),(2,3),(3,3),(4,9),(5,4),(6,9),(7,3),(8,3)]),9,88,some (.pair (.int .i64) (.pair (.int .i64) (.pair (.int .i64) (.pair (.int .i64) (.pair .str (.pair .bool (.pair .str (.pair (.int .i64) (.pair (.int .i64) .unit))))))))),[.val (.int .i64) 0,.val (.int .i64) 0,.val (.int .i64) 0,.val (.int .i64) 0,.val .str [],.val .bool false,.val .str [],.val (.int .i64) 0,.val (.int .i64) 0],true,false,true⟩
def atx:TI:=ti2
def atH:TI:=dL
def atD:TI:=dL
def auc:TI:=dL
def atr:TI:=dL
def atC:TI:=dL
def atq:TI:=dL
def aus:TI:=⟨true,(.slice 9),1,24,some (.list .str),[.nils],false,false,true⟩
def auQ:TI:=dL
def aul:TI:=⟨true,(.slice 59),1,24,some (.list (.pair .str (.pair .str .unit))),[.nils],false,false,true⟩
def auq:TI:=dL
def atm:TI:=⟨true,(.ptr 166),1,8,none,[.nilp],false,false,true⟩
def auF:TI:=dL
def atQ:TI:=dL
def aug:TI:=⟨true,(.slice 46),1,24,some (.list (.pair (.int .i64) (.pair (.int .i64) (.pair (.int .i64) (.pair .bool .unit))))),[.nils],false,false,true⟩
def atz:TI:=dL
def atY:TI:=dL
def auh:TI:=⟨true,(.struct [(0,3),(1,3),(2,3),(3,4)]),4,32,some (.pair (.int .i64) (.pair (.int .i64) (.pair (.int .i64) (.pair .bool .unit)))),[.val (.int .i64) 0,.val (.int .i64) 0,.val (.int .i64) 0,.val .bool false],false,false,true⟩
def auB:TI:=⟨true,(.struct [(0,3),(1,3),(2,3),(3,4)]),4,32,some (.pair (.int .i64) (.pair (.int .i64) (.pair (.int .i64) (.pair .bool .unit)))),[.val (.int .i64) 0,.val (.int .i64) 0,.val (.int .i64) 0,.val .bool false],true,false,true⟩
def auM:TI:=dL
def auE:TI:=dL
def aur:TI:=dL
def auP:TI:=dL
def auO:TI:=⟨true,(.slice 55),1,24,some (.list (.pair (.int .i64) (.pair (.int .i64) (.pair .str .unit)))),[.nils],false,false,true⟩
def auK:TI:=dL
def auG:TI:=dL
def auD:TI:=⟨true,(.struct [(0,3),(1,3),(2,9)]),3,32,some (.pair (.int .i64) (.pair (.int .i64) (.pair .str .unit))),[.val (.int .i64) 0,.val (.int .i64) 0,.val .str []],false,false,true⟩
def auA:TI:=⟨true,(.struct [(0,3),(1,3),(2,9)]),3,32,some (.pair (.int .i64) (.pair (.int .i64) (.pair .str .unit))),[.val (.int .i64) 0,.val (.int .i64) 0,.val .str []],true,false,true⟩
def atK:TI:=dL
def at1:TI:=dL
def atJ:TI:=⟨true,(.struct [(0,9),(1,9)]),2,32,some (.pair .str (.pair .str .unit)),[.val .str [],.val .str []],false,false,true⟩
def aup:TI:=⟨true,(.struct [(0,9),(1,9)]),2,32,some (.pair .str (.pair .str .unit)),[.val .str [],.val .str []],true,false,true⟩
def ato:TI:=dL
def auN:TI:=dL
def auj:TI:=dL
def auv:TI:=dL
def aty:TI:=dL
def atS:TI:=dL
def auH:TI:=dL
def att:TI:=⟨true,(.ptr 72),1,8,none,[.nilp],false,false,true⟩
def auy:TI:=dL
def aoe:TI:=⟨true,(.struct [(0,9),(1,3),(2,3),(3,42),(4,46),(8,4)]),9,96,some (.pair .str (.pair (.int .i64) (.pair (.int .i64) (.pair (.list (.pair (.int .i64) (.pair (.int .i64) (.pair (.int .i64) (.pair .bool .unit))))) (.pair (.pair (.int .i64) (.pair (.int .i64) (.pair (.int .i64) (.pair .bool .unit)))) (.pair .bool .unit)))))),[.val .str [],.val (.int .i64) 0,.val (.int .i64) 0,.nils,.val (.int .i64) 0,.val (.int .i64) 0,.val (.int .i64) 0,.val .bool false,.val .bool false],false,false,true⟩
def auU:TI:=aoe
def auT:TI:=⟨true,(.slice 150),1,24,some (.list (.pair (.int .i64) (.pair (.int .i64) .unit))),[.nils],false,false,true⟩
def auL:TI:=dL
def atW:TI:=dL
def atv:TI:=dL
def atX:TI:=dL
def at7:TI:=⟨true,(.slice 3),1,24,some (.list (.int .i64)),[.nils],false,false,true⟩
def ass:TI:=⟨true,(.struct [(0,9),(1,79),(2,4)]),3,48,some (.pair .str (.pair (.list (.int .i64)) (.pair .bool .unit))),[.val .str [],.nils,.val .bool false],false,false,true⟩
def atE:TI:=ass
def auX:TI:=dL
def aua:TI:=dL
def atU:TI:=dL
def aue:TI:=dL
def aut:TI:=dL
def auC:TI:=dL
def atP:TI:=⟨true,(.slice 129),1,24,some (.list (.pair .str (.pair .bool .unit))),[.nils],false,false,true⟩
def auz:TI:=⟨true,(.struct [(0,3),(1,89),(2,4)]),3,40,some (.pair (.int .i64) (.pair (.list (.pair .str (.pair .bool .unit))) (.pair .bool .unit))),[.val (.int .i64) 0,.nils,.val .bool false],false,false,true⟩
def auJ:TI:=⟨true,(.struct [(0,3),(1,89),(2,4)]),3,40,some (.pair (.int .i64) (.pair (.list (.pair .str (.pair .bool .unit))) (.pair .bool .unit))),[.val (.int .i64) 0,.nils,.val .bool false],false,false,false⟩
def atB:TI:=dL
def auW:TI:=⟨true,(.slice 105),1,24,some (.list (.pair (.int .i64) (.pair .str (.pair (.int .i64) (.pair (.int .i64) .unit))))),[.nils],false,false,true⟩
def aum:TI:=dL
def atu:TI:=⟨true,(.map 3 3),1,8,none,[.undef],false,false,true⟩
def atZ:TI:=dL
def aux:TI:=dL
def atI:TI:=dL
def aqg:TI:=⟨true,(.slice 103),1,24,some (.list (.pair (.int .i64) (.pair (.int .i64) (.pair (.int .i64) (.pair (.int .i64) .unit))))),[.nils],false,false,true⟩
def aoA:TI:=dL
def ao9:TI:=⟨true,(.struct [(0,3),(1,3),(2,3),(3,3)]),4,32,some (.pair (.int .i64) (.pair (.int .i64) (.pair (.int .i64) (.pair (.int .i64) .unit)))),[.val (.int .i64) 0,.val (.int .i64) 0,.val (.int .i64) 0,.val (.int .i64) 0],false,false,true⟩
def aqz:TI:=⟨true,(.struct [(0,3),(1,3),(2,3),(3,3)]),4,32,some (.pair (.int .i64) (.pair (.int .i64) (.pair (.int .i64) (.pair (.int .i64) .unit)))),[.val (.int .i64) 0,.val (.int .i64) 0,.val (.int .i64) 0,.val (.int .i64) 0],true,false,true⟩
def aoU:TI:=⟨true,(.struct [(0,3),(1,9),(2,3),(3,3)]),4,40,some (.pair (.int .i64) (.pair .str (.pair (.int .i64) (.pair (.int .i64) .unit)))),[.val (.int .i64) 0,.val .str [],.val (.int .i64) 0,.val (.int .i64) 0],false,false,true⟩
def ap8:TI:=⟨true,(.struct [(0,3),(1,9),(2,3),(3,3)]),4,40,some (.pair (.int .i64) (.pair .str (.pair (.int .i64) (.pair (.int .i64) .unit)))),[.val (.int .i64) 0,.val .str [],.val (.int .i64) 0,.val (.int .i64) 0],true,false,true⟩
def asi:TI:=dL
def apf:TI:=dL
def asz:TI:=dL
def apW:TI:=⟨true,(.slice 4),1,24,some (.list .bool),[.nils],false,false,true⟩
def aqS:TI:=dL
def an9:TI:=⟨true,(.slice 5),1,24,some (.list (.int .u8)),[.nils],false,false,true⟩
def aq5:TI:=⟨true,(.ptr 117),1,8,none,[.nilp],false,false,true⟩
def apL:TI:=dL
def aoD:TI:=dL
def akL:TI:=⟨true,(.struct [(0,9),(1,42),(2,91),(5,94),(6,100)]),7,128,some (.pair .str (.pair (.list (.pair (.int .i64) (.pair (.int .i64) (.pair (.int .i64) (.pair .bool .unit))))) (.pair (.pair (.int .i64) (.pair (.list (.pair .str (.pair .bool .unit))) (.pair .bool .unit))) (.pair (.list (.pair (.int .i64) (.pair .str (.pair (.int .i64) (.pair (.int .i64) .unit))))) (.pair (.list (.pair (.int .i64) (.pair (.int .i64) (.pair (.int .i64) (.pair (.int .i64) .unit))))) .unit))))),[.val .str [],.nils,.val (.int .i64) 0,.nils,.val .bool false,.nils,.nils],false,false,true⟩
def aqr:TI:=akL
def ar5:TI:=dL
def aoc:TI:=dL
def apC:TI:=⟨true,(.ptr 195),1,8,none,[.nilp],false,false,true⟩
def asq:TI:=dL
def aqO:TI:=dL
def asO:TI:=dL
def aqb:TI:=dL
def arT:TI:=dL
def apc:TI:=dL
def asJ:TI:=dL
def arw:TI:=⟨true,(.struct [(0,9),(1,4)]),2,24,some (.pair .str (.pair .bool .unit)),[.val .str [],.val .bool false],false,false,true⟩
def asB:TI:=⟨true,(.struct [(0,9),(1,4)]),2,24,some (.pair .str (.pair .bool .unit)),[.val .str [],.val .bool false],true,false,true⟩
def apU:TI:=⟨true,(.ptr 132),1,8,none,[.nilp],false,false,true⟩
def asf:TI:=⟨true,(.struct [(0,130),(1,111)]),2,32,none,[.nilp,.nils],false,false,true⟩
def arY:TI:=⟨true,(.struct [(0,130),(1,111)]),2,32,none,[.nilp,.nils],false,true,true⟩
def aoR:TI:=dL
def aql:TI:=dL
def apR:TI:=dL
def arD:TI:=dL
def aqP:TI:=dL
def aqi:TI:=dL
def ast:TI:=dL
def ar8:TI:=dL
def aoi:TI:=dL
def aoB:TI:=dL
def aqf:TI:=dL
def aqy:TI:=dL
def aqE:TI:=⟨true,(.struct [(0,3),(1,3)]),2,16,some (.pair (.int .i64) (.pair (.int .i64) .unit)),[.val (.int .i64) 0,.val (.int .i64) 0],false,false,true⟩
def aoQ:TI:=⟨true,(.struct [(0,3),(1,3)]),2,16,some (.pair (.int .i64) (.pair (.int .i64) .unit)),[.val (.int .i64) 0,.val (.int .i64) 0],true,false,true⟩
def apI:TI:=dL
def ar1:TI:=dL
def apY:TI:=dL
def apG:TI:=dL
def asu:TI:=dL
def arP:TI:=⟨true,(.ptr 227),1,8,none,[.nilp],false,false,true⟩
def aqL:TI:=dL
def ao4:TI:=dL
def arB:TI:=dL
def aqJ:TI:=dL
def aoy:TI:=dL
def arf:TI:=dL
def akM:TI:=⟨true,(.struct [(0,3),(1,37)]),2,32,some (.pair (.int .i64) (.pair (.list (.pair .str (.pair .str .unit))) .unit)),[.val (.int .i64) 0,.nils],false,false,true⟩
def aoa:TI:=akM
def aqp:TI:=dL
def arV:TI:=dL
def aoO:TI:=dL
def aok:TI:=dL
def ary:TI:=dL
def an8:TI:=dL
def apt:TI:=dL
def asA:TI:=⟨true,(.ptr 177),1,8,none,[.nilp],false,false,true⟩
def akR:TI:=⟨true,(.struct [(0,94),(1,3),(2,100),(3,3),(4,3)]),5,72,some (.pair (.list (.pair (.int .i64) (.pair .str (.pair (.int .i64) (.pair (.int .i64) .unit))))) (.pair (.int .i64) (.pair (.list (.pair (.int .i64) (.pair (.int .i64) (.pair (.int .i64) (.pair (.int .i64) .unit))))) (.pair (.int .i64) (.pair (.int .i64) .unit))))),[.nils,.val (.int .i64) 0,.nils,.val (.int .i64) 0,.val (.int .i64) 0],false,false,true⟩
def arL:TI:=akR
def apB:TI:=dL
def arC:TI:=dL
def aof:TI:=dL
def aoL:TI:=aiu
def aqA:TI:=dL
def arN:TI:=⟨true,(.ptr 185),1,8,none,[.nilp],false,false,true⟩
def akO:TI:=⟨true,(.struct [(0,94),(1,9),(2,100),(3,3),(4,3),(5,3)]),6,88,some (.pair (.list (.pair (.int .i64) (.pair .str (.pair (.int .i64) (.pair (.int .i64) .unit))))) (.pair .str (.pair (.list (.pair (.int .i64) (.pair (.int .i64) (.pair (.int .i64) (.pair (.int .i64) .unit))))) (.pair (.int .i64) (.pair (.int .i64) (.pair (.int .i64) .unit)))))),[.nils,.val .str [],.nils,.val (.int .i64) 0,.val (.int .i64) 0,.val (.int .i64) 0],false,false,true⟩
def apX:TI:=akO
def asQ:TI:=dL
def aq9:TI:=dL
def apZ:TI:=dL
def aod:TI:=dL
def aop:TI:=dL
def arU:TI:=dL
def aqt:TI:=dL
def ara:TI:=dL
def akH:TI:=⟨true,(.struct [(0,3),(1,79)]),2,32,some (.pair (.int .i64) (.pair (.list (.int .i64)) .unit)),[.val (.int .i64) 0,.nils],false,false,true⟩
def arF:TI:=akH
def aqv:TI:=dL
def ap3:TI:=dL
def aqa:TI:=dL
def aqC:TI:=dL
def aqT:TI:=dL
def aqZ:TI:=⟨true,(.ptr 5),1,8,none,[.nilp],false,false,true⟩
def ar6:TI:=dL
def ap5:TI:=dL
def aqj:TI:=dL
def aoM:TI:=dL
def ar9:TI:=dL
def as1:TI:=dL
def apS:TI:=dL
def aqX:TI:=⟨true,(.slice 215),1,24,some (.list (.pair (.int .i64) (.pair (.int .i64) (.pair (.int .i64) (.pair (.int .i64) (.pair .bool .unit)))))),[.nils],false,false,true⟩
def aqQ:TI:=dL
def apF:TI:=⟨true,(.struct [(0,3),(1,3),(2,3),(3,3),(4,4)]),5,40,some (.pair (.int .i64) (.pair (.int .i64) (.pair (.int .i64) (.pair (.int .i64) (.pair .bool .unit))))),[.val (.int .i64) 0,.val (.int .i64) 0,.val (.int .i64) 0,.val (.int .i64) 0,.val .bool false],false,false,true⟩
def asy:TI:=⟨true,(.struct [(0,3),(1,3),(2,3),(3,3),(4,4)]),5,40,some (.pair (.int .i64) (.pair (.int .i64) (.pair (.int .i64) (.pair (.int .i64) (.pair .bool .unit))))),[.val (.int .i64) 0,.val (.int .i64) 0,.val (.int .i64) 0,.val (.int .i64) 0,.val .bool false],true,false,true⟩
def arc:TI:=dL
def arn:TI:=dL
def aqR:TI:=⟨true,(.ptr 268),1,8,none,[.nilp],false,false,true⟩
def apP:TI:=dL
def aqK:TI:=dL
def arO:TI:=⟨true,(.struct [(0,4),(1,4),(2,9)]),3,24,some (.pair .bool (.pair .bool (.pair .str .unit))),[.val .bool false,.val .bool false,.val .str []],false,false,true⟩
def aqw:TI:=⟨true,(.struct [(0,4),(1,4),(2,9)]),3,24,some (.pair .bool (.pair .bool (.pair .str .unit))),[.val .bool false,.val .bool false,.val .str []],true,false,true⟩
def ao6:TI:=dL
def aov:TI:=dL
def apK:TI:=dL
def akv:TI:=⟨true,(.struct [(0,73),(1,4),(2,3)]),3,40,some (.pair (.list (.pair (.int .i64) (.pair (.int .i64) .unit))) (.pair .bool (.pair (.int .i64) .unit))),[.nils,.val .bool false,.val (.int .i64) 0],false,false,true⟩
def ao5:TI:=akv
def asH:TI:=dL
def arb:TI:=dL
def ap1:TI:=dL
def arW:TI:=dL
def asL:TI:=dL
def ari:TI:=dL
def aol:TI:=dL
def as5:TI:=dL
def arj:TI:=dL
def asn:TI:=dL
def aq0:TI:=dL
def aq3:TI:=dL
def asK:TI:=dL
def aq6:TI:=dL
def ard:TI:=ti2
def aqx:TI:=dL
def asX:TI:=dL
def aoo:TI:=dL
def asC:TI:=dL
def asr:TI:=dL
def apQ:TI:=⟨true,(.int .u32),1,4,some (.int .u32),[.val (.int .u32) 0],false,false,true⟩
def ar4:TI:=dL
def aqY:TI:=aiu
def aqm:TI:=dL
def arK:TI:=dL
def aqN:TI:=dL
def apD:TI:=dL
def apn:TI:=dL
def asT:TI:=dL
def asG:TI:=⟨true,(.slice 222),1,24,some (.list (.pair .bool (.pair .bool (.pair .str .unit)))),[.nils],false,false,true⟩
def asZ:TI:=dL
def apJ:TI:=dL
def asb:TI:=⟨true,(.ptr 264),1,8,none,[.nilp],false,false,true⟩
def akD:TI:=⟨true,(.struct [(0,212),(1,79)]),2,48,some (.pair (.list (.pair (.int .i64) (.pair (.int .i64) (.pair (.int .i64) (.pair (.int .i64) (.pair .bool .unit)))))) (.pair (.list (.int .i64)) .unit)),[.nils,.nils],false,false,true⟩
def arq:TI:=akD
def arQ:TI:=dL
def arS:TI:=⟨true,(.ptr 215),1,8,none,[.nilp],false,false,true⟩
def ak5:TI:=⟨true,(.struct [(0,9),(1,212),(2,96)]),3,48,none,[.val .str [],.nils,.undef],false,false,true⟩
def ao7:TI:=ak5
def apT:TI:=dL
def aq1:TI:=dL
def ark:TI:=dL
def aqF:TI:=dL
def apv:TI:=dL
def aqM:TI:=dL
def aoV:TI:=dL
def aq8:TI:=dL
def aoE:TI:=dL
def aog:TI:=dL
def aqB:TI:=dL
def apl:TI:=aiu
def apA:TI:=dL
def apm:TI:=dL
def aob:TI:=dL
def api:TI:=⟨true,(.ptr 3),1,8,none,[.nilp],false,false,true⟩
def aru:TI:=dL
def apE:TI:=dL
def aoh:TI:=dL
def apx:TI:=dL
def aoG:TI:=dL
def asM:TI:=dL
def asw:TI:=dL
def aot:TI:=dL
def as7:TI:=dL
def arJ:TI:=dL
def aor:TI:=dL
def aoH:TI:=dL
def aqc:TI:=dL
def asP:TI:=dL
def apo:TI:=dL
def apj:TI:=dL
def asI:TI:=dL
def apr:TI:=dL
def arE:TI:=⟨true,(.ptr 283),1,8,none,[.nilp],false,false,true⟩
def asE:TI:=dL
def apO:TI:=dL
def apg:TI:=dL
def aps:TI:=dL
def ao8:TI:=dL
def aoX:TI:=⟨true,(.slice 81),1,24,some (.list (.pair .str (.pair (.list (.int .i64)) (.pair .bool .unit)))),[.nils],false,false,true⟩
def ape:TI:=dL
def aqD:TI:=dL
def aqh:TI:=dL
def asj:TI:=dL
def ap9:TI:=dL
def aoF:TI:=dL
def ap6:TI:=⟨true,(.ptr 324),1,8,none,[.nilp],false,false,true⟩
def apM:TI:=dL
def aks:TI:=⟨true,(.struct [(0,5),(1,5)]),2,2,some (.pair (.int .u8) (.pair (.int .u8) .unit)),[.val (.int .u8) 0,.val (.int .u8) 0],false,false,true⟩
def aso:TI:=aks
def ars:TI:=dL
def apV:TI:=dL
def aoq:TI:=dL
def aq7:TI:=dL
def akp:TI:=⟨true,(.struct [(0,17),(1,17),(2,17),(3,9)]),4,40,none,[.nilp,.nilp,.nilp,.val .str []],false,false,true⟩
def apk:TI:=akp
def aoP:TI:=dL
def ase:TI:=alH
def asW:TI:=alH
def akm:TI:=⟨true,(.struct [(0,12),(1,12),(2,249),(3,346),(4,5),(5,5),(6,347),(7,348),(8,204),(9,349),(10,350)]),11,48,none,[.val (.int .u64) 0,.val (.int .u64) 0,.val (.int .u32) 0,.val (.int .u8) 0,.val (.int .u8) 0,.val (.int .u8) 0,.val (.int .u8) 0,.nilfn,.nilp,.val (.int .i32) 0,.val (.int .i32) 0],false,false,true⟩
def ar2:TI:=akm
def tt:TT:=(.node 172 ary (.node 85 aue (.node 43 atz (.node 22 atL (.node 11 at6 (.node 5 ti5 (.node 3 ti3 (.node 2 ti2 (.node 1 dL .nil .nil) .nil) (.node 4 ti4 .nil .nil)) (.node 9 ti9 (.node 8 ti8 (.node 7 ti7 .nil .nil) .nil) (.node 10 auk .nil .nil))) (.node 16 auS (.node 14 aui (.node 13 aoJ (.node 12 aiu .nil .nil) .nil) (.node 15 auY .nil .nil)) (.node 19 aub (.node 18 apN (.node 17 auI .nil .nil) .nil) (.node 21 alH .nil .nil)))) (.node 34 atq (.node 28 atH (.node 25 atn (.node 24 atw (.node 23 auV .nil .nil) .nil) (.node 26 atx .nil .nil)) (.node 32 atr (.node 31 auc (.node 29 atD .nil .nil) .nil) (.node 33 atC .nil .nil))) (.node 39 atm (.node 37 aul (.node 36 auQ (.node 35 aus .nil .nil) .nil) (.node 38 auq .nil .nil)) (.node 41 atQ (.node 40 auF .nil .nil) (.node 42 aug .nil .nil))))) (.node 65 auv (.node 53 auG (.node 48 auE (.node 46 auB (.node 45 auh (.node 44 atY .nil .nil) .nil) (.node 47 auM .nil .nil)) (.node 51 auO (.node 50 auP (.node 49 aur .nil .nil) .nil) (.node 52 auK .nil .nil))) (.node 58 atJ (.node 56 atK (.node 55 auA (.node 54 auD .nil .nil) .nil) (.node 57 at1 .nil .nil)) (.node 63 auN (.node 61 ato (.node 59 aup .nil .nil) .nil) (.node 64 auj .nil .nil)))) (.node 76 atW (.node 70 auy (.node 68 auH (.node 67 atS (.node 66 aty .nil .nil) .nil) (.node 69 att .nil .nil)) (.node 73 auT (.node 72 auU (.node 71 aoe .nil .nil) .nil) (.node 75 auL .nil .nil))) (.node 81 atE (.node 79 at7 (.node 78 atX (.node 77 atv .nil .nil) .nil) (.node 80 ass .nil .nil)) (.node 83 aua (.node 82 auX .nil .nil) (.node 84 atU .nil .nil)))))) (.node 127 asJ (.node 107 apf (.node 97 atZ (.node 91 auJ (.node 89 atP (.node 88 auC (.node 86 aut .nil .nil) .nil) (.node 90 auz .nil .nil)) (.node 95 aum (.node 94 auW (.node 93 atB .nil .nil) .nil) (.node 96 atu .nil .nil))) (.node 102 ao9 (.node 100 aqg (.node 99 atI (.node 98 aux .nil .nil) .nil) (.node 101 aoA .nil .nil)) (.node 105 ap8 (.node 104 aoU (.node 103 aqz .nil .nil) .nil) (.node 106 asi .nil .nil)))) (.node 118 ar5 (.node 112 aq5 (.node 110 aqS (.node 109 apW (.node 108 asz .nil .nil) .nil) (.node 111 an9 .nil .nil)) (.node 116 akL (.node 115 aoD (.node 113 apL .nil .nil) .nil) (.node 117 aqr .nil .nil))) (.node 123 asO (.node 121 asq (.node 120 apC (.node 119 aoc .nil .nil) .nil) (.node 122 aqO .nil .nil)) (.node 125 arT (.node 124 aqb .nil .nil) (.node 126 apc .nil .nil))))) (.node 150 aoQ (.node 140 aqP (.node 132 arY (.node 130 apU (.node 129 asB (.node 128 arw .nil .nil) .nil) (.node 131 asf .nil .nil)) (.node 135 apR (.node 134 aql (.node 133 aoR .nil .nil) .nil) (.node 139 arD .nil .nil))) (.node 146 aoB (.node 143 ar8 (.node 142 ast (.node 141 aqi .nil .nil) .nil) (.node 145 aoi .nil .nil)) (.node 148 aqy (.node 147 aqf .nil .nil) (.node 149 aqE .nil .nil)))) (.node 162 aqJ (.node 156 asu (.node 154 apY (.node 153 ar1 (.node 152 apI .nil .nil) .nil) (.node 155 apG .nil .nil)) (.node 159 ao4 (.node 158 aqL (.node 157 arP .nil .nil) .nil) (.node 160 arB .nil .nil))) (.node 168 aqp (.node 165 akM (.node 164 arf (.node 163 aoy .nil .nil) .nil) (.node 166 aoa .nil .nil)) (.node 170 aoO (.node 169 arV .nil .nil) (.node 171 aok .nil .nil))))))) (.node 253 arK (.node 214 apF (.node 192 aqt (.node 182 aqA (.node 177 arL (.node 175 asA (.node 174 apt (.node 173 an8 .nil .nil) .nil) (.node 176 akR .nil .nil)) (.node 180 aof (.node 179 arC (.node 178 apB .nil .nil) .nil) (.node 181 aoL .nil .nil))) (.node 187 aq9 (.node 185 apX (.node 184 akO (.node 183 arN .nil .nil) .nil) (.node 186 asQ .nil .nil)) (.node 190 aop (.node 189 aod (.node 188 apZ .nil .nil) .nil) (.node 191 arU .nil .nil)))) (.node 205 ar6 (.node 198 ap3 (.node 195 arF (.node 194 akH (.node 193 ara .nil .nil) .nil) (.node 197 aqv .nil .nil)) (.node 203 aqT (.node 202 aqC (.node 200 aqa .nil .nil) .nil) (.node 204 aqZ .nil .nil))) (.node 210 as1 (.node 208 aoM (.node 207 aqj (.node 206 ap5 .nil .nil) .nil) (.node 209 ar9 .nil .nil)) (.node 212 aqX (.node 211 apS .nil .nil) (.node 213 aqQ .nil .nil))))) (.node 233 ari (.node 224 aov (.node 219 apP (.node 217 arn (.node 216 arc (.node 215 asy .nil .nil) .nil) (.node 218 aqR .nil .nil)) (.node 222 aqw (.node 221 arO (.node 220 aqK .nil .nil) .nil) (.node 223 ao6 .nil .nil))) (.node 229 arb (.node 227 ao5 (.node 226 akv (.node 225 apK .nil .nil) .nil) (.node 228 asH .nil .nil)) (.node 231 arW (.node 230 ap1 .nil .nil) (.node 232 asL .nil .nil)))) (.node 244 aqx (.node 238 aq0 (.node 236 arj (.node 235 as5 (.node 234 aol .nil .nil) .nil) (.node 237 asn .nil .nil)) (.node 241 aq6 (.node 240 asK (.node 239 aq3 .nil .nil) .nil) (.node 242 ard .nil .nil))) (.node 249 apQ (.node 247 asC (.node 246 aoo (.node 245 asX .nil .nil) .nil) (.node 248 asr .nil .nil)) (.node 251 aqY (.node 250 ar4 .nil .nil) (.node 252 aqm .nil .nil)))))) (.node 299 as7 (.node 277 aqM (.node 264 arq (.node 259 asG (.node 257 apn (.node 256 apD (.node 254 aqN .nil .nil) .nil) (.node 258 asT .nil .nil)) (.node 262 asb (.node 261 apJ (.node 260 asZ .nil .nil) .nil) (.node 263 akD .nil .nil))) (.node 269 apT (.node 267 ak5 (.node 266 arS (.node 265 arQ .nil .nil) .nil) (.node 268 ao7 .nil .nil)) (.node 274 aqF (.node 272 ark (.node 271 aq1 .nil .nil) .nil) (.node 275 apv .nil .nil)))) (.node 287 api (.node 282 aqB (.node 280 aoE (.node 279 aq8 (.node 278 aoV .nil .nil) .nil) (.node 281 aog .nil .nil)) (.node 285 apm (.node 284 apA (.node 283 apl .nil .nil) .nil) (.node 286 aob .nil .nil))) (.node 294 aoG (.node 291 aoh (.node 289 apE (.node 288 aru .nil .nil) .nil) (.node 293 apx .nil .nil)) (.node 296 asw (.node 295 asM .nil .nil) (.node 298 aot .nil .nil))))) (.node 321 aqh (.node 310 arE (.node 304 asP (.node 302 aoH (.node 301 aor (.node 300 arJ .nil .nil) .nil) (.node 303 aqc .nil .nil)) (.node 308 asI (.node 307 apj (.node 306 apo .nil .nil) .nil) (.node 309 apr .nil .nil))) (.node 317 ao8 (.node 313 apg (.node 312 apO (.node 311 asE .nil .nil) .nil) (.node 316 aps .nil .nil)) (.node 319 ape (.node 318 aoX .nil .nil) (.node 320 aqD .nil .nil)))) (.node 339 aoq (.node 329 apM (.node 327 aoF (.node 326 ap9 (.node 322 asj .nil .nil) .nil) (.node 328 ap6 .nil .nil)) (.node 336 ars (.node 332 aso (.node 331 aks .nil .nil) .nil) (.node 338 apV .nil .nil))) (.node 349 ase (.node 342 apk (.node 341 akp (.node 340 aq7 .nil .nil) .nil) (.node 348 aoP .nil .nil)) (.node 351 akm (.node 350 asW .nil .nil) (.node 352 ar2 .nil .nil))))))))
theorem ajZ {P:Program} {t:TypeId} {j:TypeInfo} {k:IntKind} (h:(P.info? t).map (·.zero)=some (some (.int k 0))) (hj:P.info? t=some j):j.zero=some (.int k 0):=by rw[hj]at h;simpa using h
theorem bT {P:Program} {T:TT} {t:TypeId} {i:TI} (h1:(P.info? t).map (fun f=>(f.size,f.bytes,f.zero.map fun z=>(z.cells.toList.map qH,z.cells.toList.all Value.oneCell')))=some (i.size,i.bytes,some (i.zero,true)):=by kernel_rfl)
  (h2:(P.underlying t).map iR=some (some i.k):=by kernel_rfl) (h3:(match i.ty with|none=>none|some _=>i.ty)=(match i.ty with|none=>none|some _=>jc T i.k):=by kernel_rfl) (h4:(match i.ty with|none=>true|some y=>Nat.beq y.size i.size)=true:=by kernel_rfl) (h5:(i.isAgg||Nat.beq i.size 1)=true:=by kernel_rfl)
  (h6:(!i.eq||(!P.eqGuardType P.depth t&&(!P.stoodInHeld t&&((P.underlying t).map (fun d=>match d with|.struct fs=>fs.toList.all fun f=>f.name != "_" |_=>false)).getD false)))=true:=by kernel_rfl)
  (h7:(P.underlying t).map (fun d=>match d with|.struct fs=>fs.toList.all fun f=>(P.info? f.type).isSome|_=>true)=some true:=by kernel_rfl) (h8:Nat.beq i.zero.length i.size=true:=by kernel_rfl)
  (h9:(match i.ty with|some (.int .u8)=>Nat.beq t kQ|_=>true)=true:=by kernel_rfl) (h10:(!i.bld||Nat.beq t MR)=true:=by kernel_rfl)
  (h11:(match i.k with|.int _=>(P.info? t).map (fun j:TypeInfo=>j.zero)|_=>none)=(match i.k with|.int k=>some (some (Value.int k 0))|_=>none):=by kernel_rfl):alg P T t i:=fun _=>by
 refine⟨h1,h2, ?_,fun y hy=> ?_, ?_,fun he=> ?_,h7,Nat.eq_of_beq_eq_true h8,fun hu=> ?_,fun hb=> ?_,fun k hk j hj=> ?_⟩
 ·cases hi:i.ty with
  |none=>exact .inl rfl
  |some y=>rw[hi]at h3;exact .inr h3
 ·rw[hy]at h4;exact Nat.eq_of_beq_eq_true h4
 ·rw[Bool.or_eq_true]at h5;exact h5.imp id Nat.eq_of_beq_eq_true
 ·rw[he]at h6
  simp only[Bool.not_true,Bool.false_or,Bool.and_eq_true,Bool.not_eq_true']at h6
  refine⟨h6.1,h6.2.1, ?_⟩
  have h:=h6.2.2
  generalize (P.underlying t).map _=o at h ⊢
  cases o with
  |none=>cases h
  |some b=>exact congrArg some h
 ·rw[hu]at h9;exact Nat.eq_of_beq_eq_true h9
 ·rw[hb]at h10;exact Nat.eq_of_beq_eq_true h10
 ·rw[hk]at h11;exact ajZ h11 hj
theorem tok:TOk Tryz.prog tt:=TOk.of_all (⟨bT,⟨bT,⟨bT,⟨bT,⟨bT,⟨bT,⟨bT,⟨bT,⟨bT,trivial,trivial⟩,trivial⟩,⟨bT,trivial,trivial⟩⟩,⟨bT,⟨bT,⟨bT,trivial,trivial⟩,trivial⟩,⟨bT,trivial,trivial⟩⟩⟩,⟨bT,⟨bT,⟨bT,⟨bT,trivial,trivial⟩,trivial⟩,⟨bT,trivial,trivial⟩⟩,⟨bT,⟨bT,⟨bT,trivial,trivial⟩,trivial⟩,⟨bT,trivial,trivial⟩⟩⟩⟩,⟨bT,⟨bT,⟨bT,⟨bT,⟨bT,trivial,trivial⟩,trivial⟩,⟨bT,trivial,trivial⟩⟩,⟨bT,⟨bT,⟨bT,trivial,trivial⟩,trivial⟩,⟨bT,trivial,trivial⟩⟩⟩,⟨bT,⟨bT,⟨bT,⟨bT,trivial,trivial⟩,trivial⟩,⟨bT,trivial,trivial⟩⟩,⟨bT,⟨bT,trivial,trivial⟩,⟨bT,trivial,trivial⟩⟩⟩⟩⟩,⟨bT,⟨bT,⟨bT,⟨bT,⟨bT,⟨bT,trivial,trivial⟩,trivial⟩,⟨bT,trivial,trivial⟩⟩,⟨bT,⟨bT,⟨bT,trivial,trivial⟩,trivial⟩,⟨bT,trivial,trivial⟩⟩⟩,⟨bT,⟨bT,⟨bT,⟨bT,trivial,trivial⟩,trivial⟩,⟨bT,trivial,trivial⟩⟩,⟨bT,⟨bT,⟨bT,trivial,trivial⟩,trivial⟩,⟨bT,trivial,trivial⟩⟩⟩⟩,⟨bT,⟨bT,⟨bT,⟨bT,⟨bT,trivial,trivial⟩,trivial⟩,⟨bT,trivial,trivial⟩⟩,⟨bT,⟨bT,⟨bT,trivial,trivial⟩,trivial⟩,⟨bT,trivial,trivial⟩⟩⟩,⟨bT,⟨bT,⟨bT,⟨bT,trivial,trivial⟩,trivial⟩,⟨bT,trivial,trivial⟩⟩,⟨bT,⟨bT,trivial,trivial⟩,⟨bT,trivial,trivial⟩⟩⟩⟩⟩⟩,⟨bT,⟨bT,⟨bT,⟨bT,⟨bT,⟨bT,⟨bT,trivial,trivial⟩,trivial⟩,⟨bT,trivial,trivial⟩⟩,⟨bT,⟨bT,⟨bT,trivial,trivial⟩,trivial⟩,⟨bT,trivial,trivial⟩⟩⟩,⟨bT,⟨bT,⟨bT,⟨bT,trivial,trivial⟩,trivial⟩,⟨bT,trivial,trivial⟩⟩,⟨bT,⟨bT,⟨bT,trivial,trivial⟩,trivial⟩,⟨bT,trivial,trivial⟩⟩⟩⟩,⟨bT,⟨bT,⟨bT,⟨bT,⟨bT,trivial,trivial⟩,trivial⟩,⟨bT,trivial,trivial⟩⟩,⟨bT,⟨bT,⟨bT,trivial,trivial⟩,trivial⟩,⟨bT,trivial,trivial⟩⟩⟩,⟨bT,⟨bT,⟨bT,⟨bT,trivial,trivial⟩,trivial⟩,⟨bT,trivial,trivial⟩⟩,⟨bT,⟨bT,trivial,trivial⟩,⟨bT,trivial,trivial⟩⟩⟩⟩⟩,⟨bT,⟨bT,⟨bT,⟨bT,⟨bT,⟨bT,trivial,trivial⟩,trivial⟩,⟨bT,trivial,trivial⟩⟩,⟨bT,⟨bT,⟨bT,trivial,trivial⟩,trivial⟩,⟨bT,trivial,trivial⟩⟩⟩,⟨bT,⟨bT,⟨bT,⟨bT,trivial,trivial⟩,trivial⟩,⟨bT,trivial,trivial⟩⟩,⟨bT,⟨bT,trivial,trivial⟩,⟨bT,trivial,trivial⟩⟩⟩⟩,⟨bT,⟨bT,⟨bT,⟨bT,⟨bT,trivial,trivial⟩,trivial⟩,⟨bT,trivial,trivial⟩⟩,⟨bT,⟨bT,⟨bT,trivial,trivial⟩,trivial⟩,⟨bT,trivial,trivial⟩⟩⟩,⟨bT,⟨bT,⟨bT,⟨bT,trivial,trivial⟩,trivial⟩,⟨bT,trivial,trivial⟩⟩,⟨bT,⟨bT,trivial,trivial⟩,⟨bT,trivial,trivial⟩⟩⟩⟩⟩⟩⟩,⟨bT,⟨bT,⟨bT,⟨bT,⟨bT,⟨bT,⟨bT,⟨bT,trivial,trivial⟩,trivial⟩,⟨bT,trivial,trivial⟩⟩,⟨bT,⟨bT,⟨bT,trivial,trivial⟩,trivial⟩,⟨bT,trivial,trivial⟩⟩⟩,⟨bT,⟨bT,⟨bT,⟨bT,trivial,trivial⟩,trivial⟩,⟨bT,trivial,trivial⟩⟩,⟨bT,⟨bT,⟨bT,trivial,trivial⟩,trivial⟩,⟨bT,trivial,trivial⟩⟩⟩⟩,⟨bT,⟨bT,⟨bT,⟨bT,⟨bT,trivial,trivial⟩,trivial⟩,⟨bT,trivial,trivial⟩⟩,⟨bT,⟨bT,⟨bT,trivial,trivial⟩,trivial⟩,⟨bT,trivial,trivial⟩⟩⟩,⟨bT,⟨bT,⟨bT,⟨bT,trivial,trivial⟩,trivial⟩,⟨bT,trivial,trivial⟩⟩,⟨bT,⟨bT,trivial,trivial⟩,⟨bT,trivial,trivial⟩⟩⟩⟩⟩,⟨bT,⟨bT,⟨bT,⟨bT,⟨bT,⟨bT,trivial,trivial⟩,trivial⟩,⟨bT,trivial,trivial⟩⟩,⟨bT,⟨bT,⟨bT,trivial,trivial⟩,trivial⟩,⟨bT,trivial,trivial⟩⟩⟩,⟨bT,⟨bT,⟨bT,⟨bT,trivial,trivial⟩,trivial⟩,⟨bT,trivial,trivial⟩⟩,⟨bT,⟨bT,trivial,trivial⟩,⟨bT,trivial,trivial⟩⟩⟩⟩,⟨bT,⟨bT,⟨bT,⟨bT,⟨bT,trivial,trivial⟩,trivial⟩,⟨bT,trivial,trivial⟩⟩,⟨bT,⟨bT,⟨bT,trivial,trivial⟩,trivial⟩,⟨bT,trivial,trivial⟩⟩⟩,⟨bT,⟨bT,⟨bT,⟨bT,trivial,trivial⟩,trivial⟩,⟨bT,trivial,trivial⟩⟩,⟨bT,⟨bT,trivial,trivial⟩,⟨bT,trivial,trivial⟩⟩⟩⟩⟩⟩,⟨bT,⟨bT,⟨bT,⟨bT,⟨bT,⟨bT,⟨bT,trivial,trivial⟩,trivial⟩,⟨bT,trivial,trivial⟩⟩,⟨bT,⟨bT,⟨bT,trivial,trivial⟩,trivial⟩,⟨bT,trivial,trivial⟩⟩⟩,⟨bT,⟨bT,⟨bT,⟨bT,trivial,trivial⟩,trivial⟩,⟨bT,trivial,trivial⟩⟩,⟨bT,⟨bT,⟨bT,trivial,trivial⟩,trivial⟩,⟨bT,trivial,trivial⟩⟩⟩⟩,⟨bT,⟨bT,⟨bT,⟨bT,⟨bT,trivial,trivial⟩,trivial⟩,⟨bT,trivial,trivial⟩⟩,⟨bT,⟨bT,⟨bT,trivial,trivial⟩,trivial⟩,⟨bT,trivial,trivial⟩⟩⟩,⟨bT,⟨bT,⟨bT,⟨bT,trivial,trivial⟩,trivial⟩,⟨bT,trivial,trivial⟩⟩,⟨bT,⟨bT,trivial,trivial⟩,⟨bT,trivial,trivial⟩⟩⟩⟩⟩,⟨bT,⟨bT,⟨bT,⟨bT,⟨bT,⟨bT,trivial,trivial⟩,trivial⟩,⟨bT,trivial,trivial⟩⟩,⟨bT,⟨bT,⟨bT,trivial,trivial⟩,trivial⟩,⟨bT,trivial,trivial⟩⟩⟩,⟨bT,⟨bT,⟨bT,⟨bT,trivial,trivial⟩,trivial⟩,⟨bT,trivial,trivial⟩⟩,⟨bT,⟨bT,trivial,trivial⟩,⟨bT,trivial,trivial⟩⟩⟩⟩,⟨bT,⟨bT,⟨bT,⟨bT,⟨bT,trivial,trivial⟩,trivial⟩,⟨bT,trivial,trivial⟩⟩,⟨bT,⟨bT,⟨bT,trivial,trivial⟩,trivial⟩,⟨bT,trivial,trivial⟩⟩⟩,⟨bT,⟨bT,⟨bT,⟨bT,trivial,trivial⟩,trivial⟩,⟨bT,trivial,trivial⟩⟩,⟨bT,⟨bT,trivial,trivial⟩,⟨bT,trivial,trivial⟩⟩⟩⟩⟩⟩⟩⟩)
def amR (P:Program):Bool:=P.funcs.toList.all fun fn=>fn.body.isNone|| !(fn.name== "runtime.NumGoroutine")
theorem ahr {P:Program} (h:amR P=true):BC P:=fun f fn c hf hb=>by
 have h1:=List.all_eq_true.1 h fn (by have:=Array.mem_of_getElem? hf;simpa using this)
 simpa [hb] using h1
theorem bV:BC Tryz.prog:=ahr (by kernel_rfl)
theorem mixed:Tryz.prog.follows .mixedOrders=true:=by kernel_rfl
noncomputable def sg0 (g:FuncId):Option Sum:=bif Nat.beq g 343 then some RZ else bif Nat.beq g 290 then some XC else none
theorem afc: ∀g s,sg0 g=some s->bD Tryz.prog g s:=fun g s h=>by
 unfold sg0 at h
 rw[cond_eq_ite]at h
 split at h
 ·rename_i hg
  obtain rfl:g=343:=Nat.eq_of_beq_eq_true hg
  cases h
  exact(Uc Tryz.func343 (by kernel_rfl) (by kernel_rfl) (by kernel_rfl) (by kernel_rfl))
 rw[cond_eq_ite]at h
 split at h
 ·rename_i hg
  obtain rfl:g=290:=Nat.eq_of_beq_eq_true hg
  cases h
  exact(acT Tryz.func290 (by kernel_rfl) (by kernel_rfl) (by kernel_rfl) (by kernel_rfl))
 cases h
def afA:Go.Shelf.Ren:=⟨fun|240=>143|276=>209|n=>n,fun|0=>0|4=>4|9=>9|20=>20|37=>111|70=>130|72=>132|164=>255|n=>n,fun n=>n⟩
theorem YL:Go.Proofs.Lays.n240 Tryz.prog afA:={
 mixed:=mixed,
 f240:=(Tryz.func143).trans (by kernel_rfl),
 f276:=(Tryz.func209).trans (by kernel_rfl),
 t0:=Tryz.underlying0,a0:=Tryz.isAgg0,z0:=Tryz.sizeOf0,v0:=Tryz.zeroValue0,
 t4:=Tryz.underlying4,a4:=Tryz.isAgg4,z4:=Tryz.sizeOf4,v4:=Tryz.zeroValue4,
 t9:=Tryz.underlying9,a9:=Tryz.isAgg9,z9:=Tryz.sizeOf9,v9:=Tryz.zeroValue9,
 t20:=Tryz.underlying20,a20:=Tryz.isAgg20,z20:=Tryz.sizeOf20,v20:=Tryz.zeroValue20,
 t70:=Tryz.underlying130,a70:=Tryz.isAgg130,z70:=Tryz.sizeOf130,v70:=Tryz.zeroValue130,
 t72:=Tryz.underlying132,a72:=Tryz.isAgg132,z72:=Tryz.sizeOf132,v72:=Tryz.zeroValue132,
 t164:=Tryz.underlying255,a164:=Tryz.isAgg255,z164:=Tryz.sizeOf255,v164:=Tryz.zeroValue255}
theorem aqV:Go.Proofs.Builder.X72 Tryz.prog afA:={sizeBuilder:=by kernel_rfl,liesBuilder:=by kernel_rfl}
theorem bC (g:FuncId) (h:Bf g=true):uX Tryz.prog g:=by
 simp only[Bf,Bool.and_eq_true]at h
 obtain rfl:g=143:=Nat.eq_of_beq_eq_true h.1
 exact fun w b hs hf=>⟨AP bV Tryz.func143 (show Tryz.f143.body=some ((Tryz.f143.body).getD .skip) by kernel_rfl) _ _,fun h0=>Any.Builder_copyCheck_used YL aqV b w h0,fun h0=>Any.Builder_copyCheck_fresh YL aqV b w h0 hs hf⟩
noncomputable def ahp:Env:={P:=Tryz.prog,T:=tt,cl:=true,kp:=fun _ _=>none,sg:=sg0,lp:=fun _ _=>none,bf:=Bf}
theorem bW: ∀E,mX Tryz.prog E->Xk E:=fun E h f k asg bd hr=>aj2 h f k asg bd hr
theorem Zi:bJ ahp:=⟨tok,mixed,bV,afc,fun f fn c _ _=>aS (fun _=>rfl) (fun _=>rfl) c,bW _ fun f fn c _ _=>aS (fun _=>rfl) (fun _=>rfl) c,bC,fun _ _ h=>by cases h⟩
abbrev rJ:Ty:=(.pair (.int .i64) (.pair (.int .i64) .unit))
def mG (l:List rJ.den):Option (List rJ.den):=bif aZ l 16 then some l else none
theorem PW (xs:List rJ.den):exec ahp 1000000 (.call 169 [.lst rJ xs false]) ⟨[],[],[],0⟩ (fun v st=>fJ true [(.list rJ,true)] (uI 1 v) st.hp)=(bif aZ xs 16 then some (xs,())else none):=by kernel_rfl
theorem Pj:exec ahp 1000000 (.call 169 [.lst rJ [] true]) ⟨[],[],[],0⟩ (fun v st=>match v,st.hp with|.nils,[]=>some ()|_,_=>none)=some ():=by kernel_rfl
def kG (l:List rJ.den):Option (List rJ.den×Unit):=match mG l with|some y=>some (y,())|none=>none
def lG:Sum:=⟨[.list rJ],[(.list rJ,true)],fun x=>kG x.1⟩
theorem qh:bD Tryz.prog 169 lG:=by
 have base:=wz Zi (e:=rJ) (e2:=rJ) (g:=169) (f:=mG) (show 0<rJ.size by decide) (show 0<rJ.size by decide) (fun xs y h=>by
  unfold mG at h
  rw[PW]
  cases hf:aZ xs 16 with
  |true=>rw[hf]at h;cases h;rfl
  |false=>rw[hf]at h;cases h) fun y h=>by
  have e:mG []=some []:=rfl
  rw[e]at h
  cases h
  exact⟨rfl,Pj⟩
 intro w bar args' x y hp hb hd hy
 refine base w bar args' x y hp hb hd ?_
 have hy:kG x.1=some y:=hy
 unfold kG at hy
 cases hc:mG x.1 with
 |none=>rw[hc]at hy;cases hy
 |some z=>rw[hc]at hy;simp only[hc];exact hy
abbrev rF:Ty:=(.pair .str (.pair .bool .unit))
def pJ (l:List rF.den):Option (List rF.den):=bif aZ l 24 then some l else none
theorem PR (xs:List rF.den):exec ahp 1000000 (.call 262 [.lst rF xs false]) ⟨[],[],[],0⟩ (fun v st=>fJ true [(.list rF,true)] (uI 1 v) st.hp)=(bif aZ xs 24 then some (xs,())else none):=by kernel_rfl
theorem Rf:exec ahp 1000000 (.call 262 [.lst rF [] true]) ⟨[],[],[],0⟩ (fun v st=>match v,st.hp with|.nils,[]=>some ()|_,_=>none)=some ():=by kernel_rfl
def mJ (l:List rF.den):Option (List rF.den×Unit):=match pJ l with|some y=>some (y,())|none=>none
def lF:Sum:=⟨[.list rF],[(.list rF,true)],fun x=>mJ x.1⟩
theorem qj:bD Tryz.prog 262 lF:=by
 have base:=wz Zi (e:=rF) (e2:=rF) (g:=262) (f:=pJ) (show 0<rF.size by decide) (show 0<rF.size by decide) (fun xs y h=>by
  unfold pJ at h
  rw[PR]
  cases hf:aZ xs 24 with
  |true=>rw[hf]at h;cases h;rfl
  |false=>rw[hf]at h;cases h) fun y h=>by
  have e:pJ []=some []:=rfl
  rw[e]at h
  cases h
  exact⟨rfl,Rf⟩
 intro w bar args' x y hp hb hd hy
 refine base w bar args' x y hp hb hd ?_
 have hy:mJ x.1=some y:=hy
 unfold mJ at hy
 cases hc:pJ x.1 with
 |none=>rw[hc]at hy;cases hy
 |some z=>rw[hc]at hy;simp only[hc];exact hy
noncomputable def sg1 (g:FuncId):Option Sum:=bif Nat.beq g 169 then some lG else bif Nat.beq g 262 then some lF else sg0 g
theorem VA: ∀g s,sg1 g=some s->bD Tryz.prog g s:=fun g s h=>by
 unfold sg1 at h
 rw[cond_eq_ite]at h
 split at h
 ·rename_i hg
  obtain rfl:g=169:=Nat.eq_of_beq_eq_true hg
  cases h
  exact qh
 rw[cond_eq_ite]at h
 split at h
 ·rename_i hg
  obtain rfl:g=262:=Nat.eq_of_beq_eq_true hg
  cases h
  exact qj
 exact afc g s h
noncomputable def atO:Env:={P:=Tryz.prog,T:=tt,cl:=true,kp:=fun _ _=>none,sg:=sg1,lp:=fun _ _=>none,bf:=Bf}
theorem atl:bJ atO:=⟨tok,mixed,bV,VA,fun f fn c _ _=>aS (fun _=>rfl) (fun _=>rfl) c,bW _ fun f fn c _ _=>aS (fun _=>rfl) (fun _=>rfl) c,bC,fun _ _ h=>by cases h⟩
end Go.Proofs.YtihafdllichkeaaGreatDoor
namespace Go.Proofs.YtihafdllichkeaaGreatDoor
set_option linter.unusedVariables false
open Go.ChangeShapes Go.WideShapes Go.RowKit
theorem akT {P:Program} {w:World} {H:Type} {enc:TypeId×Value->H} {base:Nat} {spare:Nat->Bool} {held:Bool} {c:Cx} {ety:Ty} {x:List ety.den} {t e:TypeId} {v:Value} {d:DataW H} {ps:List MemPlace}
  (ht:P.underlying t=some (.slice e)) (hx:VD c (.list ety) x v) (h:DataW.Trod enc P w base spare held t v d ps):x.length=0\/ ∃el sp,d=.slice el sp/\el.length=x.length:=by
 have h1:=(VD.leaf rfl).1 hx
 simp only[cu]at h1
 obtain⟨a,k,zs,e1,e2,e3,e4⟩:=h1
 simp only[List.cons.injEq,and_true]at e1
 obtain⟨fuel,hf⟩:=h
 subst e1
 have hc:(Value.slice a x.length k).cells.toList=[.slice a x.length k]:=rfl
 rw[hc]at hf
 rcases DataW.trod_slice ht hf with ⟨q1,q2⟩|⟨a',len,cap,elems,rest,n,q1,q2,q3,q4,q5,q6,q7,q8⟩
 ·simp only[List.cons.injEq,and_true,Value.slice.injEq]at q1
  exact .inl q1.2.1
 ·simp only[List.cons.injEq,and_true,Value.slice.injEq]at q2
  simp only[Prod.mk.injEq]at q3
  exact .inr ⟨_,_,q3.1,by rw[List.length_map,q7,q2.2.1]⟩
end Go.Proofs.YtihafdllichkeaaGreatDoor
namespace Go.Proofs.YtihafdllichkeaaGreatDoor
open Go.RowKit
set_option linter.unusedVariables false
theorem wG {E:Env} {f:FuncId} {c:Code} {k:dB} {l la lb:SP} {ex exb:Ex} {D:Nat} {lp:Nat->l.den->Option (la.den⊕lb.den)}
  (st:{γ:Type}->(l.den->Option γ)->(la.den->Option γ)->(lb.den->Option γ)->l.den->Option γ)
  (hk:E.kp f (aQ c)=some k) (h0: ∀v,lp 0 v=none) (hs: ∀n v,lp (n+1) v=st (lp n) (fun e=>some (.inl e)) (fun r=>some (.inr r)) v)
  (h1: ∀{R:Type} (d n:Nat) (K:Ex->St->Option R) (v:l.den),iter (some k) (wE E (d+D) f c) (n+1) (iZ l v) K=st (fun v=>iter (some k) (wE E (d+D) f c) n (iZ l v) K) (fun e=>K ex (iZ la e)) (fun r=>K exb (iZ lb r)) v)
  (h2: ∀{γ δ:Type} (x:l.den->Option γ) (y:la.den->Option γ) (z:lb.den->Option γ) (v:l.den) (K:γ->Option δ),ai (st x y z v) K=st (fun v=>ai (x v) K) (fun e=>ai (y e) K) (fun r=>ai (z r) K) v):
  di E f c (dO k l la lb ex (fun v=>lp aO v) D exb):=by
 refine aa2 hk fun R d K v o h=>⟨aO, ?_⟩
 have it: ∀(n:Nat) (v:l.den),iter (some k) (wE E (d+D) f c) n (iZ l v) K=ai (lp n v) fun o=>bF o (fun a=>K ex (iZ la a)) fun b=>K exb (iZ lb b):=by
  intro n
  induction n with
  |zero=>intro v;rw[h0];rfl
  |succ n ih=>intro v;rw[h1,hs,h2,funext ih];rfl
 exact(it aO v).trans (congrArg (fun o=>ai o _) h)
theorem Fv {E:Env} {f:FuncId} {c:Code} {k:dB} {l la lb:SQ} {ex exb:Ex} {D:Nat} {lp:Nat->l.den->Option (la.den⊕lb.den)}
  (st:{γ:Type}->(l.den->Option γ)->(la.den->Option γ)->(lb.den->Option γ)->l.den->Option γ)
  (hk:E.kp f (aQ c)=some k) (h0: ∀v,lp 0 v=none) (hs: ∀n v,lp (n+1) v=st (lp n) (fun e=>some (.inl e)) (fun r=>some (.inr r)) v)
  (h1: ∀{R:Type} (d n:Nat) (K:Ex->St->Option R) (v:l.den),iter (some k) (wE E (d+D) f c) (n+1) (lL l v) K=st (fun v=>iter (some k) (wE E (d+D) f c) n (lL l v) K) (fun e=>K ex (lL la e)) (fun r=>K exb (lL lb r)) v)
  (h2: ∀{γ δ:Type} (x:l.den->Option γ) (y:la.den->Option γ) (z:lb.den->Option γ) (v:l.den) (K:γ->Option δ),ai (st x y z v) K=st (fun v=>ai (x v) K) (fun e=>ai (y e) K) (fun r=>ai (z r) K) v):
  di E f c (gQ k l la lb ex (fun v=>lp aO v) D exb):=by
 refine VR hk fun R d K v o h=>⟨aO, ?_⟩
 have it: ∀(n:Nat) (v:l.den),iter (some k) (wE E (d+D) f c) n (lL l v) K=ai (lp n v) fun o=>bF o (fun a=>K ex (lL la a)) fun b=>K exb (lL lb b):=by
  intro n
  induction n with
  |zero=>intro v;rw[h0];rfl
  |succ n ih=>intro v;rw[h1,hs,h2,funext ih];rfl
 exact(it aO v).trans (congrArg (fun o=>ai o _) h)
theorem ed {E:Env} (hE:bJ E) {g:FuncId} {s:Sum} (hn:news s.rs<=1) (h: ∀x,ik E g s.ps s.rs x=s.f x):bD E.P g s:=
 gy hE hn fun x y hy=>(h x).trans hy
theorem fL {E:Env} {f:FuncId} {c:Code} {L:bG} (h1:E.lp f (aQ c)=some L) (h2:di E f c L): ∀L',E.lp f (aQ c)=some L'->di E f c L':=fun L' h=>by
 rw[h1]at h;cases h;exact h2
theorem fC {E:Env} {f:FuncId} {c:Code} {L:bG} (h1:E.lp f (800000+aQ c)=some L) (h2:qF E f c L): ∀L',E.lp f (800000+aQ c)=some L'->qF E f c L':=fun L' h=>by
 rw[h1]at h;cases h;exact h2
theorem aC {α:Type} {p:α->Prop} {a:α} {l:List α} (h:p a/\ ∀x∈l,p x): ∀x∈a::l,p x:=List.forall_mem_cons.2 h
theorem aN {α:Type} {p:α->Prop}: ∀x∈([]:List α),p x:=fun _ h=>absurd h List.not_mem_nil
end Go.Proofs.YtihafdllichkeaaGreatDoor
