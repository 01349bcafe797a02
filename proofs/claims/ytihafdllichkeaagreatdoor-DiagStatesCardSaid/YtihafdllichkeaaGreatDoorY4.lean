/- Parts of the proof, joined and shortened by a program: the plain machine, the functions as it prints them, and the mathematics over them. -/
import Derived.Test.YtihafdllichkeaaGreatDoorY3
set_option linter.unusedVariables false
set_option linter.unusedSimpArgs false
set_option maxRecDepth 100000
set_option maxHeartbeats 4000000
namespace Go.Proofs.YtihafdllichkeaaGreatDoor
section
open Bool renaming and_true → ax
open Int renaming toNat_natCast → aP
open List renaming length_append → ae, append_assoc → ag, length_map → ay, map_cons → az, length_drop → aF, drop_eq_getElem_cons → aO, getElem_mem → aQ, drop_zero → aX, eq_nil_of_length_eq_zero → bJ
open Go.RowKit
def qm:di->Int->gq×Bool->List kS->List kS
 |[],_,_,L=>L
 |b::l,a,x,L=>qm l (a+1) (gu x.1 x.2 (jl b) a) (Oa (pq (gu x.1 x.2 (jl b) a).1) a L)
def uA (s:di) (p:kS):kS:=if p.1=12 then(p.1,p.2.1,p.2.1+1+((prl (s.drop (p.2.1+1).toNat):Nat):Int),p.2.2.2.1,false,())else if p.2.2.2.2.1=true then(p.1,p.2.1,(s.length:Int),p.2.2.2.1,true,())else p
def dh (s:di):List kS:=(qm s 0 fJ []).map (uA s)
theorem aod (F:List GV) (a:Int) (L:List kS):(Oa F a L).length<=L.length+1:=by
 unfold Oa;rw[ae,ay];split<;>simp
theorem JE (s:gq):(pq s).length<=s.length:=by simp[pq]
theorem awX {l:List GV} (h:l.length<1000000):oI l=some (l,()):=by
 unfold oI rO;have:eQ l 16=true:=decide_eq_true (by unfold lm;omega);rw[this];rfl
theorem awC (s:di) (hs:s.length<=100000): ∀(N:Nat) (i:Int) (x:gq×Bool) (L:List kS) (H:List Int),(s.length:Int)-i<N->0<=i->i<=s.length->iL x.1->(x.1.length:Int)<=i+1->Inv L H (pq x.1) i->(L.length:Int)<=i->
  ∃H' F',JR N s (bP s) i x.2 i (lo x.1) H L=some (.inl ((s,()),(H',qm (s.drop i.toNat) i x L,(),())))/\Inv (qm (s.drop i.toNat) i x L) H' F' s.length/\(qm (s.drop i.toNat) i x L).length<=s.length
 |0,i,x,L,H,h,_,_,_,_,_,_=>by omega
 |N+1,i,x,L,H,h,h0,hi,hg,hl,hinv,hLl=>by
  rw[JR,PX];by_cases e:i<s.length
  ·obtain⟨b,hd,hb⟩:=drop_at h0 e;have hst:=good_step hg x.2 (cO s i) i;have hlen:(lo (gu x.1 x.2 (cO s i) i).1).length≠0:=by
    rw[mJ];intro e;rw[bJ e]at hst;exact hst.1
   obtain⟨c,hc,hpl⟩:=KE hg x.2 (cO s i) i;rw[<-tJ,<-tJ]at hpl;rw[<-tJ,ay]at hc;obtain⟨q1,q2,q3,q4⟩:=auU hinv hc hpl;obtain⟨t,ht⟩:=aDx hst.1;have hfl:=JE (gu x.1 x.2 (cO s i) i).1;have hfl0:=JE x.1;have hHn:=hinv.len;have hsee:=aGx (t:=t) (L:=L) (H:=H) (F:=pq (gu x.1 x.2 (cO s i) i).1) (a:=i) h0 (by omega) (by have:=hst.2;omega) (by omega) (by omega)
    (fun j hj=>by
     obtain⟨n,hn,he⟩:=List.getElem_of_mem hj;have:=hinv.nn n hn;rw[List.getD_eq_getElem?_getD,List.getElem?_eq_getElem hn]at this;simp only[Option.getD_some,he]at this;omega) q1 q2
   have hgl:=aod (pq (gu x.1 x.2 (cO s i) i).1) i L;obtain⟨H',F',r1,r2,r3⟩:=awC s hs N (i+1) (gu x.1 x.2 (cO s i) i) (Oa (pq (gu x.1 x.2 (cO s i) i).1) i L) (aa7 L H (pq (gu x.1 x.2 (cO s i) i).1) i).2 (by omega) (by omega) (by omega) hst.1 (by have:=hst.2;omega) (by rw[<-q3];exact q4) (by omega);rw[bZ (fH (b:=bP s) e),bZ (eP h0 e),afT hg (by omega) x.2 (lV s i) h0 (by omega),bK];simp only[pst];rw[dE (dW (by rw[bT];omega)),awX (by rw[mJ];have:=hst.2;omega),bK];simp only;rw[ht,hsee,bK];simp only;rw[dC (by omega) (by omega),hd,qm,<-hb,q3,<-ht];exact⟨H',F',r1,r2,r3⟩
  ·have hi':i=s.length:=by omega
   rw[dE (kZ (b:=bP s) (by rw[bT];omega)),DC (by omega),qm];exact⟨H,pq x.1,rfl,by rw[<-hi'];exact hinv,by omega⟩
theorem aAd (s:di) (hs:s.length<=100000) (H:List Int): ∀(N i:Nat) (L:List kS),L.length-i<N->i<=L.length->L.length<1000000->(∀j,j<L.length->0<=(dL L dP j).2.1/\(dL L dP j).2.1<s.length)->
  xn N s (bP L) (i:Int) H L=some (.inl ((),(H,L.take i++(L.drop i).map (uA s),(),())))
 |0,i,L,h,_,_,_=>by omega
 |N+1,i,L,h,hi,hl,hf=>by
  (rewrite [xn,KU];delta fK jq eX)
  by_cases e:i<L.length
  ·have hlt:oD (dG (i:Int)) L=true:=qE (by simp only[dG];omega);have hin:gV L (i:Int)=true:=eP (by omega) (by omega);have hni:dG (i:Int)=i:=by simp[dG]
   have ji: ∀x,dL (iH L i x) (0,(0,(0,(0,(false,()))))) i=x:=fun x=>F8 e;have hlt2:oD i L=true:=by rw[<-hni];exact hlt
   have hfi:=hf i e;have hpar:VJ s (dA .i64 (dL L (0,(0,(0,(0,(false,()))))) i).2.1 1)=some (((prl (s.drop ((dL L dP i).2.1+1).toNat):Nat):Int),()):=by
    have hfi':0<=(dL L (0,(0,(0,(0,(false,()))))) i).2.1/\(dL L (0,(0,(0,(0,(false,()))))) i).2.1<s.length:=hfi;rw[dC (by omega) (by omega)];obtain⟨a,ha⟩: ∃a:Nat,(dL L (0,(0,(0,(0,(false,()))))) i).2.1+1=(a:Int):=⟨((dL L (0,(0,(0,(0,(false,()))))) i).2.1+1).toNat,by omega⟩;have ha':(dL L dP i).2.1+1=(a:Int):=ha;rw[ha,ha',aP,awI (by omega) (by omega)]
   have hadd:dA .i64 (dA .i64 (dL L (0,(0,(0,(0,(false,()))))) i).2.1 1) ((prl (s.drop ((dL L dP i).2.1+1).toNat):Nat):Int)=(dL L dP i).2.1+1+((prl (s.drop ((dL L dP i).2.1+1).toNat):Nat):Int):=by
    have h1:=ag6 (s.drop ((dL L dP i).2.1+1).toNat);rw[aF]at h1;have hfi':0<=(dL L (0,(0,(0,(0,(false,()))))) i).2.1/\(dL L (0,(0,(0,(0,(false,()))))) i).2.1<s.length:=hfi;rw[dC (a:=(dL L (0,(0,(0,(0,(false,()))))) i).2.1) (by omega) (by omega),dC (by omega) (by omega)];rfl
   have hai:dA .i64 (i:Int) 1=((i+1:Nat):Int):=by rw[dC (by omega) (by omega)];omega
   have go: ∀x,x=uA s (dL L dP i)->xn N s (bP L) ((i+1:Nat):Int) H (iH L i x)=some (.inl ((),(H,L.take i++(L.drop i).map (uA s),(),()))):=fun x hx=>by
    have hfr:(uA s (dL L dP i)).2.1=(dL L dP i).2.1:=by
     unfold uA;split
     ·rfl
     ·split<;>rfl
    have ih:=aAd s hs H N (i+1) (iH L i x) (by rw[tK];omega) (by rw[tK];omega) (by rw[tK];exact hl) (fun j hj=>by
     rw[tK]at hj;by_cases hji:i=j
     ·subst hji;have:dL (iH L i x) dP i=x:=F8 e;rw[this,hx,hfr];exact hfi
     ·rw[Iy hji];exact hf j hj)
    have e1:bP (iH L i x)=bP L:=by rw[bT,bT,tK]
    rw[e1]at ih;rw[ih];congr 4;have h1:(iH L i x).take (i+1)=L.take i++[x]:=by
     unfold iH;rw[List.take_add_one,List.getElem?_set_self e,List.take_set_of_le (by omega)];rfl
    have h2:(iH L i x).drop (i+1)=L.drop (i+1):=by
     unfold iH;rw[List.drop_set_of_lt (by omega)]
    rw[h1,h2,aO e,az,hx,oP e,ag];rfl
   rw[bZ (fH (by rw[bT];omega))];simp only[hni,hin,hlt2,ajF,ji,aeH,cond_true,aco,ax,hai];by_cases ho:(dL L dP i).2.2.2.2.1=true
   ·have ho':(dL L (0,(0,(0,(0,(false,()))))) i).2.2.2.2.1=true:=ho;rw[ho',cond_true];by_cases hm:(dL L dP i).1=12
    ·have hm':(dL L (0,(0,(0,(0,(false,()))))) i).1=12:=hm;rw[hm',bZ (fV rfl),hpar,bK];simp only[hadd];refine go _ ?_;unfold uA;rw[if_pos hm,hm];rfl
    ·have hm': ¬(dL L (0,(0,(0,(0,(false,()))))) i).1=12:=hm;rw[dE (dW hm')];refine go _ ?_;unfold uA;rw[if_neg hm,if_pos ho];rfl
   ·have ho':(dL L (0,(0,(0,(0,(false,()))))) i).2.2.2.2.1=false:=Bool.eq_false_iff.2 ho;rw[ho',cond_false];by_cases hm:(dL L dP i).1=12
    ·have hm':(dL L (0,(0,(0,(0,(false,()))))) i).1=12:=hm;rw[hm',bZ (fV rfl),hpar,bK];simp only[hadd];refine go _ ?_;unfold uA;rw[if_pos hm,hm];rfl
    ·have hm': ¬(dL L (0,(0,(0,(0,(false,()))))) i).1=12:=hm;rw[dE (dW hm')];have hsame:iH L i (dL L dP i)=L:=by
      unfold iH;rw[oP e,List.set_getElem_self]
     have:=go (dL L dP i) (by unfold uA;rw[if_neg hm,if_neg ho]);rw[hsame]at this;exact this
  ·have hi':i=L.length:=by omega
   rw[dE (iy (by rw[bT];omega)),hi',List.take_length,List.drop_length];simp
theorem aoe:Inv [] [] (pq fJ.1) 0:={
 len:=rfl
 nn:=fun n hn=>by cases hn
 frm:=fun n hn=>by cases hn
 opn:=fun j hj=>by rw[ajI (by simp)]at hj;cases hj
 lt:=fun j hj=>by cases hj
 inj:=fun i j hi=>by cases hi
 fd:=fun m n hm=>by cases hm}
theorem Wl: ∀(l:di) (a:Int) (x:gq×Bool) (L:List kS),0<=a->(∀p∈L,0<=p.2.1)-> ∀p∈qm l a x L,0<=p.2.1
 |[],a,x,L,ha,h,p,hp=>h p hp
 |b::l,a,x,L,ha,h,p,hp=>by
  rw[qm]at hp;refine Wl l (a+1) _ _ (by omega) (fun p hp=> ?_) p hp;unfold Oa at hp;rcases List.mem_append.1 hp with h1|h1
  ·obtain⟨q,hq,rfl⟩:=List.mem_map.1 h1;have:(nK (pq (gu x.1 x.2 (jl b) a).1) a q).2.1=q.2.1:=by
    unfold nK;split
    ·split<;>rfl
    ·rfl
   rw[this];exact h q hq
  ·split at h1
   ·rw[List.mem_singleton.1 h1];exact ha
   ·cases h1
theorem aKc (s:di) (hs:s.length<=100000):aia s=some (dh s,()):=by
 obtain⟨H',F',h1,h2,h3⟩:=awC s hs bU 0 fJ [] [] (by have:=NS (n:=s.length) (by omega);omega) (by omega) (by omega) kG (by simp[fJ]) aoe (by simp);unfold aia;rw[show([(0,(0,()))]:List oG)=lo fJ.1 from rfl,show(true:Bool)=fJ.2 from rfl,h1,bK];simp only[dV,Int.toNat_zero,aX]at h2 h3 ⊢;have hnn:=Wl s 0 fJ [] (by omega) (fun p hp=>by cases hp);have h4:=aAd s hs H' bU 0 (qm s 0 fJ []) (NS (by omega)) (by omega) (by omega) (fun j hj=>by
  refine⟨?_,h2.lt j hj⟩;rw[oP hj];exact hnn _ (aQ hj))
 rw[show xn bU s (bP (qm s 0 fJ [])) 0 H' (qm s 0 fJ [])=_ from h4,bK];simp[dh]
end
section
open Int renaming toNat_natCast → aP
open List renaming append_assoc → ag, length_map → ay, map_cons → az, nil_append → aH, drop_of_length_le → aI, length_take → aJ, append_nil → aK, drop_eq_getElem_cons → aO, getElem_mem → aQ, drop_zero → aX, map_nil → bi, mem_of_mem_take → bC
open Option renaming map_some → bn
open Go.RowKit
def wV:di->Int->gq×Bool->kS->kS
 |[],_,_,p=>p
 |b::l,a,x,p=>wV l (a+1) (gu x.1 x.2 (jl b) a) (nK (pq (gu x.1 x.2 (jl b) a).1) a p)
def uo:di->Int->gq×Bool->List Int->List kS
 |[],_,_,_=>[]
 |b::l,a,x,fr=>
  if Yz (pq (gu x.1 x.2 (jl b) a).1) a=true then wV l (a+1) (gu x.1 x.2 (jl b) a) (zf (pq (gu x.1 x.2 (jl b) a).1) a fr)::uo l (a+1) (gu x.1 x.2 (jl b) a) (fr++[a])
  else uo l (a+1) (gu x.1 x.2 (jl b) a) fr
theorem Xd (F:List GV) (a:Int) (p:kS):(nK F a p).2.1=p.2.1:=by
 unfold nK;split
 ·split<;>rfl
 ·rfl
theorem E8: ∀(l:di) (a:Int) (x:gq×Bool) (p:kS),(wV l a x p).2.1=p.2.1
 |[],_,_,_=>rfl
 |b::l,a,x,p=>by rw[wV,E8 l,Xd]
theorem LX (s:di) (p:kS):(uA s p).2.1=p.2.1:=by
 unfold uA;split
 ·rfl
 ·split<;>rfl
theorem VF: ∀(l:di) (a:Int) (x:gq×Bool) (p:kS),p.2.2.2.2.1=false->wV l a x p=p
 |[],_,_,_,_=>rfl
 |b::l,a,x,p,h=>by
  rw[wV];have:nK (pq (gu x.1 x.2 (jl b) a).1) a p=p:=by unfold nK;rw[h];rfl
  rw[this];exact VF l _ _ p h
theorem Tu: ∀(l:di) (a:Int) (x:gq×Bool) (L:List kS),qm l a x L=L.map (wV l a x)++uo l a x (L.map (·.2.1))
 |[],a,x,L=>by
  have:(wV [] a x)=id:=rfl;rw[qm,uo,this];simp
 |b::l,a,x,L=>by
  rw[qm,Tu l,uo];have hm:L.map (wV (b::l) a x)=(L.map (nK (pq (gu x.1 x.2 (jl b) a).1) a)).map (wV l (a+1) (gu x.1 x.2 (jl b) a)):=by
   rw[List.map_map];rfl
  have hf:(L.map (nK (pq (gu x.1 x.2 (jl b) a).1) a)).map (·.2.1)=L.map (·.2.1):=by
   rw[List.map_map];exact List.map_congr_left fun p _=>Xd _ _ p
  unfold Oa;rw[hm];split
  ·rw[List.map_append,List.map_append,hf];simp only[az,bi,ag,List.cons_append,aH];rfl
  ·rw[aK,hf]
theorem yA (s:di):dh s=(uo s 0 fJ []).map (uA s):=by
 unfold dh;rw[Tu];rfl
structure PL (x:gq) (i:Int):Prop where
 up:(Bj x).Pairwise (· < ·)
 lt: ∀v∈Bj x,v<i
theorem auy:PL fJ.1 0:=⟨List.Pairwise.nil,fun v hv=>by cases hv⟩
theorem azE {s:gq} {i:Int} (hg:iL s) (h:PL s i) (fr:Bool) (b:Int):PL (gu s fr b i).1 (i+1):=by
 obtain⟨c,hc,e|e⟩:=KE hg fr b i
 ·refine⟨by rw[e];exact h.up.sublist (List.take_sublist ..),fun v hv=> ?_⟩;rw[e]at hv;have:=h.lt v (bC hv);omega
 ·refine⟨?_,fun v hv=> ?_⟩
  ·rw[e,List.pairwise_append];refine⟨h.up.sublist (List.take_sublist ..),List.pairwise_singleton ..,fun a ha b hb=> ?_⟩;rw[List.mem_singleton.1 hb];exact h.lt a (bC ha)
  ·rw[e]at hv;rcases List.mem_append.1 hv with h1|h1
   ·have:=h.lt v (bC h1);omega
   ·rw[List.mem_singleton.1 h1];omega
theorem abY {l:List Int} (h:l.Pairwise (· < ·)) {m n:Nat} {v:Int} (hm:l[m]? =some v) (hn:l[n]? =some v):m=n:=by
 obtain⟨m1,m2⟩:=List.getElem?_eq_some_iff.1 hm;obtain⟨n1,n2⟩:=List.getElem?_eq_some_iff.1 hn;rw[List.pairwise_iff_getElem]at h;rcases Nat.lt_trichotomy m n with h1|h1|h1
 ·have:=h m n m1 n1 h1;omega
 ·exact h1
 ·have:=h n m n1 m1 h1;omega
theorem axa {l:List Int} (h:l.Pairwise (· < ·)) {n:Nat} {v:Int} (hn:l[n]? =some v):l.findIdx? (· ==v)=some n:=by
 obtain⟨n1,n2⟩:=List.getElem?_eq_some_iff.1 hn;cases hf:l.findIdx? (· ==v)with
 |none=>
  rw[List.findIdx?_eq_none_iff]at hf;have:=hf v (List.mem_of_getElem? hn);simp at this
 |some m=>
  obtain⟨m1,m2,_⟩:=List.findIdx?_eq_some_iff_getElem.1 hf;have:l[m]? =some v:=by rw[List.getElem?_eq_getElem m1];simpa using m2
  rw[abY h this hn]
theorem stay {s:gq} {i v:Int} {n:Nat} (hg:iL s) (h:PL s i) (hn:(Bj s)[n]? =some v) (fr:Bool) (b:Int):(Bj (gu s fr b i).1)[n]? =some v\/v∉Bj (gu s fr b i).1:=by
 have hvi:=h.lt v (List.mem_of_getElem? hn);obtain⟨c,hc,e|e⟩:=KE hg fr b i<;>rw[e]
 ·by_cases hnc:n<c
  ·left;rw[List.getElem?_take,if_pos hnc];exact hn
  ·right;intro hv;obtain⟨m,hm⟩:=List.getElem?_of_mem hv;rw[List.getElem?_take]at hm;split at hm
   ·rename_i hmc
    have:=abY h.up hm hn;omega
   ·cases hm
 ·have hcl:((Bj s).take c).length=c:=by rw[aJ];omega
  by_cases hnc:n<c
  ·left;rw[List.getElem?_append_left (by omega),List.getElem?_take,if_pos hnc];exact hn
  ·right;intro hv;rcases List.mem_append.1 hv with h1|h1
   ·obtain⟨m,hm⟩:=List.getElem?_of_mem h1;rw[List.getElem?_take]at hm;split at hm
    ·rename_i hmc
     have:=abY h.up hm hn;omega
    ·cases hm
   ·rw[List.mem_singleton.1 h1]at hvi;omega
def atM (s:gq) (v:Int):Int:=match(Bj s).findIdx? (· ==v)with
 |some n=>((n+1:Nat):Int)
 |none=>0
theorem auA {s:gq} (hg:iL s): ∃t,po s=t::Bj s:=by
 have hne:s≠[]:=by rintro rfl;exact hg
 refine⟨(s.getLast hne).2, ?_⟩
 conv=>lhs;rw[<-List.dropLast_concat_getLast hne]
 simp[po,Bj]
theorem aE4 {s:gq} (hg:iL s): ∃t,so s=t::(pq s).map fun f=>letter f.1:=by
 have hne:s≠[]:=by rintro rfl;exact hg
 refine⟨letter (s.getLast hne).1, ?_⟩
 conv=>lhs;rw[<-List.dropLast_concat_getLast hne]
 simp[so,pq,List.map_reverse];rfl
theorem ahK (v:Int) (S:di) (P:List Int) (fr:Bool) (hP:P.length<1000000): ∀(N j:Nat),P.length-j<N->
  FP N v (j:Int) S P fr=some (match(P.drop j).findIdx? (· ==v)with|some n=>.inr ((((j+n:Nat):Int),()),())|none=>.inl ((),()))
 |0,j,h=>by omega
 |N+1,j,h=>by
  rw[FP,Qi];by_cases e:j<P.length
  ·have hg:fZ P 0 (j:Int)=P[j]:=by unfold fZ;rw[aP,List.getD_eq_getElem?_getD,List.getElem?_eq_getElem e];rfl
   rw[bZ (fH (by rw[bT];omega)),bZ (eP (by omega) (by omega)),hg,aO e,List.findIdx?_cons,iE];by_cases e2:P[j]=v
   ·simp[e2]
   ·rw[dC (by omega) (by omega),show(j:Int)+1=((j+1:Nat):Int) by omega,ahK v S P fr hP N (j+1) (by omega)];simp only[e2,decide_false,cond_false,beq_iff_eq,if_false];cases (P.drop (j+1)).findIdx? (· ==v)with
    |none=>rfl
    |some n=>simp only[bn];rw[show j+1+n=j+(n+1) by omega]
  ·rw[dE (iy (by rw[bT];omega)),aI (by omega)];rfl
theorem aBf {s:gq} (hg:iL s) (hl:s.length<900000) (fr:Bool) (v:Int):acR (so s,(po s,(fr,()))) v=some (atM s v,()):=by
 unfold acR;obtain⟨t,ht⟩:=auA hg;have h:=ahK v (so s) (po s) fr (by rw[TE];omega) bU 1 (dO (by rw[TE];omega));rw[show FP bU v 1 (so s) (po s) fr=_ from h,bK,ht];simp only[List.drop_succ_cons,aX];unfold atM;cases (Bj s).findIdx? (· ==v)with
 |none=>rfl
 |some n=>simp only[dV];congr 2;omega
theorem aub: ∀n:Fin 15,aiw ((letter ((n.val:Nat):Int)).toNat:Int)=some (counts ((n.val:Nat):Int),()):=by decide+kernel
theorem aEv {m:Int} (h0:0<=m) (h1:m<=14):aiw ((letter m).toNat:Int)=some (counts m,()):=by
 have:=aub ⟨m.toNat,by omega⟩;rwa [show(((⟨m.toNat,by omega⟩:Fin 15).val:Nat):Int)=m from Int.toNat_of_nonneg h0]at this
theorem Ik: ∀{s:gq},iL s-> ∀f∈s,0<=f.1/\f.1<=14
 |[],h=>by cases h
 |[f],h=>by
  intro g hg;rw[List.mem_singleton.1 hg];have:f.1=0:=h;omega
 |f::g::r,h=>by
  intro q hq;rcases List.mem_cons.1 hq with rfl|h1
  ·have:=h.1;have:=h.2.1;omega
  ·exact Ik h.2.2.2 q h1
theorem an8 {s:gq} (hg:iL s) {n:Nat} (hn:n<(pq s).length):0<=((pq s).getD n dF).1/\((pq s).getD n dF).1<=14:=by
 have hm:(pq s).getD n dF∈pq s:=by rw[List.getD_eq_getElem?_getD,List.getElem?_eq_getElem hn];exact aQ hn
 generalize (pq s).getD n dF=q at hm;unfold pq at hm;rw[List.mem_reverse,List.mem_map]at hm;obtain⟨f,hf,rfl⟩:=hm;exact Ik hg f (List.dropLast_subset s hf)
theorem aGy {s:gq} (hg:iL s) {n:Nat} (hn:n<(pq s).length):cO (so s) ((n+1:Nat):Int)=((letter ((pq s).getD n dF).1).toNat:Int)/\gV (so s) ((n+1:Nat):Int)=true:=by
 obtain⟨t,ht⟩:=aE4 hg;rw[ht];refine⟨?_,eP (by omega) (by simp;omega)⟩;unfold cO;rw[aP,List.getD_cons_succ,List.getD_eq_getElem?_getD,List.getD_eq_getElem?_getD,List.getElem?_map,List.getElem?_eq_getElem hn];rfl
theorem xZ (s:gq):(pq s).length=(Bj s).length:=by rw[<-tJ,ay]
theorem ast {s:gq} {n:Nat} {v:Int} (h:(Bj s)[n]? =some v):((pq s).getD n dF).2.1=v/\n<(pq s).length:=by
 obtain⟨n1,n2⟩:=List.getElem?_eq_some_iff.1 h;have hl:n<(pq s).length:=by rw[xZ];exact n1
 refine⟨?_,hl⟩;rw[oK hl,tJ,List.getD_eq_getElem?_getD,h];rfl
theorem aDe {s:gq} {i:Int} (h:PL s i): ∀m n,m<(pq s).length->n<(pq s).length->((pq s).getD m dF).2.1=((pq s).getD n dF).2.1->m=n:=fun m n hm hn e=>by
 rw[oK hm,oK hn,tJ]at e;rw[xZ]at hm hn;rw[List.getD_eq_getElem?_getD,List.getD_eq_getElem?_getD,List.getElem?_eq_getElem hm,List.getElem?_eq_getElem hn]at e;exact abY h.up (List.getElem?_eq_getElem hm) (by rw[List.getElem?_eq_getElem hn];exact congrArg some (by simpa using e.symm))
theorem asi {s:gq} {i v:Int} {n:Nat} (h:PL s i) (hn:(Bj s)[n]? =some v):GX (pq s) v=some ((pq s).getD n dF).1:=by
 obtain⟨h1,h2⟩:=ast hn;rw[<-h1];exact Ru (aDe h) h2
theorem ash {s:gq} {v:Int} (h:v∉Bj s):GX (pq s) v=none:=by
 apply Ij;intro m hm e;apply h;rw[oK hm,tJ]at e;rw[xZ]at hm;rw[List.getD_eq_getElem?_getD,List.getElem?_eq_getElem hm]at e;rw[<-e];exact aQ hm
theorem ap6 {s:gq} {i v:Int} {n:Nat} (h:PL s i) (hn:(Bj s)[n]? =some v):atM s v=((n+1:Nat):Int):=by
 unfold atM;rw[axa h.up hn]
theorem ap7 {s:gq} {v:Int} (h:v∉Bj s):atM s v=0:=by
 unfold atM;have:(Bj s).findIdx? (· ==v)=none:=by
  rw[List.findIdx?_eq_none_iff];intro x hx;by_cases e:x=v
  ·exact absurd (e▸hx) h
  ·simp[e]
 rw[this]
def iZ (s:di) (k:Nat):gq×Bool:=mV (s.take k) 0 fJ
theorem aew: ∀(l m:di) (a:Int) (x:gq×Bool),mV (l++m) a x=mV m (a+l.length) (mV l a x)
 |[],m,a,x=>by simp[mV]
 |b::l,m,a,x=>by
  rw[List.cons_append,mV,mV,aew l m];congr 1;simp;omega
theorem Gt {s:List UInt8} {k:Nat} (h:k<s.length):iZ s (k+1)=gu (iZ s k).1 (iZ s k).2 (cO s k) k:=by
 unfold iZ;rw[List.take_add_one,List.getElem?_eq_getElem h,Option.toList_some,aew,mV,mV,byte_at h,aJ,Nat.min_eq_left (by omega)];simp[jl]
theorem wI (s:di) (k:Nat):iL (iZ s k).1/\(iZ s k).1.length<=k+1:=by
 have h:=DW (s.take k) 0 fJ kG;refine⟨h.1, ?_⟩;have h2:=h.2;have:fJ.1.length=1:=rfl;rw[aJ]at h2;unfold iZ;omega
theorem Lm (s:di): ∀k,k<=s.length->PL (iZ s k).1 k
 |0,_=>auy
 |k+1,h=>by
  rw[Gt (by omega)];have:=azE (wI s k).1 (Lm s k (by omega)) (iZ s k).2 (cO s k);simpa using this
end
section
open Bool renaming false_eq_true → aj
open List renaming length_append → ae, append_assoc → ag, length_cons → ak, length_map → ay, map_cons → az, length_drop → aF, nil_append → aH, drop_of_length_le → aI, length_take → aJ, drop_eq_getElem_cons → aO, getElem_mem → aQ, drop_zero → aX, length_nil → aY, map_nil → bi, mem_of_mem_take → bC
open Nat renaming le_refl → ah, lt_or_ge → aS
open Go.RowKit
abbrev RSt:=List UInt8×(List Int×qM)
def dS:RSt:=([],([],(false,())))
def ul (s:di) (n:Nat):List RSt:=(List.range n).map fun k=>Dp (iZ s k)
theorem pF (s:di) (n:Nat):(ul s n).length=n:=by simp[ul]
theorem Jb (s:di) {n k:Nat} (h:k<n):dL (ul s n) dS k=Dp (iZ s k):=by
 rw[oP (by rw[pF];exact h)];simp[ul]
theorem ab6 (s:di) (hs:s.length<=100000): ∀(N k:Nat),s.length-k<N->k<=s.length->
  FN N s (k:Int) (ul s (k+1))=some (.inl ((s,()),(ul s (s.length+1),())))
 |0,k,h,_=>by omega
 |N+1,k,h,hk=>by
  rw[FN,Qd];by_cases e:k<s.length
  ·have hg:=wI s k;have hn:dL (ul s (k+1)) ([],([],(false,()))) (dG (k:Int))=Dp (iZ s k):=by
    rw[show dG (k:Int)=k from rfl];exact Jb s (by omega)
   have hstep:Rx (so (iZ s k).1,(po (iZ s k).1,((iZ s k).2,()))) (cO s (k:Int)) (k:Int)=some (Dp (iZ s (k+1)),()):=by
    rw[Gt e];exact afU hg.1 (by omega) _ (lV s k) _
   have hcat:cu (ul s (k+1)) [Dp (iZ s (k+1))]=ul s (k+2):=by
    unfold cu ul;rw[List.range_succ (n:=k+1),List.map_append];rfl
   rw[bZ (fH (by rw[bT];omega)),bZ (eP (by omega) (by rw[pF];omega)),bZ (eP (by omega) (by omega)),bZ (qE (by rw[pF];simp only[dG];omega)),hn];simp only[Dp];rw[hstep,bK];simp only;rw[hcat,bZ (by unfold eQ;rw[pF];exact decide_eq_true (by unfold lm;omega)),dC (by omega) (by omega),show(k:Int)+1=((k+1:Nat):Int) by omega];exact ab6 s hs N (k+1) (by omega) (by omega)
  ·rw[dE (iy (by rw[bT];omega)),show k=s.length by omega]
theorem alj (s:di) (A:List RSt) (out:List kS) (from_ n:Int) (P:List Int) (m f to_:Int) (op:Bool) (hol:out.length<1000000) (hn:n<1000000)
  (hA:(dL A dS (dG (dA .i64 from_ 1))).2.1=P) (hA2:gV A (dA .i64 from_ 1)=true) (hA3:oD (dG (dA .i64 from_ 1)) A=true) (hP:1<n->gV P (eG .i64 n 1)=true)
  (j:Nat) (hj:1<n->j<out.length/\(dL out dP j).2.1=fZ P 0 (eG .i64 n 1)) (hinj: ∀a b,a<out.length->b<out.length->(dL out dP a).2.1=(dL out dP b).2.1->a=b):
  ∀(N k:Nat),out.length-k<N->k<=out.length->
  Ap N s from_ n (k:Int) m f to_ (if 1<n/\j<k then(j:Int)else-1) op out A=some (.inl ((s,from_,n,()),((m,f,to_,(if 1<n then(j:Int)else-1),op,()),out,A,())))
 |0,k,h,_=>by omega
 |N+1,k,h,hk=>by
  rw[Ap,KY];by_cases e:k<out.length
  ·have ih:=alj s A out from_ n P m f to_ op hol hn hA hA2 hA3 hP j hj hinj N (k+1) (by omega) (by omega);rw[bZ (fH (by rw[bT];omega)),dC (a:=(k:Int)) (by omega) (by omega),show(k:Int)+1=((k+1:Nat):Int) by omega];by_cases e1:1<n
   ·obtain⟨hj1,hj2⟩:=hj e1;have hA':(dL A ([],([],(false,()))) (dG (dA .i64 from_ 1))).2.1=P:=hA;rw[bZ (fH e1),bZ (eP (by omega) (by omega)),bZ (qE (by simp only[dG];omega)),hA2,hA3,hA',hP e1];simp only[cond_true];by_cases e2:k=j
    ·subst e2;have:(dL out (0,(0,(0,(0,(false,()))))) (dG (k:Int))).2.1=fZ P 0 (eG .i64 n 1):=hj2;rw[if_pos ⟨e1,by omega⟩]at ih;rw[bZ (fV this)];exact ih
    ·have: ¬(dL out (0,(0,(0,(0,(false,()))))) (dG (k:Int))).2.1=fZ P 0 (eG .i64 n 1):=fun he=>e2 (hinj k j e hj1 (he.trans hj2.symm));rw[dE (dW this)];by_cases e3:j<k
     ·rw[if_pos ⟨e1,by omega⟩]at ih ⊢;exact ih
     ·rw[if_neg (fun h=>by omega)]at ih ⊢;exact ih
   ·rw[if_neg (fun h=>e1 h.1)]at ih ⊢;rw[dE (iy e1)];exact ih
  ·rw[dE (iy (by rw[bT];omega))];by_cases e1:1<n
   ·rw[if_pos ⟨e1,by have:=(hj e1).1;omega⟩,if_pos e1]
   ·rw[if_neg (fun h=>e1 h.1),if_neg e1]
theorem WB (s:di) (hs:s.length<=100000) (out:List kS) (f n:Nat) (up:Int): ∀(N k:Nat) (m:Int) (p:kS),s.length+1-k<N->f<k->k<=s.length->
  (Bj (iZ s k).1)[n]? =some (f:Int)->p.1=counts ((pq (iZ s k).1).getD n dF).1->p.2.1=f->p.2.2.2.2.1=true->p.2.2.2.1=up->
  xq N s (f:Int) ((n+1:Nat):Int) (k:Int) m f (s.length:Int) up true out (ul s (s.length+1))=
   some (.inl ((s,(f:Int),()),(((wV (s.drop k) k (iZ s k) p).1,(f:Int),(if(wV (s.drop k) k (iZ s k) p).2.2.2.2.1=true then(s.length:Int)else(wV (s.drop k) k (iZ s k) p).2.2.1),up,(wV (s.drop k) k (iZ s k) p).2.2.2.2.1,()),out,ul s (s.length+1),())))
   /\(wV (s.drop k) k (iZ s k) p).2.2.2.1=up
 |0,k,m,p,h,_,_,_,_,_,_,_=>by omega
 |N+1,k,m,p,h,hf,hk,hpl,hp1,hp2,hp3,hp4=>by
  have hg:=wI s k;have hPL:=Lm s k hk;obtain⟨hfr,hfl⟩:=ast hpl;have hn:dL (ul s (s.length+1)) ([],([],(false,()))) (dG (k:Int))=Dp (iZ s k):=by
   rw[show dG (k:Int)=k from rfl];exact Jb s (by omega)
  have hin:gV (ul s (s.length+1)) (k:Int)=true:=eP (by omega) (by rw[pF];omega);have hlt:oD (dG (k:Int)) (ul s (s.length+1))=true:=qE (by rw[pF];simp only[dG];omega);obtain⟨hso,hsi⟩:=aGy hg.1 hfl;have hmo:=an8 hg.1 hfl;rw[xq,AY,bZ (qV (by rw[bT];omega)),hin,hlt,hn];simp only[cond_true,Dp];rw[aBf hg.1 (by omega),bK,ap6 hPL hpl,dE (dW (by omega)),hsi,hso];simp only[cond_true];rw[aEv hmo.1 hmo.2,bK,dC (by omega) (by omega),show(k:Int)+1=((k+1:Nat):Int) by omega];simp only;by_cases e:k<s.length
  ·have hd:s.drop k=s[k]::s.drop (k+1):=aO e;have hst:=Gt e;have hb:cO s (k:Int)=jl s[k]:=byte_at e;rw[hb]at hst;have hgy:=wI s (k+1);have hPLy:=Lm s (k+1) (by omega);have hfe:wV (s.drop k) k (iZ s k) p=wV (s.drop (k+1)) ((k+1:Nat):Int) (iZ s (k+1)) (nK (pq (iZ s (k+1)).1) k p):=by
    rw[hd,wV,<-hst];rfl
   rw[hfe];rcases stay hg.1 hPL hpl (iZ s k).2 (jl s[k])with h1|h1
   ·rw[<-hst]at h1;have hu:nK (pq (iZ s (k+1)).1) k p=(counts ((pq (iZ s (k+1)).1).getD n dF).1,p.2):=by
     unfold nK;rw[if_pos hp3,hp2,asi hPLy h1]
    rw[hu];exact WB s hs out f n up N (k+1) _ _ (by omega) (by omega) (by omega) h1 rfl hp2 hp3 hp4
   ·rw[<-hst]at h1;have hu:nK (pq (iZ s (k+1)).1) k p=KQ (k+1) p:=by
     unfold nK;rw[if_pos hp3,hp2,ash h1]
    have hn':dL (ul s (s.length+1)) ([],([],(false,()))) (dG ((k+1:Nat):Int))=Dp (iZ s (k+1)):=by
     rw[show dG ((k+1:Nat):Int)=k+1 from rfl];exact Jb s (by omega)
    have hin':gV (ul s (s.length+1)) ((k+1:Nat):Int)=true:=eP (by omega) (by rw[pF];omega);have hlt':oD (dG ((k+1:Nat):Int)) (ul s (s.length+1))=true:=qE (by rw[pF];simp only[dG];omega);rw[hu,VF _ _ _ _ rfl];obtain⟨N',rfl⟩: ∃N',N=N'+1:=⟨N-1,by omega⟩;rw[xq,AY,bZ (qV (by rw[bT];omega)),hin',hlt',hn'];simp only[cond_true,Dp];rw[aBf hgy.1 (by omega),bK,ap7 h1,bZ (fV rfl)];refine⟨?_,hp4⟩;simp only[KQ,hp1];rfl
  ·have hkl:k=s.length:=by omega
   subst hkl;rw[List.drop_length,wV];obtain⟨N',rfl⟩: ∃N',N=N'+1:=⟨N-1,by omega⟩;rw[xq,AY,dE (Dc (by rw[bT];omega)),if_pos hp3,hp3,hp1];exact⟨rfl,hp4⟩
theorem aor (F:List GV) (a:Int):Yz F a=decide ((F.map (·.2.1)).getLast?=some a):=by
 unfold Yz;rw[List.getLast?_map];cases F.getLast? with
 |none=>rfl
 |some f=>simp
theorem YD (s:di) (hs:s.length<=100000): ∀(N k:Nat) (out:List kS),s.length-k<N->k<=s.length->out.length<=k->
  (∀a b,a<out.length->b<out.length->(dL out dP a).2.1=(dL out dP b).2.1->a=b)->(∀p∈out,p.2.1<(k:Int))->(∀v∈Bj (iZ s k).1,v∈out.map (·.2.1))->
  BO N s (k:Int) out (ul s (s.length+1))=some (.inl ((),(out++(uo (s.drop k) k (iZ s k) (out.map (·.2.1))).map (uA s),())))
 |0,k,out,h,_,_,_,_,_=>by omega
 |N+1,k,out,h,hk,hol,hinj,hlt,hex=>by
  rw[BO,Qe];by_cases e:k<s.length
  ·have hd:s.drop k=s[k]::s.drop (k+1):=aO e;have hst:=Gt e;have hb:cO s (k:Int)=jl s[k]:=byte_at e;rw[hb]at hst;have hg:=wI s k;have hPL:=Lm s k hk;have hgy:=wI s (k+1);have hPLy:=Lm s (k+1) (by omega);have hk1:dA .i64 (k:Int) 1=((k+1:Nat):Int):=by rw[dC (by omega) (by omega)];omega
   have hn:dL (ul s (s.length+1)) ([],([],(false,()))) (dG ((k+1:Nat):Int))=Dp (iZ s (k+1)):=by
    rw[show dG ((k+1:Nat):Int)=k+1 from rfl];exact Jb s (by omega)
   have hin:gV (ul s (s.length+1)) ((k+1:Nat):Int)=true:=eP (by omega) (by rw[pF];omega);have hltl:oD (dG ((k+1:Nat):Int)) (ul s (s.length+1))=true:=qE (by rw[pF];simp only[dG];omega);rw[bZ (fH (by rw[bT];omega)),hk1,hin,hltl,hn,hd,uo,<-hst];simp only[cond_true,Dp];rw[aBf hgy.1 (by omega),bK,aor,tJ];obtain⟨c,hc,hpl⟩:=KE hg.1 (iZ s k).2 (jl s[k]) k;rw[<-hst]at hpl;have hcl:((Bj (iZ s k).1).take c).length=c:=by rw[aJ];omega
   have hexy: ∀v∈(Bj (iZ s k).1).take c,v∈out.map (·.2.1):=fun v hv=>hex v (bC hv);rcases hpl with hpl|hpl
   ·
    have hno:(k:Int)∉Bj (iZ s (k+1)).1:=fun hv=>by
     rw[hpl]at hv;have:=hPL.lt _ (bC hv);omega
    have hl: ¬(Bj (iZ s (k+1)).1).getLast?=some (k:Int):=fun hv=>hno (List.mem_of_getLast? hv);rw[ap7 hno,bZ (fV rfl),decide_eq_false hl];simp only[aj,if_false];exact YD s hs N (k+1) out (by omega) (by omega) (by omega) hinj (fun p hp=>by have:=hlt p hp;omega) (fun v hv=>by rw[hpl]at hv;exact hexy v hv)
   ·have hidx:(Bj (iZ s (k+1)).1)[c]? =some (k:Int):=by
     rw[hpl,List.getElem?_append_right (by omega),hcl];simp
    have hl:(Bj (iZ s (k+1)).1).getLast?=some (k:Int):=by rw[hpl];simp
    have hlen:(pq (iZ s (k+1)).1).length=c+1:=by rw[xZ,hpl,ae,hcl];rfl
    rw[ap6 hPLy hidx,dE (dW (by omega)),decide_eq_true hl];simp only[if_true];have hfly:=JE (iZ s (k+1)).1;have hgy2:=hgy.2;have hP1:1<((c+1:Nat):Int)->gV (po (iZ s (k+1)).1) (eG .i64 ((c+1:Nat):Int) 1)=true:=fun h1=>by
     rw[iJ (by omega) (by omega)];refine eP (by omega) ?_;rw[TE];have:=JE (iZ s (k+1)).1;omega
    obtain⟨t,ht⟩:=auA hgy.1;have hgp:1<((c+1:Nat):Int)->fZ (po (iZ s (k+1)).1) 0 (eG .i64 ((c+1:Nat):Int) 1)=((pq (iZ s (k+1)).1).getD (c-1) dF).2.1:=fun h1=>by
     rw[iJ (by omega) (by omega),ht,oK (by omega),tJ];unfold fZ;rw[show(((c+1:Nat):Int)-1).toNat=(c-1)+1 by omega,List.getD_cons_succ]
    have hupex: ∃j:Nat,1<((c+1:Nat):Int)->j<out.length/\(dL out dP j).2.1=((pq (iZ s (k+1)).1).getD (c-1) dF).2.1/\asD (out.map (·.2.1)) ((pq (iZ s (k+1)).1).getD (c-1) dF).2.1=(j:Int):=by
     by_cases h1:1<((c+1:Nat):Int)
     ·have hmem:((pq (iZ s (k+1)).1).getD (c-1) dF).2.1∈out.map (·.2.1):=by
       refine hexy _ ?_;rw[oK (by omega),tJ,hpl,List.getD_eq_getElem?_getD,List.getElem?_append_left (by omega),List.getElem?_eq_getElem (by omega)];exact aQ _
      obtain⟨j,hj1,hj2⟩:=List.getElem_of_mem hmem;rw[ay]at hj1;rw[List.getElem_map]at hj2;have hj3:(dL out dP j).2.1=((pq (iZ s (k+1)).1).getD (c-1) dF).2.1:=by rw[oP hj1];exact hj2
      exact⟨j,fun _=>⟨hj1,hj3,by rw[<-hj3];exact ac0 hinj hj1⟩⟩
     ·exact⟨0,fun h2=>absurd h2 h1⟩
    obtain⟨j,hj⟩:=hupex;have hup:=alj s (ul s (s.length+1)) out (k:Int) ((c+1:Nat):Int) (po (iZ s (k+1)).1) 0 (k:Int) (s.length:Int) true (by omega) (by have:=JE (iZ s (k+1)).1;omega)
     (by rw[hk1];exact congrArg (·.2.1) hn) (by rw[hk1];exact hin) (by rw[hk1];exact hltl) hP1 j (fun h1=>⟨(hj h1).1,(hj h1).2.1.trans (hgp h1).symm⟩) hinj bU 0 (dO (by omega)) (by omega)
    rw[if_neg (by omega)]at hup;rw[show Ap bU s (k:Int) ((c+1:Nat):Int) 0 0 (k:Int) (bP s) (-1) true out (ul s (s.length+1))=_ from hup,bK];simp only[dV];have hnew:zf (pq (iZ s (k+1)).1) k (out.map (·.2.1))=(counts ((pq (iZ s (k+1)).1).getD c dF).1,(k:Int),0,(if 1<((c+1:Nat):Int)then(j:Int)else-1),true,()):=by
     unfold zf;have hgD:(pq (iZ s (k+1)).1).getLastD dF=(pq (iZ s (k+1)).1).getD c dF:=by
      rw[List.getLastD_eq_getLast?,List.getLast?_eq_getElem?,hlen,List.getD_eq_getElem?_getD];rfl
     rw[hgD,hlen];by_cases h1:1<((c+1:Nat):Int)
     ·rw[if_neg (by omega),if_pos h1,show c+1-2=c-1 by omega,(hj h1).2.2]
     ·rw[if_pos (by omega),if_neg h1]
    obtain⟨hsc,hscu⟩:=WB s hs out k c (if 1<((c+1:Nat):Int)then(j:Int)else-1) bU (k+1) 0 (zf (pq (iZ s (k+1)).1) k (out.map (·.2.1))) (dO (by omega)) (by omega) (by omega) hidx (by rw[hnew]) (by rw[hnew]) (by rw[hnew]) (by rw[hnew]);rw[hk1,hsc,bK];simp only;have hff:=E8 (s.drop (k+1)) ((k+1:Nat):Int) (iZ s (k+1)) (zf (pq (iZ s (k+1)).1) k (out.map (·.2.1)));have hnf:(zf (pq (iZ s (k+1)).1) k (out.map (·.2.1))).2.1=(k:Int):=rfl;rw[hnf]at hff;rw[show((k:Int)+1)=((k+1:Nat):Int) by omega];generalize hq:wV (s.drop (k+1)) ((k+1:Nat):Int) (iZ s (k+1)) (zf (pq (iZ s (k+1)).1) k (out.map (·.2.1)))=q at*;have hfit: ∀x:kS,eQ (cu out [x]) 40=true:=fun x=>by
     unfold eQ cu;exact decide_eq_true (by rw[ae];simp only[ak,aY];unfold lm;omega)
    have go:BO N s ((k+1:Nat):Int) (out++[uA s q]) (ul s (s.length+1))=some (.inl ((),(out++(q::uo (s.drop (k+1)) ((k+1:Nat):Int) (iZ s (k+1)) (out.map (·.2.1)++[(k:Int)])).map (uA s),()))):=by
     have hfq:(uA s q).2.1=(k:Int):=(LX s q).trans hff;have hn1: ∀a,a<out.length->dL (out++[uA s q]) dP a=dL out dP a:=fun a ha=>by
      unfold dL;rw[List.getD_eq_getElem?_getD,List.getD_eq_getElem?_getD,List.getElem?_append_left ha]
     have hn2:dL (out++[uA s q]) dP out.length=uA s q:=by
      unfold dL;rw[List.getD_eq_getElem?_getD,List.getElem?_append_right (ah _)];simp
     have hltn: ∀a,a<out.length->(dL out dP a).2.1<(k:Int):=fun a ha=>by rw[oP ha];exact hlt _ (aQ ha)
     have ih:=YD s hs N (k+1) (out++[uA s q]) (by omega) (by omega) (by simp;omega)
      (fun a b ha hb he=>by
       rw[ae]at ha hb;simp only[ak,aY]at ha hb;rcases aS a out.length with h1|h1<;>rcases aS b out.length with h2|h2
       ·rw[hn1 a h1,hn1 b h2]at he;exact hinj a b h1 h2 he
       ·rw[hn1 a h1,show b=out.length by omega,hn2,hfq]at he;have:=hltn a h1;omega
       ·rw[hn1 b h2,show a=out.length by omega,hn2,hfq]at he;have:=hltn b h2;omega
       ·omega)
      (fun p hp=>by
       rcases List.mem_append.1 hp with h1|h1
       ·have:=hlt p h1;omega
       ·rw[List.mem_singleton.1 h1,hfq];omega)
      (fun v hv=>by
       rw[hpl]at hv;rw[List.map_append];rcases List.mem_append.1 hv with h1|h1
       ·exact List.mem_append_left _ (hexy v h1)
       ·rw[List.mem_singleton.1 h1];exact List.mem_append_right _ (by simp[hfq]))
     rw[ih];rw[List.map_append,ag,az];simp only[az,bi,hfq];rfl
    by_cases e12:q.1=12
    ·rw[bZ (fV e12),hk1,awJ (by omega) (by omega),bK,hfit,cond_true];have hpe:=ag6 (s.drop (k+1));rw[aF]at hpe;rw[dC (by omega) (by omega)];have hfin:uA s q=(q.1,(k:Int),((k+1:Nat):Int)+((prl (s.drop (k+1)):Nat):Int),(if 1<((c+1:Nat):Int)then(j:Int)else-1),false,()):=by
      unfold uA;rw[if_pos e12,hff,hscu,show((k:Int)+1).toNat=k+1 by omega,show(k:Int)+1=((k+1:Nat):Int) by omega]
     rw[<-hfin];exact go
    ·rw[dE (dW e12),hk1,hfit,cond_true];have hfin:uA s q=(q.1,(k:Int),(if q.2.2.2.2.1=true then(s.length:Int)else q.2.2.1),(if 1<((c+1:Nat):Int)then(j:Int)else-1),q.2.2.2.2.1,()):=by
      unfold uA;rw[if_neg e12];by_cases ho:q.2.2.2.2.1=true
      ·rw[if_pos ho,if_pos ho,hff,hscu,ho]
      ·rw[if_neg ho,if_neg ho,<-hff,<-hscu]
     rw[<-hfin];exact go
  ·rw[dE (iy (by rw[bT];omega)),aI (by omega),uo];simp
theorem aKd (s:di) (hs:s.length<=100000):ain s=some (dh s,()):=by
 unfold ain;have h1:=ab6 s hs bU 0 (NS (by omega)) (by omega);have h2:=YD s hs bU 0 [] (NS (by omega)) (by omega) (by simp) (fun a b ha=>by cases ha) (fun p hp=>by cases hp) (fun v hv=>by cases hv);rw[show Rw=some (Dp fJ,()) from rfl,bK,show FN bU s 0 [(Dp fJ,()).1]=_ from h1,bK];simp only[dV];rw[show BO bU s 0 [] (ul s (s.length+1))=_ from h2,bK];simp only[aH,aX];rw[yA];rfl
end
section
open List renaming length_cons → ak, length_map → ay, mem_cons_of_mem → aA, length_drop → aF
open Nat renaming le_refl → ah
open Go.RowKit
theorem agz {g f:Int×Int} {r:gq} (hg:iL (f::g::r)):g.1≠13:=by
 have:=hg.2.2.1;unfold Sz at this;omega
theorem E5 {m:Int} {f:Int×Int} {r:gq} (hf:f.1=m\/m≠13/\f.1≠13) (hr: ∀g r',r=g::r'->g.1≠13) (hr0:r=[]->m≠13) (fr:Bool) (b i:Int):
  ∀g r',(jv m (f::r) fr b i).1=g::r'->g.1=13->g.2=i:=by
 intro g r' h h13;have hh: ∀{x:Int×Int} {y:gq},x::y=g::r'->x=g:=fun h=>(List.cons.inj h).1;have keep:m≠13->f::r=g::r'->False:=fun hm h=>by
  have:=hh h;subst this;rcases hf with e|⟨_,e⟩<;>omega
 have tl:r=g::r'->False:=fun h=>hr g r' h h13;have psh: ∀k,(k,i)::f::r=g::r'->g.2=i:=fun k h=>by rw[<-hh h]
 unfold jv at h;split at h
 ·rename_i hm
  have hm13:m≠13:=by omega
  unfold KF at h
  repeat' split at h
  all_goals first|exact psh _ h|exact(keep hm13 h).elim|exact(tl h).elim
 ·split at h
  ·exact(tl h).elim
  ·rename_i hm13
   have inn: ∀s',DZ (f::r) b i=some s'->s'=g::r'->g.2=i:=fun s' hs e=>by
    subst e;unfold DZ at hs;split at hs
    ·exact psh 13 (Option.some.inj hs)
    ·split at hs
     ·exact psh 12 (Option.some.inj hs)
     ·split at hs
      ·exact psh 6 (Option.some.inj hs)
      ·cases hs
   have chg:(11,((f::r).headD (0,0)).2)::(f::r).tail=g::r'->False:=fun h=>by
    have:=hh h;subst this;simp at h13
   split at h
   ·split at h
    ·exact(tl h).elim
    ·exact(keep hm13 h).elim
   ·split at h
    ·split at h
     ·exact(tl h).elim
     ·exact(keep hm13 h).elim
    ·split at h
     ·split at h
      ·exact(tl h).elim
      ·split at h
       ·exact psh _ h
       ·exact(keep hm13 h).elim
     ·split at h
      ·rename_i s' hs
       exact inn s' hs h
      ·repeat' split at h
       all_goals first
        |exact psh _ h
        |exact(keep hm13 h).elim
        |exact(tl h).elim
        |exact(chg h).elim
theorem arM {s:gq} (hg:iL s) (fr:Bool) (b i:Int): ∀g∈(gu s fr b i).1,g.1=13->g.2=i:=by
 have key: ∀g r',(gu s fr b i).1=g::r'->g.1=13->g.2=i:=by
  cases s with
  |nil=>cases hg
  |cons f r=>
  intro g r' h h13;have hh: ∀{x:Int×Int} {y:gq},x::y=g::r'->x=g:=fun h=>(List.cons.inj h).1;have hr: ∀g r',r=g::r'->g.1≠13:=fun g r' e=>by subst e;exact agz hg
  have hr2: ∀g g' r',r=g::g'::r'->g'.1≠13:=fun g g' r' e=>by subst e;exact agz hg.2.2.2
  have ch: ∀k:Int,k≠13->(k,f.2)::r=g::r'->False:=fun k hk h=>by
   have:=hh h;subst this;exact hk h13
  simp only[gu]at h;split at h
  ·split at h
   ·exact(ch 3 (by omega) h).elim
   ·split at h
    ·refine(ch _ ?_ h).elim;split<;>omega
    ·split at h
     ·exact(hr _ _ h h13).elim
     ·cases r with
      |nil=>rename_i e12 _ _ _;have:f.1=0:=hg;omega
      |cons q r=>
       exact E5 (.inl rfl) (fun g r' e=>hr2 q g r' (by rw[e])) (fun _=>by simpa using hr q r rfl) fr b i g r' h h13
  ·split at h
   ·split at h
    ·exact(ch 9 (by omega) h).elim
    ·exact E5 (f:=(1,f.2)) (.inl rfl) hr (fun _=>by omega) fr b i g r' h h13
   ·split at h
    ·split at h
     ·exact(hr _ _ h h13).elim
     ·exact E5 (f:=(9,f.2)) (.inl rfl) hr (fun _=>by omega) fr b i g r' h h13
    ·refine E5 (.inl rfl) hr (fun e=> ?_) fr b i g r' h h13;subst e;have:f.1=0:=hg;omega
 have hgs:=(good_step hg fr b i).1;revert key hgs;generalize (gu s fr b i).1=y;intro key hgs g hm h13;cases y with
 |nil=>cases hm
 |cons f r=>
  rcases List.mem_cons.1 hm with e|hm
  ·subst e;exact key _ _ rfl h13
  ·exfalso;clear key
   induction r generalizing f with
   |nil=>cases hm
   |cons q r ih=>
    rcases List.mem_cons.1 hm with e|hm2
    ·subst e;exact agz hgs h13
    ·exact ih q hgs.2.2.2 (aA _ hm2) hm2
def PI (p:kS) (a:Int):Prop:=0<=p.2.1/\p.2.1<a/\(p.2.2.2.2.1=true/\(p.1=13->p.2.1+1=a)\/p.2.2.2.2.1=false/\p.2.1+2<=p.2.2.1/\p.2.2.1<=a/\(p.1=13->p.2.2.1=p.2.1+2))
theorem aly {m:Int} (h:counts m=13):m=13:=by
 unfold counts at h;split at h
 ·omega
 ·split at h
  ·omega
  ·exact h
theorem axl {s:gq} {f:GV} (h:f∈pq s):(f.1,f.2.1)∈s:=by
 unfold pq at h;rw[List.mem_reverse,List.mem_map]at h;obtain⟨g,hg,rfl⟩:=h;exact(List.dropLast_sublist s).subset hg
theorem an4 {F:List GV} {v m:Int} (h:GX F v=some m): ∃f∈F,f.2.1=v/\f.1=m:=by
 unfold GX at h;obtain⟨f,hf,rfl⟩:=Option.map_eq_some_iff.1 h;exact⟨f,List.mem_of_find?_eq_some hf,by simpa using List.find?_some hf,rfl⟩
theorem aER {s:gq} (hg:iL s) (fr:Bool) (b a:Int) {p:kS} (h:PI p a):PI (nK (pq (gu s fr b a).1) a p) (a+1):=by
 obtain⟨h0,h1,h2⟩:=h;unfold nK;rcases h2 with ⟨ho,h3⟩|⟨ho,h3,h4,h5⟩
 ·rw[if_pos ho];split
  ·rename_i m hm
   refine⟨h0,by simp only;omega,.inl ⟨ho,fun h=> ?_⟩⟩;have hm13:m=13:=aly h;obtain⟨f,hf,hv,e⟩:=an4 hm;have:=arM hg fr b a _ (axl hf) (by simp only;omega);simp only at this ⊢;omega
  ·refine⟨h0,by simp only[KQ];omega,.inr ⟨rfl,by simp only[KQ];omega,by simp[KQ],fun h=> ?_⟩⟩;have:=h3 h;simp only[KQ];omega
 ·rw[if_neg (by rw[ho];simp)];exact⟨h0,by omega,.inr ⟨ho,h3,by omega,h5⟩⟩
theorem aEQ {s:gq} (hg:iL s) (fr:Bool) (b:Int) {a:Int} (h0:0<=a) (l:List Int):PI (zf (pq (gu s fr b a).1) a l) (a+1):=
 ⟨h0,by simp only[zf];omega,.inl ⟨rfl,fun h=>by simp only[zf]⟩⟩
theorem ajX: ∀(l:di) (a:Int) (x:gq×Bool) (p:kS),iL x.1->PI p a->PI (wV l a x p) (a+l.length)
 |[],a,x,p,_,h=>by simpa [wV] using h
 |b::l,a,x,p,hg,h=>by
  rw[wV];have:=ajX l (a+1) (gu x.1 x.2 (jl b) a) _ (good_step hg _ _ _).1 (aER hg x.2 (jl b) a h);rw[show a+((b::l).length:Int)=a+1+l.length by simp;omega];exact this
theorem aaY: ∀(l:di) (a:Int) (x:gq×Bool) (fr:List Int),0<=a->iL x.1-> ∀p∈uo l a x fr,PI p (a+l.length)/\a<=p.2.1
 |[],a,x,fr,_,_,p,h=>by cases h
 |b::l,a,x,fr,h0,hg,p,h=>by
  have hgs:=(good_step hg x.2 (jl b) a).1;have ih: ∀fr',p∈uo l (a+1) (gu x.1 x.2 (jl b) a) fr'->PI p (a+((b::l).length:Int))/\a<=p.2.1:=fun fr' hp=>by
   have:=aaY l (a+1) _ fr' (by omega) hgs p hp;rw[show a+((b::l).length:Int)=a+1+l.length by simp;omega];exact⟨this.1,by omega⟩
  rw[uo]at h;split at h
  ·rcases List.mem_cons.1 h with rfl|h
   ·have:=ajX l (a+1) _ _ hgs (aEQ hg x.2 (jl b) h0 fr);rw[show a+((b::l).length:Int)=a+1+l.length by simp;omega];refine⟨this, ?_⟩;rw[E8];simp[zf]
   ·exact ih _ h
  ·exact ih _ h
theorem Xq: ∀(l:di) (a:Int) (x:gq×Bool) (fr:List Int),0<=a->iL x.1->(uo l a x fr).Pairwise (fun p q=>p.2.1<q.2.1)
 |[],a,x,fr,_,_=>List.Pairwise.nil
 |b::l,a,x,fr,h0,hg=>by
  have hgs:=(good_step hg x.2 (jl b) a).1;rw[uo];split
  ·refine List.Pairwise.cons (fun p hp=> ?_) (Xq l (a+1) _ _ (by omega) hgs);have:=(aaY l (a+1) _ _ (by omega) hgs p hp).2;rw[E8];simp only[zf];omega
  ·exact Xq l (a+1) _ _ (by omega) hgs
structure PF (s:di) (p:kS):Prop where
 f0:0<=p.2.1
 f1:p.2.1<s.length
 t0:p.2.1<p.2.2.1
 t1:p.2.2.1<=s.length
 op:p.2.2.2.2.1=true->p.2.2.1=s.length/\p.1≠12
 sh:p.2.2.2.2.1=false->p.1≠12->p.2.1+2<=p.2.2.1
 es:p.1=13->p.2.2.1<=p.2.1+2
 dl:p.1=12->p.2.2.1=p.2.1+1+((prl (s.drop (p.2.1+1).toNat):Nat):Int)
theorem aoy (s:di): ∀p∈dh s,PF s p:=by
 intro p hp;rw[yA]at hp;obtain⟨q,hq,rfl⟩:=List.mem_map.1 hp;obtain⟨⟨h0,h1,h2⟩,_⟩:=aaY s 0 fJ [] (by omega) kG q hq;rw[Int.zero_add]at h1 h2;have hl:=ag6 (s.drop (q.2.1+1).toNat);rw[aF]at hl;unfold uA;split
 ·rename_i h12
  exact⟨h0,h1,by simp only;omega,by simp only;omega,fun h=>(by cases h),fun _ h=>absurd h12 h,fun h=>(by simp only at h;omega),fun _=>rfl⟩
 ·rename_i h12
  split
  ·rename_i ho
   refine⟨h0,h1,h1,Int.le_refl _,fun _=>⟨rfl,h12⟩,fun h=>(by cases h),fun h=> ?_,fun h=>absurd h h12⟩;rcases h2 with ⟨_,h3⟩|⟨h3,_⟩
   ·have:=h3 h;simp only;omega
   ·rw[ho]at h3;cases h3
  ·rename_i ho
   rcases h2 with ⟨h3,_⟩|⟨h3,h4,h5,h6⟩
   ·exact absurd h3 ho
   ·exact⟨h0,h1,by omega,h5,fun h=>absurd h ho,fun _ _=>h4,fun h=>by have:=h6 h;omega,fun h=>absurd h h12⟩
theorem Wj (s:di):(dh s).Pairwise (fun p q=>p.2.1<q.2.1):=by
 rw[yA];refine List.pairwise_map.2 ((Xq s 0 fJ [] (by omega) kG).imp fun h=> ?_);rw[LX,LX];exact h
theorem Cj (s:di):(dh s).length<=s.length:=by
 have h: ∀(l:di) (a:Int) (x:gq×Bool) (fr:List Int),(uo l a x fr).length<=l.length:=by
  intro l
  induction l with
  |nil=>intro a x fr;exact ah 0
  |cons b l ih=>
   intro a x fr;rw[uo];split
   ·simp only[ak];have:=ih (a+1) (gu x.1 x.2 (jl b) a) (fr++[a]);omega
   ·have:=ih (a+1) (gu x.1 x.2 (jl b) a) fr;simp only[ak];omega
 rw[yA,ay];exact h s 0 fJ []
end
section
open List renaming length_append → ae, length_drop → aF, length_take → aJ
open Nat renaming le_trans → aW
open Go.RowKit
def wW (L:List kS) (v:Int):Option kS:=L.find? fun p=>p.2.1==v
theorem Rq {L:List kS} {v:Int} {p:kS} (h:wW L v=some p):p∈L/\p.2.1=v:=
 ⟨List.mem_of_find?_eq_some h,by simpa using List.find?_some h⟩
theorem wX {s:List UInt8} {v:Int} {p:kS} (h:wW (dh s) v=some p):PF s p/\p.2.1=v:=
 ⟨aoy s p (Rq h).1,(Rq h).2⟩
def lone (p:kS):Bool:=decide (p.1=12)&&decide (p.2.2.1=p.2.1+1)
def nY (s:di) (p:kS):di:=sub s p.2.1 p.2.2.1
def wS (p:kS):Int:=if p.2.2.2.2.1=true then p.2.2.1 else p.2.2.1-1
def UU (s:di) (p:kS):di:=if p.2.2.1=p.2.1+2/\cO s (p.2.1+1)≠10 then sub s (p.2.1+1) p.2.2.1 else []
def UT (s:di) (p:kS):di:=if p.2.2.1=p.2.1+2 then(if cO s (p.2.1+1)=36\/cO s (p.2.1+1)=96\/cO s (p.2.1+1)=34\/cO s (p.2.1+1)=92 then sub s (p.2.1+1) p.2.2.1 else if cO s (p.2.1+1)=10 then []else nY s p)else []
def iQ (s:di) (L:List kS) (at_:Int):Int×List UInt8×Bool:=
 match wW L at_ with
 |none=>(at_+1,sub s at_ (at_+1),false)
 |some p=>if lone p=true then(at_+1,sub s at_ (at_+1),false)
  else if p.1=13 then(p.2.2.1,UT s p,false)
  else(p.2.2.1,nY s p,true)
def rU (s:di) (L:List kS) (to_:Int):Nat->Int->di
 |0,_=>[]
 |n+1,at_=>if at_<to_ then(iQ s L at_).2.1++rU s L to_ n (iQ s L at_).1 else []
def stepT (s:di) (L:List kS) (at_:Int):Int×List UInt8:=
 match wW L at_ with
 |none=>(at_+1,sub s at_ (at_+1))
 |some p=>if lone p=true\/p.1=14 then(p.2.2.1,nY s p)
  else if p.1=13 then(p.2.2.1,UU s p)
  else if p.1=4 then(p.2.2.1,sub s (p.2.1+1) (wS p))
  else if p.1=5 then(p.2.2.1,rU s L (wS p) s.length (p.2.1+1))
  else(p.2.2.1,nY s p)
def lH (s:di) (L:List kS):Nat->Int->di
 |0,_=>[]
 |n+1,at_=>if at_<s.length then(stepT s L at_).2++lH s L n (stepT s L at_).1 else []
def Jd (s:di):di:=lH s (dh s) s.length 0
theorem Ug {s:List UInt8} {at_:Int}:at_<(iQ s (dh s) at_).1:=by
 unfold iQ;split
 ·simp only;omega
 ·rename_i p hp
  obtain⟨h,e⟩:=wX hp;have:=h.t0;split
  ·simp only;omega
  ·split<;>simp only<;>omega
theorem Uh {s:List UInt8} {at_:Int}:at_<(stepT s (dh s) at_).1:=by
 unfold stepT;split
 ·simp only;omega
 ·rename_i p hp
  obtain⟨h,e⟩:=wX hp;have:=h.t0
  repeat' split
  all_goals (simp only;omega)
theorem aeJ {s:List UInt8} {at_:Int} (h0:at_<s.length):(stepT s (dh s) at_).1<=s.length:=by
 unfold stepT;split
 ·simp only;omega
 ·rename_i p hp
  obtain⟨h,e⟩:=wX hp;have:=h.t1
  repeat' split
  all_goals (simp only;omega)
theorem LK (s:di) (to_:Int): ∀(n m:Nat) (at_:Int),to_-at_<=n->to_-at_<=m->rU s (dh s) to_ n at_=rU s (dh s) to_ m at_
 |0,0,_,_,_=>rfl
 |0,m+1,at_,h,_=>by rw[rU,rU,if_neg (by omega)]
 |n+1,0,at_,_,h=>by rw[rU,rU,if_neg (by omega)]
 |n+1,m+1,at_,h1,h2=>by
  rw[rU,rU];split
  ·have:= @Ug s at_;rw[LK s to_ n m _ (by omega) (by omega)]
  ·rfl
theorem H7 (s:di): ∀(n m:Nat) (at_:Int),(s.length:Int)-at_<=n->(s.length:Int)-at_<=m->lH s (dh s) n at_=lH s (dh s) m at_
 |0,0,_,_,_=>rfl
 |0,m+1,at_,h,_=>by rw[lH,lH,if_neg (by omega)]
 |n+1,0,at_,_,h=>by rw[lH,lH,if_neg (by omega)]
 |n+1,m+1,at_,h1,h2=>by
  rw[lH,lH];split
  ·have:= @Uh s at_;rw[H7 s n m _ (by omega) (by omega)]
  ·rfl
theorem IQ {α:Type} (l:List α) (a b:Int):(sub l a b).length<=l.length:=by
 unfold sub;simp only[aF,aJ];omega
theorem Nl (s:di) (L:List kS) (at_:Int):(iQ s L at_).2.1.length<=s.length:=by
 unfold iQ;split
 ·exact IQ s _ _
 ·split
  ·exact IQ s _ _
  ·split
   ·simp only;unfold UT nY
    repeat' split
    all_goals first|exact IQ s _ _|exact Nat.zero_le _
   ·exact IQ s _ _
theorem acl (s:di) (L:List kS) (to_:Int): ∀(n:Nat) (at_:Int),(rU s L to_ n at_).length<=n*s.length
 |0,_=>by simp[rU]
 |n+1,at_=>by
  rw[rU];split
  ·have:=Nl s L at_;have:=acl s L to_ n (iQ s L at_).1;rw[ae,Nat.succ_mul];omega
  ·exact Nat.zero_le _
theorem Np (s:di) (L:List kS) (at_:Int):(stepT s L at_).2.length<=s.length*s.length+s.length:=by
 have h: ∀a b,(sub s a b).length<=s.length*s.length+s.length:=fun a b=>aW (IQ s a b) (Nat.le_add_left _ _);unfold stepT;split
 ·exact h _ _
 ·split
  ·exact h _ _
  ·split
   ·simp only;unfold UU;split
    ·exact h _ _
    ·exact Nat.zero_le _
   ·split
    ·exact h _ _
    ·split
     ·exact aW (acl _ _ _ _ _) (Nat.le_add_right _ _)
     ·exact h _ _
theorem Vt (s:di) (L:List kS): ∀(n:Nat) (at_:Int),(lH s L n at_).length<=n*(s.length*s.length+s.length)
 |0,_=>by simp[lH]
 |n+1,at_=>by
  rw[lH];split
  ·have:=Np s L at_;have:=Vt s L n (stepT s L at_).1;rw[ae,Nat.succ_mul];omega
  ·exact Nat.zero_le _
end
section
open Tryz
open Go.RowKit
noncomputable def aBj:Code:=(f148.body).getD .skip
noncomputable def aqj:Code:=cA (cA (cA (cB (cB (cA (cA (cB (cA (cA (cB (cA (cB (cB (aBj))))))))))))))
noncomputable def aqi:Code:=cA (cA (cB (cA (cB (cB (aBj))))))
def asP:dZ:=⟨[0,5,9,10,100007],[],[0,5,9,10],[],[6,7],[]⟩
def asO:dZ:=⟨[0,5,8,9,100003],[],[0],[],[6,7],[]⟩
def YS:SP:=⟨us [.v .str,.u,.u,.u,.u,.ptr 1000005 0,.u,.u,.u,.v dD,.v dD] 63,[.box 1000005 129 [.v .str,.v .bool]]⟩
def ZB:SP:=⟨us [.v .str,.u,.u,.u,.u,.ptr 1000005 0,.u,.u,.u,.v dD,.v dD] 63,[.box 1000005 129 [.v .str,.v .bool]]⟩
def aan:SP:=⟨us [.u,.u,.u,.u,.u,.u,.v dD,.v dD] 66,[]⟩
def PT {γ:Type} (rec kE:di->Int->Int->di->Bool->Option γ) (kR:Int->Int->Option γ) (v0:di) (v1 v2:Int) (v3:di) (v4:Bool):Option γ:=bif v4 then bif(iG v2 v1)then bif(gV v0 v2)then bif(bW (cO v0 v2) 9)then rec v0 v1 (dA .i64 v2 1) v3 v4 else kE v0 v1 v2 v3 v4 else none else kE v0 v1 v2 v3 v4 else kE v0 v1 v2 v3 v4
def JQ:Nat->di->Int->Int->di->Bool->Option (ZB.den⊕aan.den)
 |0,_,_,_,_,_=>none
 |n+1,v0,v1,v2,v3,v4=>PT (JQ n) (fun e0 e1 e2 e3 e4=>some (.inl ((e0,e1,e2,()),((e3,e4,()),())))) (fun r0 r1=>some (.inr ((r0,r1,()),()))) v0 v1 v2 v3 v4
def ax8 (n:Nat) (v:YS.den):=JQ n v.1.1 v.1.2.1 v.1.2.2.1 v.2.1.1 v.2.1.2.1
noncomputable def ai1:dI:=gQ asP YS ZB aan (.exit 2) (ax8 bU) 6
def YR:SP:=⟨us [.v .str,.u,.u,.u,.u,.ptr 1000005 0,.u,.u,.v dD,.v dD] 64,[.box 1000005 129 [.v .str,.v .bool]]⟩
def Po:SP:=⟨us [.v .str] 73,[]⟩
def Pz:SP:=⟨us [.u,.u,.u,.u,.u,.u,.v dD,.v dD] 66,[]⟩
def qH {γ:Type} (v0:di) (v2 v1:Int) (v3:di) (v4:Bool) (kR:Int->Int->Option γ) (rec:di->Int->Int->di->Bool->Option γ):Option γ:=bM (JQ bU v0 v2 v1 v3 v4) fun y0=>dV y0 (fun a1=>bif(gm (bP a1.1.1) a1.1.2.2.1 a1.1.2.1)then bif(iq (sub a1.1.1 a1.1.2.2.1 a1.1.2.1) a1.2.1.1)then bif(iG a1.1.2.1 (bP a1.1.1))then kR (dA .i64 a1.1.2.1 1) 1 else kR a1.1.2.1 1 else rec a1.1.1 (dA .i64 a1.1.2.1 1) (dA .i64 a1.1.2.1 1) a1.2.1.1 a1.2.1.2.1 else none) (fun b1=>kR b1.1.1 b1.1.2.1)
def Gn {γ:Type} (rec:di->Int->Int->di->Bool->Option γ) (kE:di->Option γ) (kR:Int->Int->Option γ) (v0:di) (v1 v2:Int) (v3:di) (v4:Bool):Option γ:=bif(leI v2 (bP v0))then bif(iG v2 (bP v0))then bif(gV v0 v2)then bif(!(bW (cO v0 v2) 10))then rec v0 v1 (dA .i64 v2 1) v3 v4 else bif(bW v2 (bP v0))then bif(bW v1 v2)then rec v0 v1 (dA .i64 v2 1) v3 v4 else qH v0 v2 v1 v3 v4 kR rec else qH v0 v2 v1 v3 v4 kR rec else none else bif(bW v2 (bP v0))then bif(bW v1 v2)then rec v0 v1 (dA .i64 v2 1) v3 v4 else qH v0 v2 v1 v3 v4 kR rec else qH v0 v2 v1 v3 v4 kR rec else kE v0
def vF:Nat->di->Int->Int->di->Bool->Option (Po.den⊕Pz.den)
 |0,_,_,_,_,_=>none
 |n+1,v0,v1,v2,v3,v4=>Gn (vF n) (fun e0=>some (.inl ((e0,()),()))) (fun r0 r1=>some (.inr ((r0,r1,()),()))) v0 v1 v2 v3 v4
def ax7 (n:Nat) (v:YR.den):=vF n v.1.1 v.1.2.1 v.1.2.2.1 v.2.1.1 v.2.1.2.1
noncomputable def ai0:dI:=gQ asO YR Po Pz (.exit 0) (ax7 bU) 12
def ah8 (x0:di) (x1:Int) (x2:di×qM):Option oG:=bM (vF bU x0 x1 x1 x2.1 x2.2.1) fun y0=>dV y0 (fun a1=>some ((bP a1.1.1),(0,()))) (fun b1=>some (b1.1.1,(b1.1.2.1,())))
def avg:Sum:=⟨[.str,dD,CX],tzJ,fun x=>ah8 x.1 x.2.1 x.2.2.1⟩
noncomputable def XE:Env:=gp prog tt 148 [] [(7,asP),(3,asO)] [(7,ai1),(3,ai0)]
def akg {γ:Type} (a:YS.den->Option γ) (b:ZB.den->Option γ) (c:aan.den->Option γ) (v:YS.den):Option γ:=PT (fun v0 v1 v2 v3 v4=>a ((v0,v1,v2,()),((v3,v4,()),()))) (fun e0 e1 e2 e3 e4=>b ((e0,e1,e2,()),((e3,e4,()),()))) (fun r0 r1=>c ((r0,r1,()),())) v.1.1 v.1.2.1 v.1.2.2.1 v.2.1.1 v.2.1.2.1
theorem ayY:dX XE 148 aqj ai1:=Bi (akg) (h2:=by intros;simp only[akg,PT,dm,dn,bK,cZ,dw])
def akf {γ:Type} (a:YR.den->Option γ) (b:Po.den->Option γ) (c:Pz.den->Option γ) (v:YR.den):Option γ:=Gn (fun v0 v1 v2 v3 v4=>a ((v0,v1,v2,()),((v3,v4,()),()))) (fun e0=>b ((e0,()),())) (fun r0 r1=>c ((r0,r1,()),())) v.1.1 v.1.2.1 v.1.2.2.1 v.2.1.1 v.2.1.2.1
theorem ayX:dX XE 148 aqi ai0:=Bi (akf) (h2:=by intros;simp only[akf,Gn,dm,dn,bK,cZ,dw,qH])
theorem aDE:dU XE 148 aBj:=qj [aqj,aqi] (aD (fM (ayY)) (aD (fM (ayX)) aN))
theorem alT:dK XE:=eA f148 aN (aDE)
theorem aoO:dY prog 148 avg:=sA alT
noncomputable def aFr:Code:=(f149.body).getD .skip
noncomputable def aqk:Code:=cA (cA (cA (cB (aFr))))
def asQ:dZ:=⟨[0,1,100001],[],[1],[],[4],[]⟩
def YT:SP:=⟨us [.v .str,.v dD] 40,[]⟩
def Pq:SP:=⟨us [.u,.v dD] 40,[]⟩
def PD:SP:=⟨us [.u,.u,.u,.u,.v dD] 37,[]⟩
def PU {γ:Type} (rec:di->Int->Option γ) (kE kR:Int->Option γ) (v0:di) (v1:Int):Option γ:=bif(iG v1 (bP v0))then bif(gV v0 v1)then bif(bW (cO v0 v1) 32)then rec v0 (dA .i64 v1 1)else bif(gV v0 v1)then bif(bW (cO v0 v1) 9)then rec v0 (dA .i64 v1 1)else bif(gV v0 v1)then bif(bW (cO v0 v1) 92)then bif(iG (dA .i64 v1 1) (bP v0))then bif(gV v0 (dA .i64 v1 1))then bif(bW (cO v0 (dA .i64 v1 1)) 10)then rec v0 (dA .i64 v1 2)else kE v1 else none else kE v1 else kE v1 else none else none else none else kE v1
def FC:Nat->di->Int->Option (Pq.den⊕PD.den)
 |0,_,_=>none
 |n+1,v0,v1=>PU (FC n) (fun e0=>some (.inl ((e0,()),()))) (fun r0=>some (.inr ((r0,()),()))) v0 v1
def ax9 (n:Nat) (v:YT.den):=FC n v.1.1 v.1.2.1
noncomputable def ai2:dI:=gQ asQ YT Pq PD (.exit 0) (ax9 bU) 6
def ah9 (x0:di) (x1:Int):Option Di:=bM (FC bU x0 x1) fun y0=>dV y0 (fun a1=>some (a1.1.1,())) (fun b1=>some (b1.1.1,()))
def avh:Sum:=⟨[.str,dD],UN,fun x=>ah9 x.1 x.2.1⟩
noncomputable def afi:Env:=gp prog tt 149 [] [(1,asQ)] [(1,ai2)]
def akh {γ:Type} (a:YT.den->Option γ) (b:Pq.den->Option γ) (c:PD.den->Option γ) (v:YT.den):Option γ:=PU (fun v0 v1=>a ((v0,v1,()),())) (fun e0=>b ((e0,()),())) (fun r0=>c ((r0,()),())) v.1.1 v.1.2.1
theorem ayZ:dX afi 149 aqk ai2:=Bi (akh) (h2:=by intros;simp only[akh,PU,dm,dn,bK,cZ,dw])
theorem aDF:dU afi 149 aFr:=qj [aqk] (aD (fM (ayZ)) aN)
theorem alU:dK afi:=eA f149 aN (aDF)
theorem aoP:dY prog 149 avh:=sA alU
noncomputable def aFt:Code:=(f151.body).getD .skip
noncomputable def aqm:Code:=cA (cA (cA (cB (cB (cB (aFt))))))
def asU:dZ:=⟨[3,100004],[],[3],[],[2],[]⟩
def YV:SP:=⟨us [.u,.u,.u,.v .str] 29,[]⟩
def ZE:SP:=⟨us [.u,.u,.u,.v .str] 29,[]⟩
def aap:SP:=⟨us [.u,.u,.v .str] 30,[]⟩
def abf {γ:Type} (rec kE kR:di->Option γ) (v0:di):Option γ:=bif(iG 0 (bP v0))then bif(gV v0 (eG .i64 (bP v0) 1))then bif(bW (cO v0 (eG .i64 (bP v0) 1)) 32)then bif(gm (bP v0) 0 (eG .i64 (bP v0) 1))then rec (sub v0 0 (eG .i64 (bP v0) 1))else none else kE v0 else none else kE v0
def Yv:Nat->di->Option (ZE.den⊕aap.den)
 |0,_=>none
 |n+1,v0=>abf (Yv n) (fun e0=>some (.inl ((e0,()),()))) (fun r0=>some (.inr ((r0,()),()))) v0
def ayb (n:Nat) (v:YV.den):=Yv n v.1.1
noncomputable def ai4:dI:=gQ asU YV ZE aap (.exit 0) (ayb bU) 6
def Jy (x0:Int):Option (di×Unit):=bif(iG x0 1)then some ([],())else bif(iG 17 x0)then some ([],())else bif(gm (bP [38,38,32,124,124,32,59,59,32,60,60,32,60,60,45,62,62,32,60,38,32,62,38,32,60,62,32,62,124,32,60,32,32,62,32,32,38,32,32,59,32,32,124,32,32,40,32,32,41,32,32]) (aoq .i64 3 (eG .i64 x0 1)) (aoq .i64 3 x0))then bM (Yv bU (sub [38,38,32,124,124,32,59,59,32,60,60,32,60,60,45,62,62,32,60,38,32,62,38,32,60,62,32,62,124,32,60,32,32,62,32,32,38,32,32,59,32,32,124,32,32,40,32,32,41,32,32] (aoq .i64 3 (eG .i64 x0 1)) (aoq .i64 3 x0))) fun y0=>dV y0 (fun a1=>some (a1.1.1,())) (fun b1=>some (b1.1.1,()))else none
def abC:Sum:=⟨[dD],tzI,fun x=>Jy x.1⟩
noncomputable def afk:Env:=gp prog tt 151 [] [(4,asU)] [(4,ai4)]
def akj {γ:Type} (a:YV.den->Option γ) (b:ZE.den->Option γ) (c:aap.den->Option γ) (v:YV.den):Option γ:=abf (fun v0=>a ((v0,()),())) (fun e0=>b ((e0,()),())) (fun r0=>c ((r0,()),())) v.1.1
theorem ay1:dX afk 151 aqm ai4:=Bi (akj) (h2:=by intros;simp only[akj,abf,dm,dn,bK,cZ,dw])
theorem aDH:dU afk 151 aFt:=qj [aqm] (aD (fM (ay1)) aN)
theorem alW:dK afk:=eA f151 aN (aDH)
theorem Nv:dY prog 151 abC:=sA alW
noncomputable def aFs:Code:=(f150.body).getD .skip
noncomputable def aql:Code:=cA (cA (cB (cA (cB (cB (aFs))))))
def asT:dZ:=⟨[0,1,5,6,100003],[],[5],[],[4],[]⟩
def YU:SP:=⟨us [.v .str,.v dD,.u,.u,.u,.v dD,.v dD] 35,[]⟩
def ZC:SP:=⟨us [.u,.u,.u,.u,.u,.v dD] 36,[]⟩
def aao:SP:=⟨us [.u,.u,.u,.u,.v dD] 37,[]⟩
def KT {γ:Type} (rec:di->Int->Int->Int->Option γ) (kE kR:Int->Option γ) (v0:di) (v1 v2 v3:Int):Option γ:=bif(leI v3 17)then bM (Jy v3) fun y0=>bif(leI (bP y0.1) (eG .i64 (bP v0) v1))then bif(gm (bP v0) v1 (dA .i64 v1 (bP y0.1)))then bif(iq (sub v0 v1 (dA .i64 v1 (bP y0.1))) y0.1)then bM (Jy v2) fun y1=>bif(iG (bP y1.1) (bP y0.1))then rec v0 v1 v3 (dA .i64 v3 1)else rec v0 v1 v2 (dA .i64 v3 1)else rec v0 v1 v2 (dA .i64 v3 1)else none else rec v0 v1 v2 (dA .i64 v3 1)else kE v2
def BL:Nat->di->Int->Int->Int->Option (ZC.den⊕aao.den)
 |0,_,_,_,_=>none
 |n+1,v0,v1,v2,v3=>KT (BL n) (fun e0=>some (.inl ((e0,()),()))) (fun r0=>some (.inr ((r0,()),()))) v0 v1 v2 v3
def aya (n:Nat) (v:YU.den):=BL n v.1.1 v.1.2.1 v.1.2.2.1 v.1.2.2.2.1
noncomputable def ai3:dI:=gQ asT YU ZC aao (.exit 0) (aya bU) 6
def acy (x0:di) (x1:Int):Option Di:=bM (BL bU x0 x1 0 1) fun y0=>dV y0 (fun a1=>some (a1.1.1,())) (fun b1=>some (b1.1.1,()))
def avi:Sum:=⟨[.str,dD],UN,fun x=>acy x.1 x.2.1⟩
noncomputable def afj:Env:=gp prog tt 150 [(151,abC)] [(3,asT)] [(3,ai3)]
def aki {γ:Type} (a:YU.den->Option γ) (b:ZC.den->Option γ) (c:aao.den->Option γ) (v:YU.den):Option γ:=KT (fun v0 v1 v2 v3=>a ((v0,v1,v2,v3,()),())) (fun e0=>b ((e0,()),())) (fun r0=>c ((r0,()),())) v.1.1 v.1.2.1 v.1.2.2.1 v.1.2.2.2.1
theorem ay0:dX afj 150 aql ai3:=Bi (aki) (h2:=by intros;simp only[aki,KT,dm,dn,bK,cZ,dw])
theorem aDG:dU afj 150 aFs:=qj [aql] (aD (fM (ay0)) aN)
theorem alV:dK afj:=eA f150 (aD Nv aN) (aDG)
theorem aoQ:dY prog 150 avi:=sA alV
def Ry (x0:di):Option qM:=bM (axe x0) fun y0=>bif(iq y0.1.1 [84])then some (true,())else some ((iq y0.1.1 [84,76]),())
def avl:Sum:=⟨[.str],tzE,fun x=>Ry x.1⟩
noncomputable def aBQ:Env:=gp prog tt 154 [(53,aAK)] [] []
theorem alZ:dK aBQ:=eA f154 (aD awi aN)
theorem aoT:dY prog 154 avl:=sA alZ
end
section
open Bool renaming and_eq_true → af, false_eq_true → aj, not_true → aB, not_false → aG, not_eq_true → bD
open Int renaming toNat_natCast → aP
open List renaming length_append → ae, length_cons → ak, length_map → ay, length_drop → aF, drop_of_length_le → aI, length_take → aJ, drop_eq_getElem_cons → aO, getElem_mem → aQ, drop_zero → aX, length_nil → aY, takeWhile_cons → bF
open Nat renaming le_refl → ah, lt_or_ge → aS
open Option renaming map_some → bn
open Go.RowKit
def nI (b:Int):Bool:=decide (b=32)||decide (b=9)
def Eb (b:Int):Bool:=decide (b=124)||decide (b=38)||decide (b=59)||decide (b=60)||decide (b=62)||decide (b=40)||decide (b=41)
theorem aEB: ∀n:Fin 256,(match Jv ((n.val:Nat):Int)with|some (k,_)=>(bW k 1==nI ((n.val:Nat):Int))&&(bW k 3==Eb ((n.val:Nat):Int))|none=>false)=true:=by decide+kernel
theorem aEA {b:Int} (h:isByte b): ∃k,Jv b=some (k,())/\bW k 1=nI b/\bW k 3=Eb b:=by
 obtain⟨n,rfl⟩:=QN h;have:=aEB n;split at this
 ·rename_i k u hk
  simp only[af,beq_iff_eq]at this;exact⟨k,hk,this.1,this.2⟩
 ·cases this
def I7:List di:=[[38,38],[124,124],[59,59],[60,60],[60,60,45],[62,62],[60,38],[62,38],[60,62],[62,124],[60],[62],[38],[59],[124],[40],[41]]
def ofF (u:di):Nat:=match I7.findIdx? (· ==u)with
 |some j=>j+1
 |none=>0
theorem awv: ∀n:Fin 18,n.val≠0->air ((n.val:Nat):Int)=some (I7.getD (n.val-1) [],()):=by decide+kernel
theorem XO {α:Type} (p:α->Bool) (l:List α) {k:Nat} (h:k<l.length):(l.drop k).findIdx? p=if p l[k]=true then some 0 else((l.drop (k+1)).findIdx? p).map (· +1):=by
 rw[aO h,List.findIdx?_cons]
theorem V9 (u:di): ∀(d N k:Nat),k+d=17->d<N->
  vG N u ((k+1:Nat):Int)=some (match(I7.drop k).findIdx? (· ==u)with
   |some j=>.inr ((((k+j+1:Nat):Int),()),())
   |none=>.inl ((),()))
 |d,0,k,_,h=>by omega
 |0,N+1,k,h,_=>by
  have hk:k=17:=by omega
  subst hk;rw[vG,Gq];rfl
 |d+1,N+1,k,h,hN=>by
  have hk:k<I7.length:=by show k<17;omega
  have ht:=awv ⟨k+1,by omega⟩ (by simp);simp only[Nat.add_sub_cancel]at ht;rw[vG,Gq,bZ (qV (by omega)),ht,bK,XO _ _ hk];have hg:I7.getD k []=I7[k]:=by rw[List.getD_eq_getElem?_getD,List.getElem?_eq_getElem hk];rfl
  simp only[hg,iq];by_cases e:(I7[k]==u)=true
  ·rw[e];simp
  ·rw[bD]at e;rw[e,dC (by omega) (by omega),show((k+1:Nat):Int)+1=((k+1+1:Nat):Int) by omega];simp only[cond_false];rw[V9 u d N (k+1) (by omega) (by omega)];cases (I7.drop (k+1)).findIdx? (· ==u)with
   |none=>rfl
   |some j=>
    rw[bn];simp only;rw[show k+1+j+1=k+(j+1)+1 by omega];rfl
theorem aEz (u:di) (h:ofF u≠0):u∈I7:=by
 unfold ofF at h;split at h
 ·rename_i j hj
  obtain⟨hl,he,_⟩:=List.findIdx?_eq_some_iff_getElem.1 hj;have:=eq_of_beq he;rw[<-this];exact aQ hl
 ·exact absurd rfl h
theorem auj (u:di):NY u=some (((ofF u:Nat):Int),()):=by
 rw[NY];by_cases e:u=[]
 ·subst e;rfl
 ·rw[dE (by unfold iq;simpa using e)];have h:=V9 u 17 bU 0 rfl (dO (by omega));rw[aX]at h;rw[show vG bU u 1=_ from h,bK];unfold ofF;cases I7.findIdx? (· ==u)with
  |none=>rfl
  |some j=>simp[dV]
def OZ (t:di):Nat->Nat×Nat
 |0=>(0,0)
 |n+1=>if ofF (t.take (n+1))≠0 then(ofF (t.take (n+1)),n+1)else OZ t n
theorem A8 (s:di) (a n:Nat):sub s (a:Int) ((a+n:Nat):Int)=(s.drop a).take n:=by
 simp only[sub,aP];rw[List.drop_take];simp
theorem ab9 (s:di) (hs:s.length<1000000) (a:Nat): ∀(n N:Nat),n<N->a+n<=s.length->
  FM N s (a:Int) 0 (n:Int)=some (.inl (((((OZ (s.drop a) n).1:Nat):Int),(((OZ (s.drop a) n).2:Nat):Int),()),()))
 |n,0,h,_=>by omega
 |0,N+1,_,_=>by
  rw[FM,KX];rfl
 |n+1,N+1,h,hn=>by
  rw[FM,KX,bZ (fH (by omega)),dC (by omega) (by omega),show(a:Int)+((n+1:Nat):Int)=((a+(n+1):Nat):Int) by omega,
   bZ (gB (by omega) (by omega) (by rw[bT];omega)),A8,auj,bK,OZ]
  by_cases e:ofF ((s.drop a).take (n+1))=0
  ·rw[e];simp only[show(!bW ((0:Nat):Int) 0)=false from rfl,cond_false,ne_eq,not_true_eq_false,if_false];rw[iJ (by omega) (by omega),show((n+1:Nat):Int)-1=(n:Int) by omega];exact ab9 s hs a n N (by omega) (by omega)
  ·rw[if_pos e];simp only[dW (a:=((ofF ((s.drop a).take (n+1)):Nat):Int)) (b:=0) (by omega),aG,cond_true]
def BR (t:di):Nat×Nat:=OZ t (min 3 t.length)
theorem azC {c:UInt8} {t:List UInt8} (h:c::t∈I7):Eb (c.toNat:Int)=true:=by
 have: ∀u∈I7,(match u with|c::_=>Eb (c.toNat:Int)|[]=>true)=true:=by decide
 exact this _ h
theorem ahJ {c:UInt8} {t:List UInt8} (h:Eb (c.toNat:Int)=false): ∀n,OZ (c::t) n=(0,0)
 |0=>rfl
 |n+1=>by
  rw[OZ,if_neg,ahJ h n];intro he;have:=azC (aEz _ he);rw[h]at this;cases this
theorem aJ9 {s:List UInt8} (hs:s.length<1000000) {a:Nat} (ha:a<s.length):aik s a=some ((((BR (s.drop a)).1:Nat):Int),((((BR (s.drop a)).2:Nat):Int),())):=by
 rw[aik,dE (kZ (by omega)),dE (Sr (by rw[bT];omega)),bZ (eP (by omega) (by omega))];obtain⟨k,h1,_,h3⟩:=aEA (lV s a);rw[h1,bK];simp only[h3];have hd:=aO ha;rw[byte_at ha];cases hm:Eb (s[a].toNat:Int)with
 |false=>
  unfold BR;rw[hd,ahJ hm];rfl
 |true=>
  simp only[aB,cond_false];have hmin:GN 3 (eG .i64 (bP s) (a:Int))=((min 3 (s.drop a).length:Nat):Int):=by
   rw[bT,iJ (by omega) (by omega),aF];simp only[GN];split<;>omega
  rw[hmin,ab9 s hs a _ bU (dO (by omega)) (by rw[aF];omega),bK];rfl
theorem O7 (t:di):(BR t).2<=t.length/\((BR t).2=0↔(BR t).1=0)/\(BR t).1<=17:=by
 have h: ∀n,(OZ t n).2<=n/\((OZ t n).2=0↔(OZ t n).1=0)/\(OZ t n).1<=17:=by
  intro n
  induction n with
  |zero=>exact⟨ah _,Iff.rfl,by simp[OZ]⟩
  |succ n ih=>
   rw[OZ];split
   ·rename_i e
    refine⟨ah _,⟨fun h=>absurd h (by simp),fun h=>absurd h e⟩, ?_⟩;unfold ofF;split
    ·rename_i j hj
     have:=(List.findIdx?_eq_some_iff_getElem.1 hj).1;have hl:I7.length=17:=rfl;simp only;omega
    ·exact Nat.zero_le _
   ·exact⟨by have:=ih.1;omega,ih.2⟩
 have:=h (min 3 t.length);exact⟨by unfold BR;have:=this.1;omega,this.2⟩
theorem asC (c:UInt8): ∀l:di,Lib.indexByte l c=if(l.takeWhile (· !=c)).length<l.length then(((l.takeWhile (· !=c)).length:Nat):Int)else-1
 |[]=>rfl
 |b::l=>by
  unfold Lib.indexByte;rw[asC c l];by_cases e:b=c
  ·subst e;simp
  ·have e1:(b==c)=false:=by simpa using e
   have e2:(b !=c)=true:=by simpa using e
   have e3:(b::l).takeWhile (fun x=>x !=c)=b::l.takeWhile (fun x=>x !=c):=by rw[bF,e2];rfl
   rw[e1,e3];simp only[aj,if_false,ak];by_cases h:(l.takeWhile (fun x=>x !=c)).length<l.length
   ·have e4:((((l.takeWhile (fun x=>x !=c)).length:Nat):Int)== -1)=false:=by
     rw[beq_eq_false_iff_ne];omega
    rw[if_pos h];simp only[e4,aj,if_false];rw[if_pos (by omega)];omega
   ·rw[if_neg h];simp only[BEq.rfl,if_true];rw[if_neg (by omega)]
def jd (s:di) (a:Nat):Nat:=a+((s.drop a).takeWhile (· !=10)).length
theorem xh (s:di) (a:Nat):a<=jd s a:=Nat.le_add_right _ _
theorem xk {s:List UInt8} {a:Nat} (h:a<=s.length):jd s a<=s.length:=by
 have:=Bh (· !=10) (s.drop a);rw[aF]at this;unfold jd;omega
theorem atE {s:List UInt8} (hs:s.length<1000000) {a:Nat} (ha:a<=s.length):acJ s a=some (((jd s a:Nat):Int),(decide (jd s a<s.length),())):=by
 have hle:=xk ha;have hge:=xh s a;rw[acJ,bZ (gB (by omega) (by rw[bT];omega) (by omega)),acP,aiy,bK,bK];have h1:sub s (a:Int) (bP s)=s.drop a:=by simp[sub,bT]
 have h2:ibW (sub s (a:Int) (bP s)) 10=if jd s a<s.length then((jd s a-a:Nat):Int)else-1:=by
  rw[h1];unfold ibW;rw[show(10:Int).toNat.toUInt8=10 from rfl,asC,aF];unfold jd at*;by_cases h:((s.drop a).takeWhile (· !=10)).length<s.length-a
  ·rw[if_pos h,if_pos (by omega)];congr 1;omega
  ·rw[if_neg h,if_neg (by omega)]
 rw[h2];by_cases h:jd s a<s.length
 ·rw[if_pos h,bZ (qV (by omega)),dC (by omega) (by omega),decide_eq_true h];congr 2;omega
 ·rw[if_neg h,dE (Sr (by omega)),decide_eq_false h,bT];congr 2;omega
def uO:di->Nat
 |[]=>0
 |[c]=>if nI (c.toNat:Int)=true then 1 else 0
 |c::d::t=>if nI (c.toNat:Int)=true then uO (d::t)+1 else if c=92/\d=10 then uO t+2 else 0
theorem Xp: ∀t:di,uO t<=t.length
 |[]=>ah _
 |[c]=>by rw[uO];split<;>simp
 |c::d::t=>by
  have h1:=Xp (d::t);have h2:=Xp t;rw[uO];simp only[ak]at*;split
  ·omega
  ·split<;>omega
def uQ (t:di):Bool:=match t with
 |c::d::_=>decide (c=92)&&decide (d=10)
 |_=>false
theorem aDg (t:di):ais t [92,10]=some (uQ t,()):=by
 rw[ais,asq];cases t with
 |nil=>rfl
 |cons c t=>
  cases t with
  |nil=>rfl
  |cons d t=>
   have h1:leI (bP [(92:UInt8),10]) (bP (c::d::t))=true:=qV (by rw[bT,bT];simp only[ak,aY];omega);have h2:gm (bP (c::d::t)) 0 (bP [(92:UInt8),10])=true:=gB (by omega) (by rw[bT];simp) (by rw[bT,bT];simp only[ak,aY];omega);have h3:sub (c::d::t) 0 (bP [(92:UInt8),10])=[c,d]:=by simp[sub,bT]
   simp only[h1,h2,h3,cond_true,bK];simp[uQ,iq,Bool.beq_eq_decide_eq]
theorem aq2 {s:List UInt8} {a:Nat} (ha:a<=s.length):acH s a=some (uQ (s.drop a),()):=by
 rw[acH,bZ (gB (by omega) (by rw[bT];omega) (by omega)),show sub s (a:Int) (bP s)=s.drop a by simp[sub,bT],aDg,bK]
theorem Je {c:UInt8} {t:List UInt8}:uO (c::t)=if nI (c.toNat:Int)=true then uO t+1 else if uQ (c::t)=true then uO (t.drop 1)+2 else 0:=by
 cases t with
 |nil=>rw[uO];simp[uQ,uO]
 |cons d t=>rw[uO];simp[uQ]
theorem H9 {s:List UInt8} (hs:s.length<1000000): ∀(N a:Nat),s.length-a<N->a<=s.length->
  ∃o,JX N s (a:Int)=some o/\dV o (fun a1=>some (a1.1.1,())) (fun b1=>some (b1.1.1,()))=some ((((a+uO (s.drop a):Nat):Int)),())
 |0,a,h,_=>by omega
 |N+1,a,h,ha=>by
  rw[JX,Qb];by_cases e:a<s.length
  ·obtain⟨k,h1,h2,_⟩:=aEA (lV s a);have hd:=aO e;rw[bZ (fH (by rw[bT];omega)),bZ (eP (by omega) (by omega)),h1,bK];simp only[h2];rw[byte_at e,hd,Je];by_cases hb:nI (s[a].toNat:Int)=true
   ·rw[hb,cond_true,if_pos rfl,dC (by omega) (by omega),show(a:Int)+1=((a+1:Nat):Int) by omega];obtain⟨o,o1,o2⟩:=H9 hs N (a+1) (by omega) (by omega);exact⟨o,o1,by rw[o2];congr 2;omega⟩
   ·rw[bD]at hb;rw[hb,cond_false,if_neg (by simp),aq2 (by omega),bK,hd];cases hc:uQ (s[a]::s.drop (a+1))with
    |true=>
     have hlen:a+2<=s.length:=by
      rw[<-hd]at hc;rcases aS s.length (a+2)with hl|hl
      ·have:(s.drop a).length=1:=by rw[aF];omega
       obtain⟨x,hx⟩:=List.length_eq_one_iff.1 this;rw[hx]at hc;cases hc
      ·exact hl
     simp only[cond_true,if_true];rw[dC (by omega) (by omega),show(a:Int)+2=((a+2:Nat):Int) by omega,List.drop_drop,show a+1+1=a+2 from rfl];obtain⟨o,o1,o2⟩:=H9 hs N (a+2) (by omega) (by omega);exact⟨o,o1,by rw[o2];congr 2;omega⟩
    |false=>
     simp only[cond_false,aj,if_false,Nat.add_zero];exact⟨_,rfl,rfl⟩
  ·rw[dE (iy (by rw[bT];omega)),aI (by omega)];exact⟨_,rfl,rfl⟩
theorem awT {s:List UInt8} (hs:s.length<1000000) {a:Nat} (ha:a<=s.length):acI s a=some ((((a+uO (s.drop a):Nat):Int)),()):=by
 rw[acI];obtain⟨o,o1,o2⟩:=H9 hs bU a (dO (by omega)) ha;rw[o1,bK];exact o2
def Az (t:di):Nat:=if kP t≠0/\(t.drop (kP t)).head?=some 60\/kP t≠0/\(t.drop (kP t)).head?=some 62 then kP t else 0
theorem PO (t:di):kP t<=t.length:=Bh _ _
theorem auh {s:List UInt8} (hs:s.length<1000000) {a:Nat} (ha:a<=s.length):acK s a=some ((((a+Az (s.drop a):Nat):Int)),()):=by
 have hle:=PO (s.drop a);rw[aF]at hle;rw[acK,ab2 hs ha,bK];simp only;rw[dC (by omega) (by omega),show(a:Int)+((kP (s.drop a):Nat):Int)=((a+kP (s.drop a):Nat):Int) by omega];unfold Az;by_cases h0:kP (s.drop a)=0
 ·rw[dE (kZ (by omega)),if_neg (by omega)];rfl
 ·rw[bZ (fH (by omega))];by_cases h1:a+kP (s.drop a)<s.length
  ·have hd:((s.drop a).drop (kP (s.drop a))).head?=some s[a+kP (s.drop a)]:=by
    rw[List.drop_drop,aO h1];rfl
   rw[bZ (fH (by rw[bT];omega)),bZ (eP (by omega) (by omega)),byte_at h1,hd];by_cases e1:s[a+kP (s.drop a)]=60
   ·rw[e1,if_pos (.inl ⟨h0,rfl⟩)];rfl
   ·have e1':((s[a+kP (s.drop a)].toNat:Nat):Int)≠60:=fun h=>e1 (UInt8.toNat_inj.1 (by rw[show(60:UInt8).toNat=60 from rfl];omega));rw[dE (dW e1'),bZ (eP (by omega) (by omega))];by_cases e2:s[a+kP (s.drop a)]=62
    ·rw[e2,if_pos (.inr ⟨h0,rfl⟩)];rfl
    ·have e2':((s[a+kP (s.drop a)].toNat:Nat):Int)≠62:=fun h=>e2 (UInt8.toNat_inj.1 (by rw[show(62:UInt8).toNat=62 from rfl];omega));rw[dE (dW e2'),if_neg (by simp[e1,e2])];simp
  ·have hd:((s.drop a).drop (kP (s.drop a))).head?=none:=by
    rw[List.drop_drop,aI (by omega)];rfl
   rw[dE (kZ (by rw[bT];omega)),hd,if_neg (by simp)];simp
theorem afc: ∀n:Fin 15,(match aiu ((n.val:Nat):Int)with|some (t,_)=>(t==([]:di))==(decide (n.val=0)||decide (n.val=12))&&decide (t.length<=2)|none=>false)=true:=by decide+kernel
theorem aq1 {m:Int} (h0:0<=m) (h1:m<=14): ∃t,aiu m=some (t,())/\(t=[]↔m=0\/m=12)/\t.length<=2:=by
 have:=afc ⟨m.toNat,by omega⟩;rw[show((m.toNat:Nat):Int)=m by omega]at this;split at this
 ·rename_i t u ht
  simp only[af,beq_iff_eq,decide_eq_true_eq]at this;refine⟨t,ht, ?_,this.2⟩;have h:=this.1;by_cases e:t=[]
  ·rw[e]at h;simp only[BEq.rfl]at h;have:=h.symm;simp only[Bool.or_eq_true,decide_eq_true_eq]at this;exact⟨fun _=>by omega,fun _=>e⟩
  ·have h':(t==([]:di))=false:=by simpa using e
   rw[h']at h;have:=h.symm;simp only[Bool.or_eq_false_iff,decide_eq_false_iff_not]at this;exact⟨fun h=>absurd h e,fun h=>by omega⟩
 ·cases this
def KR (s:gq):Bool:=s.all fun f=>decide (f.1=0)||decide (f.1=12)
theorem Jg (F:List GV) (hF:F.length<1000000) (hm: ∀f∈F,0<=f.1/\f.1<=14): ∀(N k:Nat) (a b:di) (t:List Int),k<N->k<=F.length->t.length<=2*(F.length-k)->
  ∃t',qB N ((k:Int)-1) a b F t=some (.inl ((),((a,()),(),(),()),((b,()),(F,()),(),t',())))/\(t'=[]↔t=[]/\ ∀f∈F.take k,f.1=0\/f.1=12)
 |0,k,a,b,t,h,_,_=>by omega
 |N+1,0,a,b,t,h,_,_=>by
  rw[qB,uI];refine⟨t,rfl, ?_⟩;simp
 |N+1,k+1,a,b,t,h,hk,ht=>by
  rw[qB,uI];have hk':k<F.length:=by omega
  have hg:fZ F (0,(0,())) (k:Int)=F[k]:=by
   unfold fZ;rw[aP,List.getD_eq_getElem?_getD,List.getElem?_eq_getElem hk'];rfl
  have hb:=hm F[k] (aQ hk');obtain⟨c,c1,c2,c3⟩:=aq1 hb.1 hb.2;have hfit:eQ (cu t (dM c)) 1=true:=by
   simp only[eQ,cu,dM,ae,ay,decide_eq_true_eq,lm];omega
  rw[show((k+1:Nat):Int)-1=(k:Int) by omega,bZ (qV (by omega)),bZ (eP (by omega) (by omega)),hg,c1,bK];simp only[hfit,fG,cond_true];rw[iJ (by omega) (by omega)];obtain⟨t',h1,h2⟩:=Jg F hF hm N k a b (cu t (dM c)) (by omega) (by omega) (by simp only[cu,dM,ae,ay];omega);refine⟨t',h1, ?_⟩;rw[h2,List.take_add_one,List.getElem?_eq_getElem hk'];have:cu t (dM c)=[]↔t=[]/\(F[k].1=0\/F[k].1=12):=by
   rw[<-c2];unfold cu dM;simp
  rw[this];simp only[Option.toList_some,List.mem_append,List.mem_singleton];constructor
  ·rintro ⟨⟨e1,e2⟩,e3⟩;exact⟨e1,fun f hf=>hf.elim (e3 f) (fun e=>by rw[e];exact e2)⟩
  ·rintro ⟨e1,e2⟩;exact⟨⟨e1,e2 _ (.inr rfl)⟩,fun f hf=>e2 f (.inl hf)⟩
theorem aln (w:di) (hw:w.length<=100000): ∃t,ail w=some (t,())/\(!iq t [])= !KR (mV w 0 fJ).1:=by
 have hg:=DW w 0 fJ kG;have hl:fJ.1.length=1:=rfl;have hm:=Ik hg.1;rw[ail,aFn w hw,bK];obtain⟨t',h1,h2⟩:=Jg (lo (mV w 0 fJ).1) (by rw[mJ];omega) (fun f hf=>by
  unfold lo at hf;rw[List.mem_reverse,List.mem_map]at hf;obtain⟨g,hg,rfl⟩:=hf;exact hm g hg) bU (lo (mV w 0 fJ).1).length [] [] [] (dO (by rw[mJ];omega)) (ah _) (by simp)
 simp only;rw[bT,iJ (by rw[mJ];omega) (by rw[mJ];omega),h1,bK];refine⟨_,rfl, ?_⟩;congr 1;simp only;rw[List.take_length]at h2;have h3:(∀f∈lo (mV w 0 fJ).1,f.1=0\/f.1=12)↔KR (mV w 0 fJ).1=true:=by
  unfold KR lo;simp only[List.mem_reverse,List.mem_map,List.all_eq_true,Bool.or_eq_true,decide_eq_true_eq];exact⟨fun h f hf=>h _ ⟨f,hf,rfl⟩,fun h f ⟨g,hg,e⟩=>by subst e;exact h g hg⟩
 rw[h3]at h2;unfold iq;cases hs:KR (mV w 0 fJ).1 with
 |true=>rw[h2.2 ⟨rfl,hs⟩];rfl
 |false=>
  have:t'≠[]:=fun e=>by have:=(h2.1 e).2;rw[hs]at this;cases this
  cases t' with
  |nil=>exact absurd rfl this
  |cons x y=>rfl
def qw (s:di) (tabs:Bool) (a:Nat):di:=if tabs=true then((s.take (jd s a)).drop a).dropWhile (· ==9)else(s.take (jd s a)).drop a
def ou (s:di) (a:Nat):Nat:=if jd s a<s.length then jd s a+1 else jd s a
def oV (s w:di) (tabs:Bool):Nat->Nat->Nat×Bool
 |0,a=>(a,false)
 |n+1,a=>if a<s.length then(if qw s tabs a=w then(ou s a,true)else oV s w tabs n (ou s a))else(a,false)
theorem ad4 {s:List UInt8} {a:Nat} (h:a<s.length):a<ou s a/\ou s a<=s.length:=by
 have h1:=xh s a;have h2:=xk (s:=s) (a:=a) (by omega);unfold ou;split<;>omega
theorem UA: ∀(l:di) (N:Nat),l.length<N->FT N l 9=some (.inl ((l.dropWhile (· ==9),()),()))
 |l,0,h=>by omega
 |[],N+1,_=>by rw[FT,Ld];rfl
 |c::l,N+1,h=>by
  rw[FT,Ld,bZ (fH (by rw[bT];simp only[ak];omega)),bZ (eP (by omega) (by simp only[ak];omega)),show cO (c::l) 0=(c.toNat:Int) from rfl];by_cases e:c=9
  ·subst e;rw[show bW (((9:UInt8).toNat:Nat):Int) 9=true from rfl,cond_true,bZ (gB (by omega) (by rw[bT];simp only[ak];omega) (by omega))];rw[show sub ((9:UInt8)::l) 1 (bP ((9:UInt8)::l))=l by simp[sub,bT],UA l N (by simp at h;omega)];simp
  ·rw[dE (dW (fun h=>e (UInt8.toNat_inj.1 (by rw[show(9:UInt8).toNat=9 from rfl];omega)))),List.dropWhile_cons_of_neg (by simpa using e)]
theorem azT (l:di) (hl:l.length<1000000):aiC l 9=some (l.dropWhile (· ==9),()):=by
 rw[aiC,UA l bU (dO (by omega)),bK];rfl
theorem VS {s w:List UInt8} (hs:s.length<1000000) (tabs:Bool): ∀(N a:Nat),s.length-a<N->a<=s.length->
  BN N s (a:Int) w tabs=some (if(oV s w tabs N a).2=true then .inr (((((oV s w tabs N a).1:Nat):Int),true,()),())else .inl (((((oV s w tabs N a).1:Nat):Int),()),()))
 |0,a,h,_=>by omega
 |N+1,a,h,ha=>by
  (rewrite [BN,Qa];delta AX;rw[oV])
  by_cases e:a<s.length
  ·have h1:=xh s a;have h2:=xk (s:=s) (a:=a) (by omega);have hn:=ad4 e;have ih:=VS (w:=w) hs tabs N (ou s a) (by omega) (by omega);have hsub:sub s (a:Int) ((jd s a:Nat):Int)=(s.take (jd s a)).drop a:=by simp[sub]
   have hfin: ∀(x:di),x=qw s tabs a->
     (bif decide (jd s a<s.length)then
      bif iq x w then(some (.inr ((dA .i64 ((jd s a:Nat):Int) 1,true,()),())):Option (Px.den⊕PG.den))
      else BN N s (dA .i64 ((jd s a:Nat):Int) 1) w tabs
     else bif iq x w then some (.inr ((((jd s a:Nat):Int),true,()),()))
      else BN N s ((jd s a:Nat):Int) w tabs)=
     some (if(if qw s tabs a=w then(ou s a,true)else oV s w tabs N (ou s a)).2=true
      then .inr (((((if qw s tabs a=w then(ou s a,true)else oV s w tabs N (ou s a)).1:Nat):Int),true,()),())
      else .inl (((((if qw s tabs a=w then(ou s a,true)else oV s w tabs N (ou s a)).1:Nat):Int),()),())):=by
    intro x hx;subst hx;have hw:iq (qw s tabs a) w=decide (qw s tabs a=w):=by
     unfold iq;by_cases e:qw s tabs a=w<;>simp[e]
    rw[hw];by_cases hl:jd s a<s.length
    ·have hnx:ou s a=jd s a+1:=by unfold ou;rw[if_pos hl]
     rw[decide_eq_true hl,cond_true,dC (by omega) (by omega),show((jd s a:Nat):Int)+1=((ou s a:Nat):Int) by omega];by_cases hw:qw s tabs a=w
     ·rw[decide_eq_true hw,if_pos hw];rfl
     ·rw[decide_eq_false hw,if_neg hw,cond_false,ih]
    ·have hnx:ou s a=jd s a:=by unfold ou;rw[if_neg hl]
     rw[decide_eq_false hl,cond_false,<-hnx];by_cases hw:qw s tabs a=w
     ·rw[decide_eq_true hw,if_pos hw];rfl
     ·rw[decide_eq_false hw,if_neg hw,cond_false,ih]
   rw[bZ (fH (by rw[bT];omega)),atE hs (by omega),bK,if_pos e];simp only;rw[bZ (gB (by omega) (by omega) (by rw[bT];omega)),hsub];cases tabs with
   |false=>exact hfin _ (by rw[qw,if_neg (by simp)])
   |true=>
    simp only[cond_true];by_cases e0:(s.take (jd s a)).drop a=[]
    ·rw[e0,show iq ([]:di) []=true from rfl,cond_true];exact hfin _ (by rw[qw,if_pos rfl,e0];rfl)
    ·rw[dE (by unfold iq;simpa using e0)];refine(dE (by rfl)).trans ?_;refine(bZ (by rfl)).trans ?_;refine(bZ (by rfl)).trans ?_;refine(bZ (by rfl)).trans ?_;refine(bZ (by rfl)).trans ?_;rw[show cO [9] 0=9 from rfl];rw[azT _ (by rw[aF,aJ];omega),bK];exact hfin _ (by rw[qw,if_pos rfl])
  ·rw[dE (iy (by rw[bT];omega)),if_neg e];rfl
def C9 (s w:di) (tabs:Bool) (a:Nat):Nat×Bool:=oV s w tabs bU a
theorem aDh {s:List UInt8} (hs:s.length<1000000) (d:di×Bool×Unit) {a:Nat} (ha:a<=s.length):aij s a d=some ((((C9 s d.1 d.2.1 a).1:Nat):Int),((C9 s d.1 d.2.1 a).2,())):=by
 rw[aij,VS hs d.2.1 bU a (dO (by omega)) ha,bK];unfold C9;cases h:(oV s d.1 d.2.1 bU a).2 with
 |true=>simp[dV]
 |false=>simp[dV]
end
section
open Bool renaming not_true → aB, not_false → aG
open List renaming length_cons → ak, length_map → ay, map_cons → az, mem_cons_of_mem → aA, length_drop → aF, drop_of_length_le → aI, length_take → aJ, drop_eq_getElem_cons → aO, mem_cons_self → aZ, all_cons → bg, map_nil → bi
open Nat renaming le_refl → ah, lt_or_ge → aS
open Go.RowKit
def MQ (n:Nat):di:=if n=0 then []else I7.getD (n-1) []
def aaZ (u t:di):Bool:=decide (t.take u.length=u)
def rF (t:di):Nat->Nat
 |0=>0
 |n+1=>if aaZ (MQ (n+1)) t=true/\(MQ (rF t n)).length<(MQ (n+1)).length then n+1 else rF t n
theorem Nc: ∀n:Fin 18,Jy ((n.val:Nat):Int)=some (MQ n.val,()):=by decide+kernel
theorem ajJ: ∀n:Fin 18,(MQ n.val).length<=3:=by decide+kernel
theorem acb (t:di): ∀n,rF t n<=n
 |0=>ah _
 |n+1=>by rw[rF];split<;>have:=acb t n<;>omega
theorem aep (s:di) (hs:s.length<1000000) {a:Nat} (ha:a<=s.length): ∀(d N k:Nat),k+d=17->d<N->
  BL N s (a:Int) ((rF (s.drop a) k:Nat):Int) ((k+1:Nat):Int)=some (.inl ((((rF (s.drop a) 17:Nat):Int),()),()))
 |d,0,k,_,h=>by omega
 |0,N+1,k,h,_=>by
  have hk:k=17:=by omega
  subst hk;rw[BL,KT];rfl
 |d+1,N+1,k,h,hN=>by
  have ht:=Nc ⟨k+1,by omega⟩;have hb:=acb (s.drop a) k;have hbt:=Nc ⟨rF (s.drop a) k,by omega⟩;have hl:=ajJ ⟨k+1,by omega⟩;simp only at ht hbt hl;rw[BL,KT,bZ (qV (by omega)),ht,bK];simp only;rw[dC (a:=((k+1:Nat):Int)) (by omega) (by omega),show((k+1:Nat):Int)+1=((k+1+1:Nat):Int) by omega,bT,bT,iJ (by omega) (by omega)];have ih:=aep s hs ha d N (k+1) (by omega) (by omega);rw[rF]at ih;by_cases e:a+(MQ (k+1)).length<=s.length
  ·rw[bZ (qV (by omega)),dC (by omega) (by omega),show(a:Int)+(((MQ (k+1)).length:Nat):Int)=((a+(MQ (k+1)).length:Nat):Int) by omega,bZ (gB (by omega) (by omega) (by omega)),A8];have hp:iq ((s.drop a).take (MQ (k+1)).length) (MQ (k+1))=aaZ (MQ (k+1)) (s.drop a):=by
    unfold iq aaZ;by_cases e:(s.drop a).take (MQ (k+1)).length=MQ (k+1)<;>simp[e]
   rw[hp];cases hx:aaZ (MQ (k+1)) (s.drop a)with
   |false=>rw[cond_false];rw[hx,if_neg (by simp)]at ih;exact ih
   |true=>
    rw[hx]at ih;rw[cond_true,hbt,bK];simp only[bT];by_cases e2:(MQ (rF (s.drop a) k)).length<(MQ (k+1)).length
    ·rw[bZ (fH (by omega))];rw[if_pos ⟨rfl,e2⟩]at ih;exact ih
    ·rw[dE (kZ (by omega))];rw[if_neg (fun h=>e2 h.2)]at ih;exact ih
  ·rw[dE (Sr (by omega))];have hx:aaZ (MQ (k+1)) (s.drop a)=false:=by
    unfold aaZ;refine decide_eq_false fun h=> ?_;have:=congrArg List.length h;rw[aJ,aF]at this;omega
   rw[hx,if_neg (by simp)]at ih;exact ih
theorem aGr (s:di) (hs:s.length<1000000) {a:Nat} (ha:a<=s.length):acy s a=some (((rF (s.drop a) 17:Nat):Int),()):=by
 rw[acy];have h:=aep s hs ha 17 bU 0 rfl (dO (by omega));rw[show BL bU s (a:Int) 0 1=_ from h,bK];rfl
def opB:di:=[38,124,59,60,62,45,40,41]
def yx (c:UInt8):UInt8:=if opB.contains c=true then c else 0
theorem YC: ∀(x u:di),(∀c∈u,opB.contains c=true)->(x.map yx=u↔x=u)
 |[],[],_=>Iff.rfl
 |[],_::_,_=>by simp
 |_::_,[],_=>by simp
 |c::x,d::u,h=>by
  have h0:=h d (aZ ..);have ih:=YC x u fun c hc=>h c (aA _ hc);rw[az,List.cons.injEq,List.cons.injEq,ih];have:yx c=d↔c=d:=by
   unfold yx;split
   ·exact Iff.rfl
   ·rename_i hc
    constructor
    ·intro e;rw[<-e]at h0;exact absurd h0 (by decide)
    ·intro e;rw[e]at hc;exact absurd h0 hc
  rw[this]
theorem Wh: ∀u∈I7,∀c∈u,opB.contains c=true:=by decide
theorem aui (x:di):ofF (x.map yx)=ofF x:=by
 unfold ofF;have:I7.findIdx? (· ==x.map yx)=I7.findIdx? (· ==x):=by
  have h: ∀l:List di,(∀u∈l,∀c∈u,opB.contains c=true)->l.findIdx? (· ==x.map yx)=l.findIdx? (· ==x):=by
   intro l
   induction l with
   |nil=>intro _;rfl
   |cons u l ih=>
    intro h;have e:(u==x.map yx)=(u==x):=by
     have:=YC x u (h u (aZ ..));rw[Bool.eq_iff_iff,beq_iff_eq,beq_iff_eq];exact⟨fun e=>(this.1 e.symm).symm,fun e=>(this.2 e.symm).symm⟩
    rw[List.findIdx?_cons,List.findIdx?_cons,e,ih fun u hu=>h u (aA _ hu)]
  exact h I7 Wh
 rw[this]
theorem aut (t:di):BR t=BR ((t.take 3).map yx):=by
 have h: ∀n,n<=3->OZ t n=OZ ((t.take 3).map yx) n:=by
  intro n hn
  induction n with
  |zero=>rfl
  |succ n ih=>
   rw[OZ,OZ,<-List.map_take,List.take_take,Nat.min_eq_left hn,aui,ih (by omega)]
 unfold BR;rw[ay,aJ,h _ (by omega)];congr 1;omega
theorem QL (t:di): ∀n,n<=17->rF t n=rF ((t.take 3).map yx) n
 |0,_=>rfl
 |n+1,hn=>by
  have ih:=QL t n (by omega);have hl:=ajJ ⟨n+1,by omega⟩;simp only at hl;have e:aaZ (MQ (n+1)) t=aaZ (MQ (n+1)) ((t.take 3).map yx):=by
   unfold aaZ;rw[<-List.map_take,List.take_take,Nat.min_eq_left hl];have hb: ∀c∈MQ (n+1),opB.contains c=true:=by
    have:MQ (n+1)∈I7:=by
     have ht: ∀n:Fin 17,MQ (n.val+1)∈I7:=by decide+kernel
     exact ht ⟨n,by omega⟩
    exact Wh _ this
   rw[decide_eq_decide,YC _ _ hb]
  rw[rF,rF,e,ih]
def nB (n:Fin 9):UInt8:=([0,38,124,59,60,62,45,40,41]:di).getD n.val 0
def okB (t:di):Bool:=BR t==(rF t 17,(MQ (rF t 17)).length)
theorem ok0:okB []=true:=by decide+kernel
theorem ok1: ∀a,okB [nB a]=true:=by decide+kernel
theorem ok2: ∀a b,okB [nB a,nB b]=true:=by decide+kernel
theorem ok3: ∀a b c,okB [nB a,nB b,nB c]=true:=by decide+kernel
theorem F7 (c:UInt8): ∃n,yx c=nB n:=by
 unfold yx;split
 ·rename_i h
  have: ∀d∈opB,∃n,d=nB n:=by decide
  exact this c (by simpa using h)
 ·exact⟨0,rfl⟩
theorem ajK (t:di):BR t=(rF t 17,(MQ (rF t 17)).length):=by
 rw[aut,QL t 17 (ah _)];have h:okB ((t.take 3).map yx)=true:=by
  have hl:(t.take 3).length<=3:=by rw[aJ];omega
  rcases h:t.take 3 with _|⟨a,_|⟨b,_|⟨c,_|⟨d,l⟩⟩⟩⟩
  ·exact ok0
  ·obtain⟨x,hx⟩:=F7 a;simp only[az,bi,hx];exact ok1 x
  ·obtain⟨x,hx⟩:=F7 a;obtain⟨y,hy⟩:=F7 b;simp only[az,bi,hx,hy];exact ok2 x y
  ·obtain⟨x,hx⟩:=F7 a;obtain⟨y,hy⟩:=F7 b;obtain⟨z,hz⟩:=F7 c;simp only[az,bi,hx,hy,hz];exact ok3 x y z
  ·rw[h]at hl;simp only[ak]at hl;omega
 exact eq_of_beq h
theorem aGs (s:di) (hs:s.length<1000000) {a:Nat} (ha:a<=s.length):acy s a=some ((((BR (s.drop a)).1:Nat):Int),()):=by
 rw[aGr s hs ha,ajK]
theorem azJ (t:di):Jy (((BR t).1:Nat):Int)=some (MQ (BR t).1,())/\(MQ (BR t).1).length=(BR t).2:=by
 have h:=(O7 t).2.2;refine⟨Nc ⟨(BR t).1,by omega⟩, ?_⟩;rw[ajK]
theorem OE {s:List UInt8} (hs:s.length<1000000): ∀(N a:Nat),s.length-a<N->a<=s.length->
  ∃o,FC N s (a:Int)=some o/\dV o (fun a1=>some (a1.1.1,())) (fun b1=>some (b1.1.1,()))=some ((((a+uO (s.drop a):Nat):Int)),())
 |0,a,h,_=>by omega
 |N+1,a,h,ha=>by
  rw[FC,PU];by_cases e:a<s.length
  ·have hd:=aO e;have hin:gV s (a:Int)=true:=eP (by omega) (by omega);rw[bZ (fH (by rw[bT];omega)),hin,byte_at e,hd,Je];simp only[cond_true];have step: ∀m:Nat,a+m<=s.length->1<=m-> ∃o,FC N s (dA .i64 (a:Int) (m:Int))=some o/\dV o (fun a1=>some (a1.1.1,())) (fun b1=>some (b1.1.1,()))=some ((((a+(uO (s.drop (a+m))+m):Nat):Int)),()):=fun m hm h1=>by
    obtain⟨o,o1,o2⟩:=OE hs N (a+m) (by omega) hm;rw[dC (by omega) (by omega),show(a:Int)+(m:Int)=((a+m:Nat):Int) by omega];exact⟨o,o1,by rw[o2];congr 2;omega⟩
   by_cases h32:s[a]=32
   ·have:nI (s[a].toNat:Int)=true:=by rw[h32];rfl
    rw[this,if_pos rfl,h32];exact step 1 (by omega) (by omega)
   ·have h32':bW (s[a].toNat:Int) 32=false:=dW fun h=>h32 (UInt8.toNat_inj.1 (by rw[show(32:UInt8).toNat=32 from rfl];omega));by_cases h9:s[a]=9
    ·have:nI (s[a].toNat:Int)=true:=by rw[h9];rfl
     rw[this,if_pos rfl,h32',h9];exact step 1 (by omega) (by omega)
    ·have h9':bW (s[a].toNat:Int) 9=false:=dW fun h=>h9 (UInt8.toNat_inj.1 (by rw[show(9:UInt8).toNat=9 from rfl];omega));have hb:nI (s[a].toNat:Int)=false:=by
      unfold nI;rw[iE]at h32' h9';rw[h32',h9'];rfl
     rw[hb,if_neg (by simp),h32',h9'];simp only[cond_false];have hstop:uQ (s[a]::s.drop (a+1))=false-> ∃o:Pq.den⊕PD.den,some (.inl (((a:Int),()),()))=some o/\dV o (fun a1=>some (a1.1.1,())) (fun b1=>some (b1.1.1,()))=some ((((a+(if uQ (s[a]::s.drop (a+1))=true then uO ((s.drop (a+1)).drop 1)+2 else 0):Nat):Int)),()):=fun h=>by
      rw[h,if_neg (by simp)];exact⟨_,rfl,rfl⟩
     by_cases h92:s[a]=92
     ·rw[h92,show bW (((92:UInt8).toNat:Nat):Int) 92=true from rfl,cond_true,dC (by omega) (by omega),show(a:Int)+1=((a+1:Nat):Int) by omega];rw[h92]at hstop;by_cases e1:a+1<s.length
      ·have hd1:=aO e1;rw[bZ (fH (by rw[bT];omega)),bZ (eP (by omega) (by omega)),byte_at e1];by_cases h10:s[a+1]=10
       ·rw[h10,show bW (((10:UInt8).toNat:Nat):Int) 10=true from rfl,cond_true];have hc:uQ (92::s.drop (a+1))=true:=by rw[hd1,h10];rfl
        rw[hc,if_pos rfl,List.drop_drop];exact step 2 (by omega) (by omega)
       ·rw[dE (dW fun h=>h10 (UInt8.toNat_inj.1 (by rw[show(10:UInt8).toNat=10 from rfl];omega)))];refine hstop ?_;rw[hd1];simp[uQ,h10]
      ·rw[dE (kZ (by rw[bT];omega))];refine hstop ?_;rw[aI (by omega)];rfl
     ·rw[dE (dW fun h=>h92 (UInt8.toNat_inj.1 (by rw[show(92:UInt8).toNat=92 from rfl];omega)))];refine hstop ?_;cases s.drop (a+1)with
      |nil=>rfl
      |cons d t=>simp[uQ,h92]
  ·rw[dE (iy (by rw[bT];omega)),aI (by omega)];exact⟨_,rfl,rfl⟩
theorem awU {s:List UInt8} (hs:s.length<1000000) {a:Nat} (ha:a<=s.length):ah9 s a=some ((((a+uO (s.drop a):Nat):Int)),()):=by
 rw[ah9];obtain⟨o,o1,o2⟩:=OE hs bU a (dO (by omega)) ha;rw[o1,bK];exact o2
theorem Xa {s w:List UInt8} (hs:s.length<1000000) {i:Nat} (hi:i<=s.length) (tabs:Bool): ∀(N k:Nat),i-k<N->k<=i->
  ∃k':Nat,JQ N s (i:Int) (k:Int) w tabs=some (.inl ((s,(i:Int),(k':Int),()),((w,tabs,()),())))/\k'<=i/\k<=k'/\(s.take i).drop k'=if tabs=true then((s.take i).drop k).dropWhile (· ==9)else(s.take i).drop k
 |0,k,h,_=>by omega
 |N+1,k,h,hk=>by
  rw[JQ,PT];cases tabs with
  |false=>exact⟨k,rfl,hk,ah _,by rw[if_neg (by simp)]⟩
  |true=>
   simp only[cond_true];by_cases e:k<i
   ·have hk2:k<(s.take i).length:=by rw[aJ];omega
    have hd:=aO hk2;rw[List.getElem_take]at hd;rw[bZ (fH (by omega)),bZ (eP (by omega) (by omega)),byte_at (by omega)];by_cases h9:s[k]=9
    ·rw[h9,show bW (((9:UInt8).toNat:Nat):Int) 9=true from rfl,cond_true,dC (by omega) (by omega),show(k:Int)+1=((k+1:Nat):Int) by omega];obtain⟨k',h1,h2,h3,h4⟩:=Xa hs hi true N (k+1) (by omega) (by omega);exact⟨k',h1,h2,by omega,by rw[h4,if_pos rfl,if_pos trivial,hd,h9];simp⟩
    ·rw[dE (dW fun h=>h9 (UInt8.toNat_inj.1 (by rw[show(9:UInt8).toNat=9 from rfl];omega)))];exact⟨k,rfl,hk,ah _,by rw[if_pos trivial,hd,List.dropWhile_cons_of_neg (by simpa using h9)]⟩
   ·rw[dE (iy (by omega))];refine⟨k,rfl,hk,ah _, ?_⟩;rw[if_pos trivial,aI (by rw[aJ];omega)];rfl
theorem VZ {s:List UInt8} {f i:Nat} (h1:f<=i) (h2:i<jd s f) (h3:i<s.length):s[i]≠10:=by
 have:=ET (· !=10) (s.drop f) (i-f) (by rw[aF];omega) (by unfold jd at h2;omega);rw[List.getElem_drop]at this;simpa [show f+(i-f)=i by omega] using this
theorem Su {s:List UInt8} {f:Nat} (h3:jd s f<s.length):s[jd s f]=10:=by
 have:=zI (· !=10) (s.drop f) (by rw[aF];unfold jd at h3;omega);rw[List.getElem_drop]at this;simpa [jd] using this
def aGv (s:di) (h:Nat×Bool):Po.den⊕Pz.den:=if h.2=true then .inr ((((h.1:Nat):Int),1,()),())else .inl ((s,()),())
theorem IL {s w:List UInt8} (hs:s.length<1000000) (tabs:Bool): ∀(N f i M:Nat),s.length+1-i<N->f<=i->i<=jd s f->f<=s.length->s.length-f<M->
  vF N s (f:Int) (i:Int) w tabs=some (aGv s (oV s w tabs M f))
 |0,f,i,M,h,_,_,_,_=>by omega
 |N+1,f,i,0,h,hfi,hil,hf,hM=>by omega
 |N+1,f,i,M+1,h,hfi,hil,hf,hM=>by
  have hle:=xk hf;have ew:iq (qw s tabs f) w=decide (qw s tabs f=w):=by
   unfold iq;by_cases e:qw s tabs f=w<;>simp[e]
  have stop: ∀N,0<N->vF N s ((s.length+1:Nat):Int) ((s.length+1:Nat):Int) w tabs=some (.inl ((s,()),()))/\vF N s (f:Int) ((s.length+1:Nat):Int) w tabs=some (.inl ((s,()),())):=fun N hN=>by
   obtain⟨n,rfl⟩: ∃n,N=n+1:=⟨N-1,by omega⟩;constructor
   ·(rewrite [vF,Gn];delta qH;rw[dE (Sr (by rw[bT];omega))])
   ·(rewrite [vF,Gn];delta qH;rw[dE (Sr (by rw[bT];omega))])
  have hend: ∀m,oV s w tabs m s.length=(s.length,false):=fun m=>by
   cases m with
   |zero=>rfl
   |succ m=>rw[oV,if_neg (by omega)]
  (rewrite [vF,Gn];delta qH;rw[bZ (qV (by rw[bT];omega))])
  by_cases e:i<jd s f
  ·have hi:i<s.length:=by omega
   rw[bZ (fH (by rw[bT];omega)),bZ (eP (by omega) (by omega)),byte_at hi,dW fun h=>VZ hfi e hi (UInt8.toNat_inj.1 (by rw[show(10:UInt8).toNat=10 from rfl];omega))];simp only[aG,cond_true];rw[dC (by omega) (by omega),show(i:Int)+1=((i+1:Nat):Int) by omega];exact IL hs tabs N f (i+1) (M+1) (by omega) (by omega) (by omega) hf hM
  ·have hi:i=jd s f:=by omega
   obtain⟨k',t1,t2,t3,t4⟩:=Xa (w:=w) hs (i:=i) (by omega) tabs bU f (dO (by omega)) hfi;have hT:sub s (k':Int) (i:Int)=qw s tabs f:=by
    unfold qw;rw[show sub s (k':Int) (i:Int)=(s.take i).drop k' by simp[sub],t4,hi]
   by_cases hl:i<s.length
   ·have h10:s[i]=10:=by subst hi;exact Su hl
    have hnx:ou s f=i+1:=by unfold ou;rw[<-hi,if_pos hl]
    rw[bZ (fH (by rw[bT];omega)),bZ (eP (by omega) (by omega)),byte_at hl,h10,show bW (((10:UInt8).toNat:Nat):Int) 10=true from rfl];simp only[aB,cond_false];rw[dE (dW (by rw[bT];omega)),t1,bK];simp only[dV];rw[bZ (gB (by omega) (by omega) (by rw[bT];omega)),hT,ew,oV,if_pos (by omega),hnx];rw[bZ (fH (by rw[bT];omega)),dC (by omega) (by omega),show(i:Int)+1=((i+1:Nat):Int) by omega];by_cases hw:qw s tabs f=w
    ·rw[decide_eq_true hw,cond_true,if_pos hw];rfl
    ·rw[decide_eq_false hw,cond_false,if_neg hw];exact IL hs tabs N (i+1) (i+1) M (by omega) (ah _) (xh s _) (by omega) (by omega)
   ·have hi2:i=s.length:=by omega
    rw[dE (kZ (by rw[bT];omega)),bZ (fV (by rw[bT];omega))];by_cases hfi2:f=i
    ·rw[bZ (fV (by omega)),dC (by omega) (by omega),show(i:Int)+1=((s.length+1:Nat):Int) by omega,(stop N (by omega)).2,hfi2,hi2,hend];rfl
    ·have hnx:ou s f=s.length:=by unfold ou;rw[<-hi,if_neg hl];exact hi2
     rw[dE (dW (by omega)),t1,bK];simp only[dV];rw[bZ (gB (by omega) (by omega) (by rw[bT];omega)),hT,ew,oV,if_pos (by omega),hnx];rw[dE (kZ (by rw[bT];omega))];by_cases hw:qw s tabs f=w
     ·rw[decide_eq_true hw,cond_true,if_pos hw,hi2];rfl
     ·rw[decide_eq_false hw,cond_false,if_neg hw,hend,dC (by omega) (by omega),show(i:Int)+1=((s.length+1:Nat):Int) by omega,(stop N (by omega)).1];rfl
theorem L9 (s w:di) (tabs:Bool): ∀(N a:Nat),s.length-a<N->a<=s.length->(oV s w tabs N a).1<=s.length/\((oV s w tabs N a).2=false->(oV s w tabs N a).1=s.length)/\(a<s.length->a<(oV s w tabs N a).1)
 |0,a,h,_=>by omega
 |N+1,a,h,ha=>by
  rw[oV];by_cases e:a<s.length
  ·have hn:=ad4 e;rw[if_pos e];split
   ·exact⟨hn.2,fun h=>(by cases h),fun _=>hn.1⟩
   ·have ih:=L9 s w tabs N (ou s a) (by omega) hn.2;refine⟨ih.1,ih.2.1,fun _=> ?_⟩;rcases aS (ou s a) s.length with h'|h'
    ·have:=ih.2.2 h';omega
    ·cases N with
     |zero=>omega
     |succ N=>rw[oV,if_neg (by omega)];exact hn.1
  ·rw[if_neg e];exact⟨ha,fun _=>(by simp only;omega),fun h=>absurd h e⟩
theorem aDi {s:List UInt8} (hs:s.length<1000000) (d:di×Bool×Unit) {a:Nat} (ha:a<=s.length):ah8 s a d=some ((((C9 s d.1 d.2.1 a).1:Nat):Int),((if(C9 s d.1 d.2.1 a).2=true then 1 else 0),())):=by
 rw[ah8,IL hs d.2.1 bU a a bU (dO (by omega)) (ah _) (xh s a) ha (dO (by omega)),bK];have h2:=(L9 s d.1 d.2.1 bU a (dO (by omega)) ha).2.1;unfold aGv C9;cases h:(oV s d.1 d.2.1 bU a).2 with
 |true=>simp[dV]
 |false=>simp[dV,bT,h2 h]
theorem au3 {s:gq} (hg:iL s):KR s=(iq (so s) [84]||iq (so s) [84,76]):=by
 rw[au7 hg,akY hg]
 match s,hg with
 |[],hg=>cases hg
 |[f],hg=>have h:f.1=0:=hg;simp[KR,h]
 |[f,g],hg=>
  have h1:=hg.1;have h0:g.1=0:=hg.2.2.2;simp[KR,h0];omega
 |f::g::h::r,hg=>
  have h1:=hg.2.2.2.1;have h2:=hg.2.2.1;unfold Sz at h2;simp only[KR,bg];have:(decide (g.1=0)||decide (g.1=12))=false:=by simp;omega
  rw[this];simp
end
section
open Tryz
open Go.RowKit
noncomputable def aFA:Code:=(f272.body).getD .skip
noncomputable def aqH:Code:=cA (cA (cB (cA (cB (aFA)))))
def atf:dZ:=⟨[0,1,4,6,100002],[],[4],[],[4,5],[]⟩
def Zf:SP:=⟨us [.v Vm,.v dD,.u,.u,.ptr 1000004 0,.u,.v dD] 18,[.box 1000004 215 [.v dD,.v dD,.v dD,.v dD,.v .bool]]⟩
def ZX:SP:=⟨us [.u,.u,.u,.u,.ptr 1000004 0] 20,[.box 1000004 215 [.v dD,.v dD,.v dD,.v dD,.v .bool]]⟩
def aaH:SP:=⟨us [.u,.u,.u,.u,.ptr 1000004 0,.v dD] 19,[.box 1000004 215 [.v dD,.v dD,.v dD,.v dD,.v .bool]]⟩
def Qg {γ:Type} (rec:(List jg)->Int->Int->Int->Int->Int->Int->Bool->Option γ) (kE:Int->Int->Int->Int->Bool->Option γ) (kR:Int->Int->Int->Int->Int->Bool->Option γ) (v0:List jg) (v1 v2 v3 v4 v5 v6:Int) (v7:Bool):Option γ:=bif(iG v2 (bP v0))then bif(gV v0 v2)then bif(bW (fZ v0 (0,(0,(0,(0,(false,()))))) v2).2.1 v1)then bif(gV v0 v2)then kR 1 (fZ v0 (0,(0,(0,(0,(false,()))))) v2).1 (fZ v0 (0,(0,(0,(0,(false,()))))) v2).2.1 (fZ v0 (0,(0,(0,(0,(false,()))))) v2).2.2.1 (fZ v0 (0,(0,(0,(0,(false,()))))) v2).2.2.2.1 (fZ v0 (0,(0,(0,(0,(false,()))))) v2).2.2.2.2.1 else none else rec v0 v1 (dA .i64 v2 1) v3 v4 v5 v6 v7 else none else kE v3 v4 v5 v6 v7
def FO:Nat->(List jg)->Int->Int->Int->Int->Int->Int->Bool->Option (ZX.den⊕aaH.den)
 |0,_,_,_,_,_,_,_,_=>none
 |n+1,v0,v1,v2,v3,v4,v5,v6,v7=>Qg (FO n) (fun e0 e1 e2 e3 e4=>some (.inl ((),((e0,e1,e2,e3,e4,()),())))) (fun r0 r1 r2 r3 r4 r5=>some (.inr ((r0,()),((r1,r2,r3,r4,r5,()),())))) v0 v1 v2 v3 v4 v5 v6 v7
def ayv (n:Nat) (v:Zf.den):=FO n v.1.1 v.1.2.1 v.1.2.2.1 v.2.1.1 v.2.1.2.1 v.2.1.2.2.1 v.2.1.2.2.2.1 v.2.1.2.2.2.2.1
noncomputable def ajo:dI:=gQ atf Zf ZX aaH (.exit 0) (ayv bU) 6
def acM (x0:List jg) (x1:Int):Option (jg×Int×Unit):=bM (FO bU x0 x1 0 0 0 0 0 false) fun y0=>dV y0 (fun a1=>some ((0,(0,(0,(0,(false,()))))),(0,()))) (fun b1=>some ((b1.2.1.1,(b1.2.1.2.1,(b1.2.1.2.2.1,(b1.2.1.2.2.2.1,(b1.2.1.2.2.2.2.1,()))))),(b1.1.1,())))
def aht:Sum:=⟨[Vm,dD],[(.pair dD UM,false),(.int .i64,false)],fun x=>acM x.1 x.2.1⟩
noncomputable def afA:Env:=gp prog tt 272 [] [(2,atf)] [(2,ajo)]
def akD {γ:Type} (a:Zf.den->Option γ) (b:ZX.den->Option γ) (c:aaH.den->Option γ) (v:Zf.den):Option γ:=Qg (fun v0 v1 v2 v3 v4 v5 v6 v7=>a ((v0,v1,v2,()),((v3,v4,v5,v6,v7,()),()))) (fun e0 e1 e2 e3 e4=>b ((),((e0,e1,e2,e3,e4,()),()))) (fun r0 r1 r2 r3 r4 r5=>c ((r0,()),((r1,r2,r3,r4,r5,()),()))) v.1.1 v.1.2.1 v.1.2.2.1 v.2.1.1 v.2.1.2.1 v.2.1.2.2.1 v.2.1.2.2.2.1 v.2.1.2.2.2.2.1
theorem azl:dX afA 272 aqH ajo:=Bi (akD) (h2:=by intros;simp only[akD,Qg,dm,dn,bK,cZ,dw])
theorem aD1:dU afA 272 aFA:=qj [aqH] (aD (fM (azl)) aN)
theorem amX:dK afA:=eA f272 aN (aD1)
theorem WT:dY prog 272 aht:=sA amX
def gy (x0:List GG):=fZ x0 (false,(false,([],()))) (eG .i64 (bP x0) 1)
def jf (x0:List GG) (x1:di):=iq (cu (gy x0).2.2.1 x1) (cu (gy x0).2.2.1 x1)
def qR (x0:List GG):=nV Vl (sub x0 0 (eG .i64 (bP x0) 1)) (sub x0 0 (eG .i64 (bP x0) 1))
def jQ (x0:List GG):=nV Vl x0 x0
def vg (x0:List GG) (x1:di):=cu (cu [] (sub x0 0 (eG .i64 (bP x0) 1))) [(false,(false,((cu (gy x0).2.2.1 x1),())))]
def lS (x0:List GG):=bW (eG .i64 (bP x0) 1) (eG .i64 (bP x0) 1)
def jR (x0:List GG):=iq (gy x0).2.2.1 (gy x0).2.2.1
def sZ (x0:List GG):=gm (bP x0) 0 (eG .i64 (bP x0) 1)
def XY (x0:List GG) (x1:di):Option ((List GG)×Unit):=bif(eQ (cu [] x0) 24)then bif(eQ (cu (cu [] x0) [(false,(false,(x1,())))]) 24)then some ((cu (cu [] x0) [(false,(false,(x1,())))]),())else none else none
def VO (x0:List GG) (x1:di) (x2:Bool):Option ((List GG)×Unit):=bif(iG 0 (bP x0))then bif(!x2)then bif(gV x0 (eG .i64 (bP x0) 1))then bif(sZ x0)then bif(iU (gy x0).2.2.1 x1)then bif(jQ x0)then bif(bW (bP x0) (bP x0))then bif(lS x0)then bif(sZ x0)then bif(qR x0)then bif(jR x0)then bif(iq x1 x1)then bif(iU (gy x0).2.2.1 x1)then bif(jf x0 x1)then bif((jy false false)&&((jy false false)&&((jf x0 x1)&&true)))then bif(eQ (cu [] (sub x0 0 (eG .i64 (bP x0) 1))) 24)then bif(jQ x0)then bif(bW (bP x0) (bP x0))then bif(lS x0)then bif(jR x0)then bif(iq x1 x1)then bif(iU (gy x0).2.2.1 x1)then bif(jf x0 x1)then bif((jy false false)&&((jy false false)&&((jf x0 x1)&&true)))then bif(jQ x0)then bif(bW (bP x0) (bP x0))then bif(lS x0)then bif(sZ x0)then bif(qR x0)then bif(jR x0)then bif(iq x1 x1)then bif(iU (gy x0).2.2.1 x1)then bif(jf x0 x1)then bif(eQ (vg x0 x1) 24)then bif(jQ x0)then bif(bW (bP x0) (bP x0))then bif(lS x0)then bif(sZ x0)then bif(qR x0)then bif(jR x0)then bif(iq x1 x1)then bif(iU (gy x0).2.2.1 x1)then bif(jf x0 x1)then bif((jy false false)&&((jy false false)&&((jf x0 x1)&&true)))then bM (bif(jQ x0)then(bif(bW (bP x0) (bP x0))then(bif(lS x0)then(bif(sZ x0)then(bif(qR x0)then(bif(jR x0)then(bif(iq x1 x1)then(bif(iU (gy x0).2.2.1 x1)then(bif(jf x0 x1)then(bif(eQ (cu [] (sub x0 0 (eG .i64 (bP x0) 1))) 24)then(bif(jQ x0)then(bif(bW (bP x0) (bP x0))then(bif(lS x0)then(bif(jR x0)then(bif(iq x1 x1)then(bif(iU (gy x0).2.2.1 x1)then(bif(jf x0 x1)then(bif((jy false false)&&((jy false false)&&((jf x0 x1)&&true)))then(bif(eQ (vg x0 x1) 24)then(bif(jQ x0)then(bif(bW (bP x0) (bP x0))then(bif(lS x0)then(bif(sZ x0)then(bif(qR x0)then(bif(jR x0)then(bif(iq x1 x1)then(bif(iU (gy x0).2.2.1 x1)then(bif(jf x0 x1)then(bif((jy false false)&&((jy false false)&&((jf x0 x1)&&true)))then(bif((((jQ x0)&&((iq x1 x1)&&((jy x2 x2)&&((bW (bP x0) (bP x0))&&((jQ x0)&&((bW (bP x0) (bP x0))&&((bW (bP x0) (bP x0))&&((jy (iG 0 (bP x0)) (iG 0 (bP x0)))&&((jy true true)&&((jy x2 x2)&&((jy (!x2) (!x2))&&((jy (!x2) (!x2))&&((jQ x0)&&((bW (bP x0) (bP x0))&&((lS x0)&&(((jy (gy x0).1 (gy x0).1)&&((jy (gy x0).2.1 (gy x0).2.1)&&((jR x0)&&true)))&&(((jy (gy x0).1 (gy x0).1)&&((jy (gy x0).2.1 (gy x0).2.1)&&((jR x0)&&true)))&&((jQ x0)&&((bW (bP x0) (bP x0))&&((lS x0)&&((qR x0)&&((jR x0)&&((iq x1 x1)&&((jf x0 x1)&&(((jy false false)&&((jy false false)&&((jf x0 x1)&&true)))&&true)))))))))))))))))))))))))&&(((nV Vl [(false,(false,((cu (gy x0).2.2.1 x1),())))] [(false,(false,((cu (gy x0).2.2.1 x1),())))])&&((nV Vl (vg x0 x1) (vg x0 x1))&&(((jy (gy x0).1 (gy x0).1)&&((jy (gy x0).2.1 (gy x0).2.1)&&((jR x0)&&true)))&&true)))&&true))&&true)then(some ())else(none))else(none))else(none))else(none))else(none))else(none))else(none))else(none))else(none))else(none))else(none))else(none))else(none))else(none))else(none))else(none))else(none))else(none))else(none))else(none))else(none))else(none))else(none))else(none))else(none))else(none))else(none))else(none))else(none))else(none)) fun y0=>bM (bif(jQ x0)then(bif(bW (bP x0) (bP x0))then(bif(lS x0)then(bif(sZ x0)then(bif(qR x0)then(bif(jR x0)then(bif(iq x1 x1)then(bif(iU (gy x0).2.2.1 x1)then(bif(jf x0 x1)then(bif(jQ x0)then(bif(bW (bP x0) (bP x0))then(bif(lS x0)then(bif(sZ x0)then(bif(qR x0)then(bif(jR x0)then(bif(iq x1 x1)then(bif(iU (gy x0).2.2.1 x1)then(bif(jf x0 x1)then(bif((jy false false)&&((jy false false)&&((jf x0 x1)&&true)))then(bif(eQ (cu [] (sub x0 0 (eG .i64 (bP x0) 1))) 24)then(bif(jQ x0)then(bif(bW (bP x0) (bP x0))then(bif(lS x0)then(bif(jR x0)then(bif(iq x1 x1)then(bif(iU (gy x0).2.2.1 x1)then(bif(jf x0 x1)then(bif((jy false false)&&((jy false false)&&((jf x0 x1)&&true)))then(bif(eQ (vg x0 x1) 24)then(bif(jQ x0)then(bif(bW (bP x0) (bP x0))then(bif(lS x0)then(bif(sZ x0)then(bif(qR x0)then(bif(jR x0)then(bif(iq x1 x1)then(bif(iU (gy x0).2.2.1 x1)then(bif(jf x0 x1)then(bif((jy false false)&&((jy false false)&&((jf x0 x1)&&true)))then(bif((((jQ x0)&&((iq x1 x1)&&((jy x2 x2)&&((bW (bP x0) (bP x0))&&((jQ x0)&&((bW (bP x0) (bP x0))&&((bW (bP x0) (bP x0))&&((jy (iG 0 (bP x0)) (iG 0 (bP x0)))&&((jy true true)&&((jy x2 x2)&&((jy (!x2) (!x2))&&((jy (!x2) (!x2))&&((jQ x0)&&((bW (bP x0) (bP x0))&&((lS x0)&&(((jy (gy x0).1 (gy x0).1)&&((jy (gy x0).2.1 (gy x0).2.1)&&((jR x0)&&true)))&&(((jy (gy x0).1 (gy x0).1)&&((jy (gy x0).2.1 (gy x0).2.1)&&((jR x0)&&true)))&&((jQ x0)&&((bW (bP x0) (bP x0))&&((lS x0)&&((qR x0)&&((jR x0)&&((iq x1 x1)&&((jf x0 x1)&&(((jy false false)&&((jy false false)&&((jf x0 x1)&&true)))&&true)))))))))))))))))))))))))&&(((nV Vl [(false,(false,((cu (gy x0).2.2.1 x1),())))] [(false,(false,((cu (gy x0).2.2.1 x1),())))])&&((nV Vl (vg x0 x1) (vg x0 x1))&&(((jy (gy x0).1 (gy x0).1)&&((jy (gy x0).2.1 (gy x0).2.1)&&((jR x0)&&true)))&&true)))&&true))&&true)then(some ())else(none))else(none))else(none))else(none))else(none))else(none))else(none))else(none))else(none))else(none))else(none))else(none))else(none))else(none))else(none))else(none))else(none))else(none))else(none))else(none))else(none))else(none))else(none))else(none))else(none))else(none))else(none))else(none))else(none))else(none))else(none))else(none))else(none))else(none))else(none))else(none))else(none))else(none))else(none))else(none)) fun y1=>some ((vg x0 x1),())else none else none else none else none else none else none else none else none else none else none else none else none else none else none else none else none else none else none else none else none else none else none else none else none else none else none else none else none else none else none else none else none else none else none else none else none else none else none else none else none else none else none else XY x0 x1 else XY x0 x1
def avN:Sum:=⟨[.list Vl,.str,.bool],[(.list Vl,true)],fun x=>VO x.1 x.2.1 x.2.2.1⟩
noncomputable def aCt:Env:=gp prog tt 273 [] [] []
theorem amY:dK aCt:=eA f273 aN
theorem apl:dY prog 273 avN:=sA amY
noncomputable def aFB:Code:=(f274.body).getD .skip
noncomputable def aqI:Code:=cA (cA (cA (cB (cB (cB (cB (aFB)))))))
def atg:dZ:=⟨[0,1,3,9,10,11,100004],[(9,Vl)],[9,10],[],[8],[(8,Vl)]⟩
def Zg:SP:=⟨us [.v .str,.v Vm,.u,.v dD,.u,.u,.u,.u,.u,.slc 1800009,.v .str,.v dD] 112,[.arr 1800009 Vl]⟩
def ZY:SP:=⟨us [.u,.u,.u,.u,.u,.u,.u,.u,.u,.slc 1800009,.v .str] 113,[.arr 1800009 Vl]⟩
def aaI:SP:=⟨us [.u,.u,.u,.u,.u,.u,.u,.u,.v (.list Vl)] 115,[]⟩
def wH {γ:Type} (v0:di) (v4:Int) (v3:di) (rec:di->(List jg)->Int->di->Int->(List GG)->Option γ) (v1:List jg) (v2:Int) (y0:(jg×Int×Unit)) (v5:List GG):Option γ:=bif(gm (bP v0) (dA .i64 v4 1) (dA .i64 v4 2))then bif(iU v3 (sub v0 (dA .i64 v4 1) (dA .i64 v4 2)))then rec v0 v1 v2 (cu v3 (sub v0 (dA .i64 v4 1) (dA .i64 v4 2))) y0.1.2.2.1 v5 else none else none
def Gs {γ:Type} (y0:(jg×Int×Unit)) (v4:Int) (v0 v3:di) (rec:di->(List jg)->Int->di->Int->(List GG)->Option γ) (v1:List jg) (v2:Int) (v5:List GG):Option γ:=bif(bW y0.1.1 13)then bif(bW y0.1.2.2.1 (dA .i64 v4 2))then bif(gV v0 (dA .i64 v4 1))then bif(bW (cO v0 (dA .i64 v4 1)) 36)then wH v0 v4 v3 rec v1 v2 y0 v5 else bif(bW (cO v0 (dA .i64 v4 1)) 96)then wH v0 v4 v3 rec v1 v2 y0 v5 else bif(bW (cO v0 (dA .i64 v4 1)) 34)then wH v0 v4 v3 rec v1 v2 y0 v5 else bif(bW (cO v0 (dA .i64 v4 1)) 92)then wH v0 v4 v3 rec v1 v2 y0 v5 else bif(!(bW (cO v0 (dA .i64 v4 1)) 10))then bif(gm (bP v0) v4 (dA .i64 v4 2))then bif(iU v3 (sub v0 v4 (dA .i64 v4 2)))then rec v0 v1 v2 (cu v3 (sub v0 v4 (dA .i64 v4 2))) y0.1.2.2.1 v5 else none else none else rec v0 v1 v2 v3 y0.1.2.2.1 v5 else none else rec v0 v1 v2 v3 y0.1.2.2.1 v5 else bif(!(iq v3 []))then bif(eQ (cu v5 [(false,(true,(v3,())))]) 24)then bif(gm (bP v0) v4 y0.1.2.2.1)then bif(eQ (cu (cu v5 [(false,(true,(v3,())))]) [(true,(true,((sub v0 v4 y0.1.2.2.1),())))]) 24)then rec v0 v1 v2 [] y0.1.2.2.1 (cu (cu v5 [(false,(true,(v3,())))]) [(true,(true,((sub v0 v4 y0.1.2.2.1),())))])else none else none else none else bif(gm (bP v0) v4 y0.1.2.2.1)then bif(eQ (cu v5 [(true,(true,((sub v0 v4 y0.1.2.2.1),())))]) 24)then rec v0 v1 v2 [] y0.1.2.2.1 (cu v5 [(true,(true,((sub v0 v4 y0.1.2.2.1),())))])else none else none
def Qh {γ:Type} (rec:di->(List jg)->Int->di->Int->(List GG)->Option γ) (kE:di->(List GG)->Option γ) (kR:(List GG)->Option γ) (v0:di) (v1:List jg) (v2:Int) (v3:di) (v4:Int) (v5:List GG):Option γ:=bif(iG v4 v2)then bM (acM v1 v4) fun y0=>bif(bW y0.2.1 0)then bif(gm (bP v0) v4 (dA .i64 v4 1))then bif(iU v3 (sub v0 v4 (dA .i64 v4 1)))then rec v0 v1 v2 (cu v3 (sub v0 v4 (dA .i64 v4 1))) (dA .i64 v4 1) v5 else none else none else bif(bW y0.1.1 12)then bif(bW y0.1.2.2.1 (dA .i64 v4 1))then bif(gm (bP v0) v4 (dA .i64 v4 1))then bif(iU v3 (sub v0 v4 (dA .i64 v4 1)))then rec v0 v1 v2 (cu v3 (sub v0 v4 (dA .i64 v4 1))) (dA .i64 v4 1) v5 else none else none else Gs y0 v4 v0 v3 rec v1 v2 v5 else Gs y0 v4 v0 v3 rec v1 v2 v5 else kE v3 v5
def vH:Nat->di->(List jg)->Int->di->Int->(List GG)->Option (ZY.den⊕aaI.den)
 |0,_,_,_,_,_,_=>none
 |n+1,v0,v1,v2,v3,v4,v5=>Qh (vH n) (fun e0 e1=>some (.inl ((e0,()),(e1,())))) (fun r0=>some (.inr ((r0,()),()))) v0 v1 v2 v3 v4 v5
def ayw (n:Nat) (v:Zg.den):=vH n v.1.1 v.1.2.1 v.1.2.2.1 v.1.2.2.2.1 v.1.2.2.2.2.1 v.2.1
noncomputable def ajp:dI:=gQ atg Zg ZY aaI (.exit 0) (ayw bU) 6
def NZ (x0:di) (x1:List jg) (x2 x3:Int):Option ((List GG)×Unit):=bM (vH bU x0 x1 x3 [] x2 []) fun y0=>dV y0 (fun a1=>bif(!(iq a1.1.1 []))then bif(eQ (cu a1.2.1 [(false,(true,(a1.1.1,())))]) 24)then some ((cu a1.2.1 [(false,(true,(a1.1.1,())))]),())else none else bif(bW (bP a1.2.1) 0)then bif(eQ (cu a1.2.1 [(false,(true,(a1.1.1,())))]) 24)then some ((cu a1.2.1 [(false,(true,(a1.1.1,())))]),())else none else some (a1.2.1,())) (fun b1=>some (b1.1.1,()))
def avO:Sum:=⟨[.str,Vm,dD,dD],[(.list Vl,false)],fun x=>NZ x.1 x.2.1 x.2.2.1 x.2.2.2.1⟩
noncomputable def afB:Env:=gp prog tt 274 [(272,aht)] [(4,atg)] [(4,ajp)]
def akE {γ:Type} (a:Zg.den->Option γ) (b:ZY.den->Option γ) (c:aaI.den->Option γ) (v:Zg.den):Option γ:=Qh (fun v0 v1 v2 v3 v4 v5=>a ((v0,v1,v2,v3,v4,()),(v5,()))) (fun e0 e1=>b ((e0,()),(e1,()))) (fun r0=>c ((r0,()),())) v.1.1 v.1.2.1 v.1.2.2.1 v.1.2.2.2.1 v.1.2.2.2.2.1 v.2.1
theorem azm:dX afB 274 aqI ajp:=Bi (akE) (h2:=by intros;simp only[akE,Qh,dm,dn,bK,cZ,dw,wH,Gs])
theorem aD2:dU afB 274 aFB:=qj [aqI] (aD (fM (azm)) aN)
theorem amZ:dK afB:=eA f274 (aD WT aN) (aD2)
theorem apm:dY prog 274 avO:=sA amZ
noncomputable def aFw:Code:=(f214.body).getD .skip
noncomputable def aqu:Code:=cA (cA (cA (cB (cB (cB (cB (cB (aFw))))))))
def as2:dZ:=⟨[0,3,4,5,6,100005],[(4,.pair (.list .bool) Vl)],[4],[],[2],[(2,Vl)]⟩
def Y2:SP:=⟨us [.v .str,.u,.u,.v Vm,.slc 1800004,.v .bool,.v dD] 130,[.arr 1800004 Vl]⟩
def ZK:SP:=⟨us [.u,.u,.u,.u,.slc 1800004] 132,[.arr 1800004 Vl]⟩
def aav:SP:=⟨us [.u,.u,.v (.list Vl)] 134,[]⟩
def AU {γ:Type} (y0:(jg×Int×Unit)) (v0:di) (v3:Int) (v4:List GG) (v2:Bool) (rec:di->(List jg)->Bool->Int->(List GG)->Option γ) (v1:List jg):Option γ:=bif(bW y0.2.1 1)then bif(gm (bP v0) v3 y0.1.2.2.1)then bM (VO v4 (sub v0 v3 y0.1.2.2.1) v2) fun y1=>rec v0 v1 false y0.1.2.2.1 y1.1 else none else bif(gm (bP v0) v3 (dA .i64 v3 1))then bM (VO v4 (sub v0 v3 (dA .i64 v3 1)) v2) fun y1=>rec v0 v1 false (dA .i64 v3 1) y1.1 else none
def Gp {γ:Type} (y0:(jg×Int×Unit)) (v0:di) (v4:List GG) (rec:di->(List jg)->Bool->Int->(List GG)->Option γ) (v1:List jg) (v2:Bool):Option γ:=bif(bW y0.1.1 13)then bif(bW y0.1.2.2.1 (dA .i64 y0.1.2.1 2))then bif(gV v0 (dA .i64 y0.1.2.1 1))then bif(!(bW (cO v0 (dA .i64 y0.1.2.1 1)) 10))then bif(gm (bP v0) (dA .i64 y0.1.2.1 1) y0.1.2.2.1)then bif(eQ (cu v4 [(false,(true,((sub v0 (dA .i64 y0.1.2.1 1) y0.1.2.2.1),())))]) 24)then rec v0 v1 true y0.1.2.2.1 (cu v4 [(false,(true,((sub v0 (dA .i64 y0.1.2.1 1) y0.1.2.2.1),())))])else none else none else rec v0 v1 v2 y0.1.2.2.1 v4 else none else rec v0 v1 v2 y0.1.2.2.1 v4 else bif(bW y0.1.1 4)then bif y0.1.2.2.2.2.1 then bif(gm (bP v0) (dA .i64 y0.1.2.1 1) y0.1.2.2.1)then bif(eQ (cu v4 [(false,(true,((sub v0 (dA .i64 y0.1.2.1 1) y0.1.2.2.1),())))]) 24)then rec v0 v1 true y0.1.2.2.1 (cu v4 [(false,(true,((sub v0 (dA .i64 y0.1.2.1 1) y0.1.2.2.1),())))])else none else none else bif(gm (bP v0) (dA .i64 y0.1.2.1 1) (eG .i64 y0.1.2.2.1 1))then bif(eQ (cu v4 [(false,(true,((sub v0 (dA .i64 y0.1.2.1 1) (eG .i64 y0.1.2.2.1 1)),())))]) 24)then rec v0 v1 true y0.1.2.2.1 (cu v4 [(false,(true,((sub v0 (dA .i64 y0.1.2.1 1) (eG .i64 y0.1.2.2.1 1)),())))])else none else none else bif(bW y0.1.1 5)then bif y0.1.2.2.2.2.1 then bM (NZ v0 v1 (dA .i64 y0.1.2.1 1) y0.1.2.2.1) fun y1=>bif(eQ (cu v4 y1.1) 24)then rec v0 v1 true y0.1.2.2.1 (cu v4 y1.1)else none else bM (NZ v0 v1 (dA .i64 y0.1.2.1 1) (eG .i64 y0.1.2.2.1 1)) fun y1=>bif(eQ (cu v4 y1.1) 24)then rec v0 v1 true y0.1.2.2.1 (cu v4 y1.1)else none else bif(gm (bP v0) y0.1.2.1 y0.1.2.2.1)then bif(eQ (cu v4 [(true,(false,((sub v0 y0.1.2.1 y0.1.2.2.1),())))]) 24)then rec v0 v1 true y0.1.2.2.1 (cu v4 [(true,(false,((sub v0 y0.1.2.1 y0.1.2.2.1),())))])else none else none
def P6 {γ:Type} (rec:di->(List jg)->Bool->Int->(List GG)->Option γ) (kE kR:(List GG)->Option γ) (v0:di) (v1:List jg) (v2:Bool) (v3:Int) (v4:List GG):Option γ:=bif(iG v3 (bP v0))then bM (acM v1 v3) fun y0=>bif(bW y0.2.1 0)then AU y0 v0 v3 v4 v2 rec v1 else bif(bW y0.1.1 14)then AU y0 v0 v3 v4 v2 rec v1 else bif(bW y0.1.1 12)then bif(bW y0.1.2.2.1 (dA .i64 v3 1))then AU y0 v0 v3 v4 v2 rec v1 else Gp y0 v0 v4 rec v1 v2 else Gp y0 v0 v4 rec v1 v2 else kE v4
def mM:Nat->di->(List jg)->Bool->Int->(List GG)->Option (ZK.den⊕aav.den)
 |0,_,_,_,_,_=>none
 |n+1,v0,v1,v2,v3,v4=>P6 (mM n) (fun e0=>some (.inl ((),(e0,())))) (fun r0=>some (.inr ((r0,()),()))) v0 v1 v2 v3 v4
def ayi (n:Nat) (v:Y2.den):=mM n v.1.1 v.1.2.1 v.1.2.2.1 v.1.2.2.2.1 v.2.1
noncomputable def ajb:dI:=gQ as2 Y2 ZK aav (.exit 0) (ayi bU) 6
def aid (x0:di):Option ((List GG)×Unit):=bM (ain x0) fun y0=>bM (mM bU x0 y0.1 true 0 []) fun y1=>dV y1 (fun a2=>some (a2.2.1,())) (fun b2=>some (b2.1.1,()))
def avu:Sum:=⟨[.str],[(.list Vl,false)],fun x=>aid x.1⟩
noncomputable def afq:Env:=gp prog tt 214 [(271,avM),(272,aht),(273,avN),(274,avO)] [(5,as2)] [(5,ajb)]
def akq {γ:Type} (a:Y2.den->Option γ) (b:ZK.den->Option γ) (c:aav.den->Option γ) (v:Y2.den):Option γ:=P6 (fun v0 v1 v2 v3 v4=>a ((v0,v1,v2,v3,()),(v4,()))) (fun e0=>b ((),(e0,()))) (fun r0=>c ((r0,()),())) v.1.1 v.1.2.1 v.1.2.2.1 v.1.2.2.2.1 v.2.1
theorem ay8:dX afq 214 aqu ajb:=Bi (akq) (h2:=by intros;simp only[akq,P6,dm,dn,bK,cZ,dw,AU,Gp])
theorem aDO:dU afq 214 aFw:=qj [aqu] (aD (fM (ay8)) aN)
theorem amm:dK afq:=eA f214 (aD apk (aD WT (aD apl (aD apm aN)))) (aDO)
theorem ao2:dY prog 214 avu:=sA amm
noncomputable def aFv:Code:=(f153.body).getD .skip
noncomputable def aqo:Code:=cA (cA (cB (cA (cB (cB (cB (aFv)))))))
def asW:dZ:=⟨[3,4,5,100004],[],[4],[],[2],[]⟩
def YX:SP:=⟨us [.u,.u,.u,.v (.list Vl),.v .str,.v dD] 16,[]⟩
def ZF:SP:=⟨us [.u,.u,.u,.u,.v .str] 17,[]⟩
def aaq:SP:=⟨us [.u,.u,.v .str] 19,[]⟩
def PW {γ:Type} (rec:(List GG)->di->Int->Option γ) (kE kR:di->Option γ) (v0:List GG) (v1:di) (v2:Int):Option γ:=bif(iG v2 (bP v0))then bif(gV v0 v2)then bif(iU v1 (fZ v0 (false,(false,([],()))) v2).2.2.1)then rec v0 (cu v1 (fZ v0 (false,(false,([],()))) v2).2.2.1) (dA .i64 v2 1)else none else none else kE v1
def FH:Nat->(List GG)->di->Int->Option (ZF.den⊕aaq.den)
 |0,_,_,_=>none
 |n+1,v0,v1,v2=>PW (FH n) (fun e0=>some (.inl ((e0,()),()))) (fun r0=>some (.inr ((r0,()),()))) v0 v1 v2
def ayd (n:Nat) (v:YX.den):=FH n v.1.1 v.1.2.1 v.1.2.2.1
noncomputable def ai6:dI:=gQ asW YX ZF aaq (.exit 0) (ayd bU) 6
def acz (x0:di):Option (di×Unit):=bM (aid x0) fun y0=>bM (FH bU y0.1 [] 0) fun y1=>dV y1 (fun a2=>some (a2.1.1,())) (fun b2=>some (b2.1.1,()))
def avk:Sum:=⟨[.str],tzI,fun x=>acz x.1⟩
noncomputable def afm:Env:=gp prog tt 153 [(214,avu)] [(4,asW)] [(4,ai6)]
def akl {γ:Type} (a:YX.den->Option γ) (b:ZF.den->Option γ) (c:aaq.den->Option γ) (v:YX.den):Option γ:=PW (fun v0 v1 v2=>a ((v0,v1,v2,()),())) (fun e0=>b ((e0,()),())) (fun r0=>c ((r0,()),())) v.1.1 v.1.2.1 v.1.2.2.1
theorem ay3:dX afm 153 aqo ai6:=Bi (akl) (h2:=by intros;simp only[akl,PW,dm,dn,bK,cZ,dw])
theorem aDJ:dU afm 153 aFv:=qj [aqo] (aD (fM (ay3)) aN)
theorem alY:dK afm:=eA f153 (aD ao2 aN) (aDJ)
theorem aoS:dY prog 153 avk:=sA alY
end
section
open Bool renaming and_eq_true → af, and_true → ax, not_true → aB, not_false → aG
open Int renaming toNat_natCast → aP
open List renaming length_append → ae, append_assoc → ag, length_singleton → ai, nil_append → aH, drop_of_length_le → aI, append_nil → aK, drop_eq_getElem_cons → aO, drop_zero → aX, take_of_length_le → bu
open Nat renaming le_trans → aW
open Go.RowKit
abbrev Pce:=Bool×Bool×List UInt8×Unit
def jO (l:List Pce):di:=(l.map (·.2.2.1)).flatten
theorem uN (a b:List Pce):jO (a++b)=jO a++jO b:=by simp[jO]
theorem xF (x y:Bool) (t:di):jO [(x,(y,(t,())))]=t:=by simp[jO]
theorem VG (L:List kS) (hl:L.length<1000000) (v m f t u:Int) (o:Bool): ∀(N k:Nat),L.length-k<N->k<=L.length->
  FO N L v (k:Int) m f t u o=some (match(L.drop k).find? (fun p=>p.2.1==v)with
   |none=>.inl ((),((m,f,t,u,o,()),()))
   |some p=>.inr ((1,()),((p.1,p.2.1,p.2.2.1,p.2.2.2.1,p.2.2.2.2.1,()),())))
 |0,k,h,_=>by omega
 |N+1,k,h,hk=>by
  rw[FO,Qg];by_cases e:k<L.length
  ·have hg:fZ L (0,(0,(0,(0,(false,()))))) (k:Int)=L[k]:=by
    unfold fZ;rw[aP,List.getD_eq_getElem?_getD,List.getElem?_eq_getElem e];rfl
   rw[bZ (fH (by rw[bT];omega)),bZ (eP (by omega) (by omega)),hg,aO e,List.find?_cons];by_cases h1:L[k].2.1=v
   ·rw[bZ (fV h1),bZ (eP (by omega) (by omega))];have:(L[k].2.1==v)=true:=by simpa using h1
    rw[this]
   ·have:(L[k].2.1==v)=false:=by simpa using h1
    rw[dE (dW h1),dC (by omega) (by omega),show(k:Int)+1=((k+1:Nat):Int) by omega,VG L hl v m f t u o N (k+1) (by omega) (by omega),this]
  ·rw[dE (iy (by rw[bT];omega)),aI (by omega)];rfl
theorem asf (L:List kS) (hl:L.length<1000000) (v:Int):acM L v=some (match wW L v with
  |none=>((0,(0,(0,(0,(false,()))))),(0,()))
  |some p=>(p,(1,()))):=by
 rw[acM];have h:=VG L hl v 0 0 0 0 false bU 0 (dO (by omega)) (by omega);rw[show FO bU L v 0 0 0 0 0 false=_ from h,bK,aX];unfold wW;cases L.find? (fun p=>p.2.1==v)with
 |none=>rfl
 |some p=>rfl
theorem ahd {a b:List UInt8} (h:a.length+b.length<=140737488355328):iU a b=true:=by
 unfold iU lm;simpa using h
theorem qQ {α:Type} {l:List α} {k:Nat} (h:l.length*k<=140737488355328):eQ l k=true:=by
 unfold eQ lm;simpa using h
theorem Q7 (s:di) (hs:s.length<=10000) {to_:Int} (hto:to_<=s.length): ∀(N:Nat) (at_:Int) (here:di) (out:List Pce),0<N->to_-at_<N->0<=at_->at_<=s.length->(here.length:Int)<=10000*at_->(out.length:Int)<=2*at_->
  ∃here' out',vH N s (dh s) to_ here at_ out=some (.inl ((here',()),(out',())))/\jO out'++here'=jO out++here++rU s (dh s) to_ N at_/\(here'.length:Int)<=10000*s.length/\(out'.length:Int)<=2*s.length
 |0,at_,here,out,hN,_,_,_,_,_=>by
  omega
 |N+1,at_,here,out,hN,h,h0,h1,hh,ho=>by
  (rewrite [vH,Qh];delta Gs wH;rw[rU])
  by_cases e:at_<to_
  ·have hpl:=Cj s;have hup:= @Ug s at_;have hsl:=Nl s (dh s) at_;have keep: ∀(c:di) (nx:Int),c=(iQ s (dh s) at_).2.1->nx=(iQ s (dh s) at_).1->nx<=s.length->
     ∃here' out',vH N s (dh s) to_ (cu here c) nx out=some (.inl ((here',()),(out',())))/\jO out'++here'=jO out++here++((iQ s (dh s) at_).2.1++rU s (dh s) to_ N (iQ s (dh s) at_).1)/\(here'.length:Int)<=10000*s.length/\(out'.length:Int)<=2*s.length:=by
    intro c nx hc hnx hle;subst hc hnx;obtain⟨here',out',r1,r2,r3,r4⟩:=Q7 s hs hto N (iQ s (dh s) at_).1 (cu here (iQ s (dh s) at_).2.1) out (by omega) (by omega) (by omega) hle (by unfold cu;rw[ae];omega) (by omega);refine⟨here',out',r1, ?_,r3,r4⟩;rw[r2];unfold cu;simp only[ag]
   have push: ∀(l:List Pce) (nx:Int),jO l=here++(iQ s (dh s) at_).2.1->l.length<=2->nx=(iQ s (dh s) at_).1->nx<=s.length->
     ∃here' out',vH N s (dh s) to_ [] nx (out++l)=some (.inl ((here',()),(out',())))/\jO out'++here'=jO out++here++((iQ s (dh s) at_).2.1++rU s (dh s) to_ N (iQ s (dh s) at_).1)/\(here'.length:Int)<=10000*s.length/\(out'.length:Int)<=2*s.length:=by
    intro l nx hl hl2 hnx hle;subst hnx;obtain⟨here',out',r1,r2,r3,r4⟩:=Q7 s hs hto N (iQ s (dh s) at_).1 [] (out++l) (by omega) (by omega) (by omega) hle (by simp;omega) (by rw[ae];omega);refine⟨here',out',r1, ?_,r3,r4⟩;rw[r2,uN,hl];simp only[ag,aH]
   have hroom: ∀c:di,c.length<=10000->iU here c=true:=fun c hc=>ahd (by omega);have hfit1: ∀x,eQ (cu out [x]) 24=true:=fun x=>qQ (by unfold cu;simp only[ae,ai];omega);have hfit2: ∀x y,eQ (cu (cu out [x]) [y]) 24=true:=fun x y=>qQ (by unfold cu;simp only[ae,ai];omega);have hsub: ∀a b:Int,(sub s a b).length<=10000:=fun a b=>aW (IQ s a b) hs;have ha1:dA .i64 at_ 1=at_+1:=dC (by omega) (by omega);have ha2:dA .i64 at_ 2=at_+2:=dC (by omega) (by omega);have hp1:gm (bP s) at_ (at_+1)=true:=gB h0 (by omega) (by rw[bT];omega);rw[bZ (fH e),if_pos e,asf (dh s) (by omega),bK];cases hf:wW (dh s) at_ with
   |none=>
    have hst:iQ s (dh s) at_=(at_+1,sub s at_ (at_+1),false):=by unfold iQ;rw[hf]
    simp only[ha1];rw[show bW 0 0=true from rfl,cond_true,hp1,cond_true,hroom _ (hsub _ _),cond_true];exact keep _ _ (by rw[hst]) (by rw[hst]) (by omega)
   |some p=>
    obtain⟨pf,hpe⟩:=wX hf;have t0:=pf.t0;have t1:=pf.t1;simp only[ha1,ha2];rw[show bW 1 0=false from rfl,cond_false];by_cases hlone:lone p=true
    ·have hst:iQ s (dh s) at_=(at_+1,sub s at_ (at_+1),false):=by unfold iQ;rw[hf];simp only;rw[if_pos hlone]
     unfold lone at hlone;simp only[af,decide_eq_true_eq]at hlone;rw[bZ (fV hlone.1),bZ (fV (by omega)),hp1,cond_true,hroom _ (hsub _ _),cond_true];exact keep _ _ (by rw[hst]) (by rw[hst]) (by omega)
    ·have hl': ¬(p.1=12/\p.2.2.1=at_+1):=fun h=>hlone (by unfold lone;rw[hpe];simp[h]);have hp2:gm (bP s) at_ p.2.2.1=true:=gB h0 (by omega) (by rw[bT];omega);by_cases h13:p.1=13
     ·have hst:iQ s (dh s) at_=(p.2.2.1,UT s p,false):=by unfold iQ;rw[hf];simp only;rw[if_neg hlone,if_pos h13]
      rw[dE (dW (by omega)),bZ (fV h13)];by_cases hto2:p.2.2.1=at_+2
      ·have hin:gV s (at_+1)=true:=eP (by omega) (by omega);have hp3:gm (bP s) (at_+1) (at_+2)=true:=gB (by omega) (by omega) (by rw[bT];omega);have hp4:gm (bP s) at_ (at_+2)=true:=gB (by omega) (by omega) (by rw[bT];omega);have hesc:UT s p=(if cO s (at_+1)=36\/cO s (at_+1)=96\/cO s (at_+1)=34\/cO s (at_+1)=92 then sub s (at_+1) (at_+2)
         else if cO s (at_+1)=10 then []else sub s at_ (at_+2)):=by
        unfold UT nY;rw[hpe,if_pos (by omega),hto2]
       rw[bZ (fV hto2),hin,cond_true];by_cases b1:cO s (at_+1)=36
       ·rw[bZ (fV b1),hp3,cond_true,hroom _ (hsub _ _),cond_true];exact keep _ _ (by rw[hst,hesc,if_pos (.inl b1)]) (by rw[hst]) (by omega)
       ·rw[dE (dW b1)];by_cases b2:cO s (at_+1)=96
        ·rw[bZ (fV b2),hp3,cond_true,hroom _ (hsub _ _),cond_true];exact keep _ _ (by rw[hst,hesc,if_pos (.inr (.inl b2))]) (by rw[hst]) (by omega)
        ·rw[dE (dW b2)];by_cases b3:cO s (at_+1)=34
         ·rw[bZ (fV b3),hp3,cond_true,hroom _ (hsub _ _),cond_true];exact keep _ _ (by rw[hst,hesc,if_pos (.inr (.inr (.inl b3)))]) (by rw[hst]) (by omega)
         ·rw[dE (dW b3)];by_cases b4:cO s (at_+1)=92
          ·rw[bZ (fV b4),hp3,cond_true,hroom _ (hsub _ _),cond_true];exact keep _ _ (by rw[hst,hesc,if_pos (.inr (.inr (.inr b4)))]) (by rw[hst]) (by omega)
          ·rw[dE (dW b4)];have hno: ¬(cO s (at_+1)=36\/cO s (at_+1)=96\/cO s (at_+1)=34\/cO s (at_+1)=92):=by omega
           by_cases b5:cO s (at_+1)=10
           ·rw[fV b5];simp only[aB,cond_false];have:=keep [] p.2.2.1 (by rw[hst,hesc,if_neg hno,if_pos b5]) (by rw[hst]) (by omega);rwa [show cu here ([]:di)=here by simp[cu]]at this
           ·rw[dW b5];simp only[aG,cond_true];rw[hp4,cond_true,hroom _ (hsub _ _),cond_true];exact keep _ _ (by rw[hst,hesc,if_neg hno,if_neg b5]) (by rw[hst]) (by omega)
      ·rw[dE (dW hto2)];have:=keep [] p.2.2.1 (by rw[hst];unfold UT;rw[if_neg (by omega)]) (by rw[hst]) (by omega);rwa [show cu here ([]:di)=here by simp[cu]]at this
     ·have hst:iQ s (dh s) at_=(p.2.2.1,nY s p,true):=by unfold iQ;rw[hf];simp only;rw[if_neg hlone,if_neg h13]
      have hby:nY s p=sub s at_ p.2.2.1:=by unfold nY;rw[hpe]
      have fin: ∃here' out',(bif !iq here []then
        bif eQ (cu out [(false,(true,(here,())))]) 24 then
         bif gm (bP s) at_ p.2.2.1 then
          bif eQ (cu (cu out [(false,(true,(here,())))]) [(true,(true,(sub s at_ p.2.2.1,())))]) 24 then
           vH N s (dh s) to_ [] p.2.2.1 (cu (cu out [(false,(true,(here,())))]) [(true,(true,(sub s at_ p.2.2.1,())))])
          else none
         else none
        else none
       else bif gm (bP s) at_ p.2.2.1 then
        bif eQ (cu out [(true,(true,(sub s at_ p.2.2.1,())))]) 24 then
         vH N s (dh s) to_ [] p.2.2.1 (cu out [(true,(true,(sub s at_ p.2.2.1,())))])
        else none
       else none)=some (.inl ((here',()),(out',())))/\jO out'++here'=jO out++here++((iQ s (dh s) at_).2.1++rU s (dh s) to_ N (iQ s (dh s) at_).1)/\(here'.length:Int)<=10000*s.length/\(out'.length:Int)<=2*s.length:=by
       by_cases he:here=[]
       ·have:=push [(true,(true,(sub s at_ p.2.2.1,())))] p.2.2.1 (by rw[xF,he,hst,hby];rfl) (by simp) (by rw[hst]) (by omega);rw[show(!iq here [])=false by rw[he];rfl,cond_false,hp2,cond_true,hfit1,cond_true];exact this
       ·have:=push ([(false,(true,(here,())))]++[(true,(true,(sub s at_ p.2.2.1,())))]) p.2.2.1 (by rw[uN,xF,xF,hst,hby]) (by simp) (by rw[hst]) (by omega);rw[show(!iq here [])=true by unfold iq;simpa using he,cond_true,hfit1,cond_true,hp2,cond_true,hfit2,cond_true];rw[<-ag]at this;exact this
      by_cases h12:p.1=12
      ·rw[bZ (fV h12),dE (dW (fun h=>hl' ⟨h12,h⟩)),dE (dW h13)];exact fin
      ·rw[dE (dW h12),dE (dW h13)];exact fin
  ·rw[dE (iy e),if_neg e];exact⟨here,out,rfl,by simp,by omega,by omega⟩
theorem apV (s:di) (hs:s.length<=10000) {from_ to_:Int} (h0:0<=from_) (h1:from_<=s.length) (hto:to_<=s.length):
  ∃out,NZ s (dh s) from_ to_=some (out,())/\jO out=rU s (dh s) to_ s.length from_/\out.length<=2*s.length+1:=by
 obtain⟨here,out,r1,r2,r3,r4⟩:=Q7 s hs hto bU from_ [] [] (by unfold bU;omega) (by have:=dO (n:=s.length) (by omega);omega) h0 h1 (by simp;omega) (by simp;omega);have hm:rU s (dh s) to_ bU from_=rU s (dh s) to_ s.length from_:=LK s to_ _ _ _ (by have:=dO (n:=s.length) (by omega);omega) (by omega);rw[hm,show jO []=([]:di) from rfl,aH,aH]at r2;rw[NZ,r1,bK];simp only[dV];have hfit: ∀x,eQ (cu out [x]) 24=true:=fun x=>qQ (by unfold cu;simp only[ae,ai];omega);by_cases he:here=[]
 ·rw[show(!iq here [])=false by rw[he];rfl,cond_false];subst he;rw[aK]at r2;by_cases ho:out.length=0
  ·rw[bZ (fV (by rw[bT];omega)),hfit,cond_true];exact⟨_,rfl,by unfold cu;rw[uN,xF,r2,aK],by unfold cu;simp only[ae,ai];omega⟩
  ·rw[dE (dW (by rw[bT];omega))];exact⟨_,rfl,r2,by omega⟩
 ·rw[show(!iq here [])=true by unfold iq;simpa using he,cond_true,hfit,cond_true];exact⟨_,rfl,by unfold cu;rw[uN,xF,r2],by unfold cu;simp only[ae,ai];omega⟩
theorem rE (l:List Pce) (x:Pce):jO (l++[x])=jO l++x.2.2.1:=by simp[jO]
theorem auz (out:List Pce) (t:di) (fresh:Bool) (ho:out.length<1000000000) (ht:(jO out).length+t.length<=100000000000000):
  ∃out',VO out t fresh=some (out',())/\jO out'=jO out++t/\out'.length<=out.length+1:=by
 have one: ∃out',(bif eQ (cu [] out) 24 then bif eQ (cu (cu [] out) [(false,(false,(t,())))]) 24 then some ((cu (cu [] out) [(false,(false,(t,())))]),())else none else none)=some (out',())/\jO out'=jO out++t/\out'.length<=out.length+1:=by
  rw[bZ (qQ (by unfold cu;simp only[aH];omega)),bZ (qQ (by unfold cu;simp only[aH,ae,ai];omega))];exact⟨_,rfl,by unfold cu;rw[aH,uN,xF],by unfold cu;simp⟩
 (rewrite [VO];delta XY sZ jR lS vg jQ qR jf gy)
 rcases List.eq_nil_or_concat out with rfl|⟨l,x,rfl⟩
 ·rw[show iG 0 (bP ([]:List Pce))=false from rfl,cond_false];exact one
 ·rw[List.concat_eq_append]at*;cases fresh with
  |true=>
   rw[bZ (fH (by rw[bT];simp only[ae,ai];omega)),show(!true)=false from rfl,cond_false];exact one
  |false=>
   rw[rE,ae]at ht;rw[ae,ai]at ho;have hL:eG .i64 (bP (l++[x])) 1=(l.length:Int):=by rw[bT,iJ (by simp only[ae,ai];omega) (by simp only[ae,ai];omega)];simp
   have hg:fZ (l++[x]) (false,(false,([],()))) (l.length:Int)=x:=Ag rfl;have hin:gV (l++[x]) (l.length:Int)=true:=eP (by omega) (by simp only[ae,ai];omega);have hpt:gm (bP (l++[x])) 0 (l.length:Int)=true:=gB (by omega) (by omega) (by rw[bT];simp only[ae,ai];omega);have hsb:sub (l++[x]) 0 (l.length:Int)=l:=by simp[sub]
   have hrm:iU x.2.2.1 t=true:=ahd (by omega);have hf1:eQ (cu [] l) 24=true:=qQ (by unfold cu;simp only[aH];omega);have hf2: ∀y,eQ (cu (cu [] l) [y]) 24=true:=fun y=>qQ (by unfold cu;simp only[aH,ae,ai];omega);rw[bZ (fH (by rw[bT];simp only[ae,ai];omega))];simp only[aG,cond_true,hL,hg,hin,hpt,hsb,hrm,hf1,hf2,fG,pI,iK,ik,ax,bK];exact⟨_,rfl,by unfold cu;rw[aH,uN,xF,rE,ag],by unfold cu;simp⟩
theorem Oz (s:di) (hs:s.length<=10000): ∀(N:Nat) (at_:Int) (fresh:Bool) (out:List Pce),(s.length:Int)-at_<N->0<=at_->at_<=s.length->((jO out).length:Int)<=100010000*at_->(out.length:Int)<=30000*at_->
  ∃out',mM N s (dh s) fresh at_ out=some (.inl ((),(out',())))/\jO out'=jO out++lH s (dh s) N at_/\(out'.length:Int)<=30000*s.length
 |0,at_,fresh,out,h,_,_,_,_=>by omega
 |N+1,at_,fresh,out,h,h0,h1,ht,ho=>by
  (rewrite [mM,P6];delta Gp AU;rw[lH])
  by_cases e:at_<s.length
  ·have hpl:=Cj s;have hup:= @Uh s at_;have hle:=aeJ (s:=s) e;have hsl:(stepT s (dh s) at_).2.length<=100010000:=by
    have h1:=Np s (dh s) at_;have h2:s.length*s.length<=10000*10000:=Nat.mul_le_mul hs hs;omega
   have go: ∀(l:List Pce) (f:Bool),jO l=jO out++(stepT s (dh s) at_).2->l.length<=out.length+20002->
     ∃out',mM N s (dh s) f (stepT s (dh s) at_).1 l=some (.inl ((),(out',())))/\jO out'=jO out++((stepT s (dh s) at_).2++lH s (dh s) N (stepT s (dh s) at_).1)/\(out'.length:Int)<=30000*s.length:=by
    intro l f hl hn;obtain⟨out',r1,r2,r3⟩:=Oz s hs N (stepT s (dh s) at_).1 f l (by omega) (by omega) hle (by rw[hl,ae];omega) (by omega);exact⟨out',r1,by rw[r2,hl,ag],r3⟩
   have pln: ∀(t:di) (nx:Int),t=(stepT s (dh s) at_).2->nx=(stepT s (dh s) at_).1->
     ∃out',(bM (VO out t fresh) fun y1=>mM N s (dh s) false nx y1.1)=some (.inl ((),(out',())))/\jO out'=jO out++((stepT s (dh s) at_).2++lH s (dh s) N (stepT s (dh s) at_).1)/\(out'.length:Int)<=30000*s.length:=by
    intro t nx e1 e2;subst e1 e2;obtain⟨o,p1,p2,p3⟩:=auz out (stepT s (dh s) at_).2 fresh (by omega) (by omega);rw[p1,bK];exact go o false p2 (by omega)
   have psh: ∀(x:Pce) (nx:Int),x.2.2.1=(stepT s (dh s) at_).2->nx=(stepT s (dh s) at_).1->
     ∃out',(bif eQ (cu out [x]) 24 then mM N s (dh s) true nx (cu out [x])else none)=some (.inl ((),(out',())))/\jO out'=jO out++((stepT s (dh s) at_).2++lH s (dh s) N (stepT s (dh s) at_).1)/\(out'.length:Int)<=30000*s.length:=by
    intro x nx e1 e2;subst e2;rw[bZ (qQ (by unfold cu;simp only[ae,ai];omega))];exact go _ true (by unfold cu;rw[rE,e1]) (by unfold cu;simp)
   have skip: ∀(nx:Int),(stepT s (dh s) at_).2=[]->nx=(stepT s (dh s) at_).1->
     ∃out',mM N s (dh s) fresh nx out=some (.inl ((),(out',())))/\jO out'=jO out++((stepT s (dh s) at_).2++lH s (dh s) N (stepT s (dh s) at_).1)/\(out'.length:Int)<=30000*s.length:=by
    intro nx e1 e2;subst e2;exact go out fresh (by rw[e1,aK]) (by omega)
   have ha1:dA .i64 at_ 1=at_+1:=dC (by omega) (by omega);have hp1:gm (bP s) at_ (at_+1)=true:=gB h0 (by omega) (by rw[bT];omega);rw[bZ (fH (b:=bP s) e),if_pos e,asf (dh s) (by omega),bK];cases hf:wW (dh s) at_ with
   |none=>
    have hst:stepT s (dh s) at_=(at_+1,sub s at_ (at_+1)):=by unfold stepT;rw[hf]
    simp only[ha1];rw[show bW 0 0=true from rfl,cond_true,show bW 0 1=false from rfl,cond_false,hp1,cond_true];exact pln _ _ (by rw[hst]) (by rw[hst])
   |some p=>
    obtain⟨pf,hpe⟩:=wX hf;have t0:=pf.t0;have t1:=pf.t1;have hby:nY s p=sub s at_ p.2.2.1:=by unfold nY;rw[hpe]
    have hp2:gm (bP s) at_ p.2.2.1=true:=gB h0 (by omega) (by rw[bT];omega);have ha1':dA .i64 p.2.1 1=at_+1:=by rw[hpe];exact ha1
    have ha2':dA .i64 p.2.1 2=at_+2:=by rw[hpe];exact dC (by omega) (by omega)
    have hs1:eG .i64 p.2.2.1 1=p.2.2.1-1:=iJ (by omega) (by omega);simp only[ha1,ha1',ha2',hs1];rw[show bW 1 0=false from rfl,cond_false,show bW 1 1=true from rfl];simp only[cond_true];by_cases hpl':lone p=true\/p.1=14
    ·have hst:stepT s (dh s) at_=(p.2.2.1,nY s p):=by unfold stepT;rw[hf];simp only;rw[if_pos hpl']
     have:=pln (sub s at_ p.2.2.1) p.2.2.1 (by rw[hst,hby]) (by rw[hst]);by_cases h14:p.1=14
     ·rw[bZ (fV h14),hp2,cond_true];exact this
     ·have hlone:lone p=true:=hpl'.resolve_right h14;unfold lone at hlone;simp only[af,decide_eq_true_eq]at hlone;rw[dE (dW h14),bZ (fV hlone.1),bZ (fV (by omega)),hp2,cond_true];exact this
    ·have hl': ¬(p.1=12/\p.2.2.1=at_+1):=fun h=>hpl' (.inl (by unfold lone;rw[hpe];simp[h]));have h14:p.1≠14:=fun h=>hpl' (.inr h);rw[dE (dW h14)];by_cases h13:p.1=13
     ·have hst:stepT s (dh s) at_=(p.2.2.1,UU s p):=by unfold stepT;rw[hf];simp only;rw[if_neg hpl',if_pos h13]
      rw[dE (dW (by omega)),bZ (fV h13)];by_cases hto2:p.2.2.1=at_+2
      ·rw[bZ (fV hto2),bZ (eP (by omega) (by omega))];by_cases b5:cO s (at_+1)=10
       ·rw[fV b5];simp only[aB,cond_false];exact skip _ (by rw[hst];unfold UU;rw[hpe,if_neg (by omega)]) (by rw[hst])
       ·rw[dW b5];simp only[aG,cond_true];rw[bZ (gB (by omega) (by omega) (by rw[bT];omega))];exact psh _ _ (by rw[hst];unfold UU;rw[hpe,if_pos ⟨by omega,b5⟩]) (by rw[hst])
      ·rw[dE (dW hto2)];exact skip _ (by rw[hst];unfold UU;rw[hpe,if_neg (by omega)]) (by rw[hst])
     ·have rest: ∃out',(bif bW p.1 4 then
        bif p.2.2.2.2.1 then
         bif gm (bP s) (at_+1) p.2.2.1 then
          bif eQ (cu out [(false,(true,(sub s (at_+1) p.2.2.1,())))]) 24 then
           mM N s (dh s) true p.2.2.1 (cu out [(false,(true,(sub s (at_+1) p.2.2.1,())))])
          else none
         else none
        else bif gm (bP s) (at_+1) (p.2.2.1-1)then
         bif eQ (cu out [(false,(true,(sub s (at_+1) (p.2.2.1-1),())))]) 24 then
          mM N s (dh s) true p.2.2.1 (cu out [(false,(true,(sub s (at_+1) (p.2.2.1-1),())))])
         else none
        else none
       else bif bW p.1 5 then
        bif p.2.2.2.2.1 then
         bM (NZ s (dh s) (at_+1) p.2.2.1) fun y1=>
          bif eQ (cu out y1.1) 24 then mM N s (dh s) true p.2.2.1 (cu out y1.1)else none
        else
         bM (NZ s (dh s) (at_+1) (p.2.2.1-1)) fun y1=>
          bif eQ (cu out y1.1) 24 then mM N s (dh s) true p.2.2.1 (cu out y1.1)else none
       else bif gm (bP s) p.2.1 p.2.2.1 then
        bif eQ (cu out [(true,(false,(sub s p.2.1 p.2.2.1,())))]) 24 then
         mM N s (dh s) true p.2.2.1 (cu out [(true,(false,(sub s p.2.1 p.2.2.1,())))])
        else none
       else none)=some (.inl ((),(out',())))/\jO out'=jO out++((stepT s (dh s) at_).2++lH s (dh s) N (stepT s (dh s) at_).1)/\(out'.length:Int)<=30000*s.length:=by
       by_cases h4:p.1=4
       ·have hst:stepT s (dh s) at_=(p.2.2.1,sub s (p.2.1+1) (wS p)):=by unfold stepT;rw[hf];simp only;rw[if_neg hpl',if_neg h13,if_pos h4]
        rw[bZ (fV h4)];cases hop:p.2.2.2.2.1 with
        |true=>
         rw[cond_true,bZ (gB (by omega) (by omega) (by rw[bT];omega))];exact psh _ _ (by rw[hst,hpe];unfold wS;rw[hop,if_pos rfl]) (by rw[hst])
        |false=>
         have:=pf.sh hop (by omega);rw[cond_false,bZ (gB (by omega) (by omega) (by rw[bT];omega))];exact psh _ _ (by rw[hst,hpe];unfold wS;rw[hop,if_neg (by simp)]) (by rw[hst])
       ·rw[dE (dW h4)];by_cases h5:p.1=5
        ·have hst:stepT s (dh s) at_=(p.2.2.1,rU s (dh s) (wS p) s.length (p.2.1+1)):=by unfold stepT;rw[hf];simp only;rw[if_neg hpl',if_neg h13,if_neg h4,if_pos h5]
         rw[bZ (fV h5)];have dbl: ∀to_:Int,to_=wS p->to_<=s.length-> ∃out',(bM (NZ s (dh s) (at_+1) to_) fun y1=>
           bif eQ (cu out y1.1) 24 then mM N s (dh s) true p.2.2.1 (cu out y1.1)else none)=some (.inl ((),(out',())))/\jO out'=jO out++((stepT s (dh s) at_).2++lH s (dh s) N (stepT s (dh s) at_).1)/\(out'.length:Int)<=30000*s.length:=by
          intro to_ hte hto;obtain⟨o,d1,d2,d3⟩:=apV s hs (from_:=at_+1) (to_:=to_) (by omega) (by omega) hto;rw[d1,bK];simp only;rw[bZ (qQ (by unfold cu;rw[ae];omega))];have:=go (cu out o) true (by unfold cu;rw[uN,d2,hst,hpe,hte]) (by unfold cu;rw[ae];omega);rw[show p.2.2.1=(stepT s (dh s) at_).1 by rw[hst]];exact this
         cases hop:p.2.2.2.2.1 with
         |true=>rw[cond_true];exact dbl _ (by unfold wS;rw[hop,if_pos rfl]) (by omega)
         |false=>rw[cond_false];exact dbl _ (by unfold wS;rw[hop,if_neg (by simp)]) (by omega)
        ·have hst:stepT s (dh s) at_=(p.2.2.1,nY s p):=by unfold stepT;rw[hf];simp only;rw[if_neg hpl',if_neg h13,if_neg h4,if_neg h5]
         rw[dE (dW h5),bZ (gB (by omega) (by omega) (by rw[bT];omega))];exact psh _ _ (by rw[hst];rfl) (by rw[hst])
      by_cases h12:p.1=12
      ·rw[bZ (fV h12),dE (dW (fun h=>hl' ⟨h12,h⟩)),dE (dW h13)];exact rest
      ·rw[dE (dW h12),dE (dW h13)];exact rest
  ·rw[dE (iy (by rw[bT];omega)),if_neg e];exact⟨out,rfl,by simp,by omega⟩
theorem TF (l:List Pce) (hl:l.length<1000000000) (ht:(jO l).length<=100000000000000): ∀(N k:Nat),l.length-k<N->k<=l.length->
  FH N l (jO (l.take k)) (k:Int)=some (.inl ((jO l,()),()))
 |0,k,h,_=>by omega
 |N+1,k,h,hk=>by
  rw[FH,PW];by_cases e:k<l.length
  ·have hg:fZ l (false,(false,([],()))) (k:Int)=l[k]:=by
    unfold fZ;rw[aP,List.getD_eq_getElem?_getD,List.getElem?_eq_getElem e];rfl
   have hts:jO (l.take (k+1))=jO (l.take k)++l[k].2.2.1:=by rw[List.take_add_one,List.getElem?_eq_getElem e,Option.toList_some,rE]
   have hlen:(jO (l.take (k+1))).length<=(jO l).length:=by
    conv=>rhs;rw[<-List.take_append_drop (k+1) l,uN]
    rw[ae];omega
   rw[bZ (fH (by rw[bT];omega)),bZ (eP (by omega) (by omega)),hg,bZ (ahd (by rw[hts,ae]at hlen;omega)),dC (by omega) (by omega),show(k:Int)+1=((k+1:Nat):Int) by omega,
    show cu (jO (l.take k)) l[k].2.2.1=jO (l.take (k+1)) from hts.symm]
   exact TF l hl ht N (k+1) (by omega) (by omega)
  ·rw[dE (iy (by rw[bT];omega)),bu (by omega)]
theorem alr (s:di) (hs:s.length<=10000):(Jd s).length<=1000100000000:=by
 have h:=Vt s (dh s) s.length 0;have h2:s.length*s.length<=10000*10000:=Nat.mul_le_mul hs hs;have h3:s.length*(s.length*s.length+s.length)<=10000*(10000*10000+10000):=Nat.mul_le_mul hs (by omega);unfold Jd;omega
theorem aA7 (s:di) (hs:s.length<=10000):acz s=some (Jd s,()):=by
 obtain⟨out,h1,h2,h3⟩:=Oz s hs bU 0 true [] (by have:=dO (n:=s.length) (by omega);omega) (by omega) (by omega) (by simp[jO]) (by simp);have hm:lH s (dh s) bU 0=Jd s:=H7 s _ _ _ (by have:=dO (n:=s.length) (by omega);omega) (by omega);have hp:aid s=some (out,()):=by
  rw[aid,aKd s (by omega),bK];simp only;rw[h1,bK];rfl
 have ht:jO out=Jd s:=by rw[h2,hm];rfl
 have hbl:=alr s hs;rw[acz,hp,bK];simp only;have h4:=TF out (by omega) (by rw[ht];omega) bU 0 (dO (by omega)) (by omega);rw[show FH bU out [] 0=_ from h4,bK,<-ht];rfl
end
section
open Tryz
open Go.RowKit
noncomputable def b90:Code:=(f90.body).getD .skip
noncomputable def aqW:Code:=cA (cA (cA (cB (cA (cB (cA (cB (cB (cB (cB (cB (b90))))))))))))
noncomputable def aqX:Code:=cA (cA (cA (cB (cB (cB (cB (cB (cB (cB (cB (b90)))))))))))
def atw:dZ:=⟨[0,1,6,7,11,12,100014],[],[1,6,7,11,12],[],[6,7],[]⟩
def atx:dZ:=⟨[0,1,5,6,7,11,14,100023],[],[0,1,5,6,7,11,14],[],[6,7],[]⟩
def Zv:SP:=⟨us [.v .str,.v dD,.u,.u,.u,.u,.ptr 1000006 0,.ptr 1000007 0,.u,.u,.u,.ptr 1000011 0,.v dD] 173,[.box 1000011 91 [.v dD,.v (.list CX),.v .bool],.box 1000007 91 [.v dD,.nils,.v .bool],.box 1000006 46 [.v dD,.v dD,.v dD,.v .bool]]⟩
def aai:SP:=⟨us [.u,.v dD,.u,.u,.u,.u,.ptr 1000006 0,.ptr 1000007 0,.u,.u,.u,.ptr 1000011 0,.v dD] 173,[.box 1000011 91 [.v dD,.v (.list CX),.v .bool],.box 1000007 91 [.v dD,.nils,.v .bool],.box 1000006 46 [.v dD,.v dD,.v dD,.v .bool]]⟩
def aaW:SP:=⟨us [] 186,[]⟩
def Qr {γ:Type} (rec:di->Int->Int->Int->Bg->Bool->Int->Bool->Int->Int->Int->Bool->Option γ) (kE:Int->Int->Int->Bg->Bool->Int->Bool->Int->Int->Int->Bool->Option γ) (kR:Option γ) (v0:di) (v1 v2 v3:Int) (v4:Bg) (v5:Bool) (v6:Int) (v7:Bool) (v8 v9 v10:Int) (v11:Bool):Option γ:=bif(iG v2 (bP v0))then bif(gV v0 v2)then bif(!(bW (cO v0 v2) 10))then rec v0 v1 (dA .i64 v2 1) v3 v4 v5 v6 v7 v8 v9 v10 v11 else kE v1 v2 v3 v4 v5 v6 v7 v8 v9 v10 v11 else none else kE v1 v2 v3 v4 v5 v6 v7 v8 v9 v10 v11
def J4:Nat->di->Int->Int->Int->Bg->Bool->Int->Bool->Int->Int->Int->Bool->Option (aai.den⊕aaW.den)
 |0,_,_,_,_,_,_,_,_,_,_,_,_=>none
 |n+1,v0,v1,v2,v3,v4,v5,v6,v7,v8,v9,v10,v11=>Qr (J4 n) (fun e0 e1 e2 e3 e4 e5 e6 e7 e8 e9 e10=>some (.inl ((e0,e1,()),((e2,e3,e4,()),(e5,e6,()),(e7,e8,e9,e10,()),())))) (some (.inr ((),()))) v0 v1 v2 v3 v4 v5 v6 v7 v8 v9 v10 v11
def ayK (n:Nat) (v:Zv.den):=J4 n v.1.1 v.1.2.1 v.1.2.2.1 v.2.1.1 v.2.1.2.1 v.2.1.2.2.1 v.2.2.1.1 v.2.2.1.2.1 v.2.2.2.1.1 v.2.2.2.1.2.1 v.2.2.2.1.2.2.1 v.2.2.2.1.2.2.2.1
noncomputable def ajD:dI:=gQ atw Zv aai aaW (.exit 0) (ayK bU) 6
def Zw:SP:=⟨us [.v .str,.v dD,.u,.u,.u,.ptr 1000005 0,.ptr 1000006 0,.ptr 1000007 0,.u,.u,.u,.ptr 1000011 0,.u,.u,.v dD] 171,[.box 1000011 91 [.v dD,.v (.list CX),.v .bool],.box 1000007 91 [.v dD,.nils,.v .bool],.box 1000006 46 [.v dD,.v dD,.v dD,.v .bool],.box 1000005 91 [.v dD,.v (.list CX),.v .bool]]⟩
def Kz:SP:=⟨us [.v .str,.v dD,.u,.u,.u,.ptr 1000005 0,.ptr 1000006 0,.ptr 1000007 0,.u,.u,.u,.ptr 1000011 0,.u,.u,.v dD] 171,[.box 1000011 91 [.v dD,.v (.list CX),.v .bool],.box 1000007 91 [.v dD,.nils,.v .bool],.box 1000006 46 [.v dD,.v dD,.v dD,.v .bool],.box 1000005 91 [.v dD,.v (.list CX),.v .bool]]⟩
def aaX:SP:=⟨us [] 186,[]⟩
def Qs {γ:Type} (rec kE:di->Int->Int->Int->Bg->Bool->Int->Bool->Int->Int->Int->Bool->Int->Bg->Bool->Option γ) (kR:Option γ) (v0:di) (v1 v2 v3:Int) (v4:Bg) (v5:Bool) (v6:Int) (v7:Bool) (v8 v9 v10:Int) (v11:Bool) (v12:Int) (v13:Bg) (v14:Bool):Option γ:=bif(iG v2 (bP v0))then bif(gV v0 v2)then bM (X5 (cO v0 v2)) fun y0=>bif(bW y0.1 6)then rec v0 v1 (dA .i64 v2 1) v3 v4 v5 v6 v7 v8 v9 v10 v11 v12 v13 v14 else kE v0 v1 v2 v3 v4 v5 v6 v7 v8 v9 v10 v11 v12 v13 v14 else none else kE v0 v1 v2 v3 v4 v5 v6 v7 v8 v9 v10 v11 v12 v13 v14
def J5:Nat->di->Int->Int->Int->Bg->Bool->Int->Bool->Int->Int->Int->Bool->Int->Bg->Bool->Option (Kz.den⊕aaX.den)
 |0,_,_,_,_,_,_,_,_,_,_,_,_,_,_,_=>none
 |n+1,v0,v1,v2,v3,v4,v5,v6,v7,v8,v9,v10,v11,v12,v13,v14=>Qs (J5 n) (fun e0 e1 e2 e3 e4 e5 e6 e7 e8 e9 e10 e11 e12 e13 e14=>some (.inl ((e0,e1,e2,()),((e3,e4,e5,()),(e6,e7,()),(e8,e9,e10,e11,()),(e12,e13,e14,()),())))) (some (.inr ((),()))) v0 v1 v2 v3 v4 v5 v6 v7 v8 v9 v10 v11 v12 v13 v14
def ayL (n:Nat) (v:Zw.den):=J5 n v.1.1 v.1.2.1 v.1.2.2.1 v.2.1.1 v.2.1.2.1 v.2.1.2.2.1 v.2.2.1.1 v.2.2.1.2.1 v.2.2.2.1.1 v.2.2.2.1.2.1 v.2.2.2.1.2.2.1 v.2.2.2.1.2.2.2.1 v.2.2.2.2.1.1 v.2.2.2.2.1.2.1 v.2.2.2.2.1.2.2.1
noncomputable def ajE:dI:=gQ atx Zw Kz aaX (.exit 2) (ayL bU) 12
def yS (x2:Int×Bg×qM):=nV CX x2.2.1 x2.2.1
def afW (y1:Di) (x2:Int×Bg×qM) (x1:Int):Option taS:=bM (Jy y1.1) fun y2=>bif((bW y1.1 y1.1)&&((yS x2)&&((jy false false)&&true)))then some ((4,(x1,((dA .i64 x1 (bP y2.1)),(false,())))),((y1.1,(x2.2.1,(false,()))),()))else none
def afX (a3:Kz.den):Option taS:=bif((bW a3.2.1.1 a3.2.1.1)&&((nV CX a3.2.1.2.1 a3.2.1.2.1)&&((jy a3.2.1.2.2.1 a3.2.1.2.2.1)&&true)))then some ((5,(a3.1.2.1,(a3.1.2.2.1,(false,())))),((a3.2.1.1,(a3.2.1.2.1,(a3.2.1.2.2.1,()))),()))else none
def X6 (a3:Kz.den):Option taS:=bM (VI a3.1.1 a3.1.2.1) fun y4=>bif(gm (bP a3.1.1) a3.1.2.1 y4.1)then bif(!(bW a3.2.2.2.2.1.1 0))then bif(nV CX a3.2.2.2.2.1.2.1 a3.2.2.2.2.1.2.1)then bif(iq (sub a3.1.1 a3.1.2.1 y4.1) (sub a3.1.1 a3.1.2.1 y4.1))then bif(bW a3.2.2.2.2.1.1 a3.2.2.2.2.1.1)then bif(jy (bW a3.2.2.2.2.1.1 5) (bW a3.2.2.2.2.1.1 5))then bif(eQ (cu [] a3.2.2.2.2.1.2.1) 24)then bif(iq (sub a3.1.1 a3.1.2.1 y4.1) (sub a3.1.1 a3.1.2.1 y4.1))then bif(bW a3.2.2.2.2.1.1 a3.2.2.2.2.1.1)then bif(jy (bW a3.2.2.2.2.1.1 5) (bW a3.2.2.2.2.1.1 5))then bM (acz (sub a3.1.1 a3.1.2.1 y4.1)) fun y5=>bif(nV CX a3.2.2.2.2.1.2.1 a3.2.2.2.2.1.2.1)then bif(iq (sub a3.1.1 a3.1.2.1 y4.1) (sub a3.1.1 a3.1.2.1 y4.1))then bif(bW a3.2.2.2.2.1.1 a3.2.2.2.2.1.1)then bif(jy (bW a3.2.2.2.2.1.1 5) (bW a3.2.2.2.2.1.1 5))then bif(((iq (sub a3.1.1 a3.1.2.1 y4.1) (sub a3.1.1 a3.1.2.1 y4.1))&&true)&&((iq y5.1 y5.1)&&true))then bif(eQ (cu (cu [] a3.2.2.2.2.1.2.1) [(y5.1,((bW a3.2.2.2.2.1.1 5),()))]) 24)then bif(nV CX a3.2.2.2.2.1.2.1 a3.2.2.2.2.1.2.1)then bif(iq (sub a3.1.1 a3.1.2.1 y4.1) (sub a3.1.1 a3.1.2.1 y4.1))then bif(bW a3.2.2.2.2.1.1 a3.2.2.2.2.1.1)then bif(jy (bW a3.2.2.2.2.1.1 5) (bW a3.2.2.2.2.1.1 5))then bif((iq y5.1 y5.1)&&((jy (bW a3.2.2.2.2.1.1 5) (bW a3.2.2.2.2.1.1 5))&&true))then bM (Ry (sub a3.1.1 a3.1.2.1 y4.1)) fun y6=>bif((bW a3.2.1.1 a3.2.1.1)&&((jy a3.2.1.2.2.1 a3.2.1.2.2.1)&&true))then some ((6,(a3.1.2.1,(y4.1,((!y6.1),())))),((a3.2.1.1,((cu (cu [] a3.2.2.2.2.1.2.1) [(y5.1,((bW a3.2.2.2.2.1.1 5),()))]),(a3.2.1.2.2.1,()))),()))else none else none else none else none else none else none else none else none else none else none else none else none else none else none else none else none else none else none else none else none else bM (Ry (sub a3.1.1 a3.1.2.1 y4.1)) fun y5=>bif((bW a3.2.1.1 a3.2.1.1)&&((nV CX a3.2.1.2.1 a3.2.1.2.1)&&((jy a3.2.1.2.2.1 a3.2.1.2.2.1)&&true)))then some ((6,(a3.1.2.1,(y4.1,((!y5.1),())))),((a3.2.1.1,(a3.2.1.2.1,(a3.2.1.2.2.1,()))),()))else none else none
def axk (x0:di) (x1:Int) (x2:Int×Bg×qM):Option taS:=bif x2.2.2.1 then bif(gV x2.2.1 0)then bM (ah8 x0 x1 (fZ x2.2.1 ([],(false,())) 0)) fun y0=>bif(bW y0.2.1 0)then bif((bW x2.1 x2.1)&&((yS x2)&&((jy x2.2.2.1 x2.2.2.1)&&true)))then some ((7,(x1,(y0.1,(true,())))),((x2.1,(x2.2.1,(x2.2.2.1,()))),()))else none else bif(gm (bP x2.2.1) 1 (bP x2.2.1))then bif(bW x2.1 x2.1)then bif(yS x2)then bif(gm (bP x2.2.1) 1 (bP x2.2.1))then bif(nV CX (sub x2.2.1 1 (bP x2.2.1)) (sub x2.2.1 1 (bP x2.2.1)))then bif(yS x2)then bif(bW (bP x2.2.1) (bP x2.2.1))then bif(jy (iG 1 (bP x2.2.1)) (iG 1 (bP x2.2.1)))then bif((bW x2.1 x2.1)&&((nV CX (sub x2.2.1 1 (bP x2.2.1)) (sub x2.2.1 1 (bP x2.2.1)))&&((jy (iG 1 (bP x2.2.1)) (iG 1 (bP x2.2.1)))&&true)))then some ((7,(x1,(y0.1,(false,())))),((x2.1,((sub x2.2.1 1 (bP x2.2.1)),((iG 1 (bP x2.2.1)),()))),()))else none else none else none else none else none else none else none else none else none else none else bM (ah9 x0 x1) fun y0=>bif(iG x1 y0.1)then bif((bW x2.1 x2.1)&&((yS x2)&&((jy x2.2.2.1 x2.2.2.1)&&true)))then some ((1,(x1,(y0.1,(false,())))),((x2.1,(x2.2.1,(x2.2.2.1,()))),()))else none else bif(gV x0 x1)then bif(bW (cO x0 x1) 10)then bif(yS x2)then bif(yS x2)then bif(bW (bP x2.2.1) (bP x2.2.1))then bif(jy (iG 0 (bP x2.2.1)) (iG 0 (bP x2.2.1)))then bif((bW 0 0)&&((yS x2)&&((jy (iG 0 (bP x2.2.1)) (iG 0 (bP x2.2.1)))&&true)))then some ((2,(x1,((dA .i64 x1 1),(false,())))),((0,(x2.2.1,((iG 0 (bP x2.2.1)),()))),()))else none else none else none else none else none else bif(gV x0 x1)then bif(bW (cO x0 x1) 35)then bM (J4 bU x0 x1 x1 0 x2.2.1 false 0 false 0 0 0 false) fun y1=>dV y1 (fun a2=>bif((bW a2.2.1.1 a2.2.1.1)&&((nV CX a2.2.1.2.1 a2.2.1.2.1)&&((jy a2.2.1.2.2.1 a2.2.1.2.2.1)&&true)))then some ((3,(a2.1.1,(a2.1.2.1,(false,())))),((a2.2.1.1,(a2.2.1.2.1,(a2.2.1.2.2.1,()))),()))else none) (fun b2=>none)else bM (acy x0 x1) fun y1=>bif(iG 0 y1.1)then bif(bW y1.1 4)then afW y1 x2 x1 else bif(bW y1.1 5)then afW y1 x2 x1 else bM (Jy y1.1) fun y2=>bif((bW 0 0)&&((yS x2)&&((jy false false)&&true)))then some ((4,(x1,((dA .i64 x1 (bP y2.1)),(false,())))),((0,(x2.2.1,(false,()))),()))else none else bM (J5 bU x0 x1 x1 0 x2.2.1 false 0 false 0 0 0 false x2.1 x2.2.1 x2.2.2.1) fun y2=>dV y2 (fun a3=>bif(iG a3.1.2.1 a3.1.2.2.1)then bif(iG a3.1.2.2.1 (bP a3.1.1))then bif(gV a3.1.1 a3.1.2.2.1)then bif(bW (cO a3.1.1 a3.1.2.2.1) 60)then afX a3 else bif(gV a3.1.1 a3.1.2.2.1)then bif(bW (cO a3.1.1 a3.1.2.2.1) 62)then afX a3 else X6 a3 else none else none else X6 a3 else X6 a3) (fun b3=>none)else none else none
def aAR:Sum:=⟨[.str,dD,.pair dD tyL],tzH,fun x=>axk x.1 x.2.1 x.2.2.1⟩
noncomputable def ah1:Env:=gp prog tt 90 [(44,aeL),(148,avg),(149,avh),(150,avi),(151,abC),(152,avj),(153,avk),(154,avl)] [(14,atw),(23,atx)] [(14,ajD),(23,ajE)]
def akS {γ:Type} (a:Zv.den->Option γ) (b:aai.den->Option γ) (c:aaW.den->Option γ) (v:Zv.den):Option γ:=Qr (fun v0 v1 v2 v3 v4 v5 v6 v7 v8 v9 v10 v11=>a ((v0,v1,v2,()),((v3,v4,v5,()),(v6,v7,()),(v8,v9,v10,v11,()),()))) (fun e0 e1 e2 e3 e4 e5 e6 e7 e8 e9 e10=>b ((e0,e1,()),((e2,e3,e4,()),(e5,e6,()),(e7,e8,e9,e10,()),()))) (c ((),())) v.1.1 v.1.2.1 v.1.2.2.1 v.2.1.1 v.2.1.2.1 v.2.1.2.2.1 v.2.2.1.1 v.2.2.1.2.1 v.2.2.2.1.1 v.2.2.2.1.2.1 v.2.2.2.1.2.2.1 v.2.2.2.1.2.2.2.1
theorem azA:dX ah1 90 aqW ajD:=Bi (akS) (h2:=by intros;simp only[akS,Qr,dm,dn,bK,cZ,dw])
def akT {γ:Type} (a:Zw.den->Option γ) (b:Kz.den->Option γ) (c:aaX.den->Option γ) (v:Zw.den):Option γ:=Qs (fun v0 v1 v2 v3 v4 v5 v6 v7 v8 v9 v10 v11 v12 v13 v14=>a ((v0,v1,v2,()),((v3,v4,v5,()),(v6,v7,()),(v8,v9,v10,v11,()),(v12,v13,v14,()),()))) (fun e0 e1 e2 e3 e4 e5 e6 e7 e8 e9 e10 e11 e12 e13 e14=>b ((e0,e1,e2,()),((e3,e4,e5,()),(e6,e7,()),(e8,e9,e10,e11,()),(e12,e13,e14,()),()))) (c ((),())) v.1.1 v.1.2.1 v.1.2.2.1 v.2.1.1 v.2.1.2.1 v.2.1.2.2.1 v.2.2.1.1 v.2.2.1.2.1 v.2.2.2.1.1 v.2.2.2.1.2.1 v.2.2.2.1.2.2.1 v.2.2.2.1.2.2.2.1 v.2.2.2.2.1.1 v.2.2.2.2.1.2.1 v.2.2.2.2.1.2.2.1
theorem azB:dX ah1 90 aqX ajE:=Bi (akT) (h2:=by intros;simp only[akT,Qs,dm,dn,bK,cZ,dw])
theorem aGl:dU ah1 90 b90:=qj [aqW,aqX] (aD (fM (azA)) (aD (fM (azB)) aN))
theorem arD:dK ah1:=eA f90 (aD Ls (aD aoO (aD aoP (aD aoQ (aD Nv (aD aoR (aD aoS (aD aoT aN)))))))) (aGl)
theorem aws:dY prog 90 aAR:=sA arD
noncomputable def b74:Code:=(f74.body).getD .skip
noncomputable def aAa:Code:=cA (cA (cA (cB (cB (cB (cB (b74)))))))
def aAr:dZ:=⟨[0,3,4,5,6,100004],[(4,UM)],[3,4,5],[],[2,3],[(2,UM)]⟩
def ajU:SP:=⟨us [.v .str,.u,.u,.ptr 1000003 0,.slc 1800004,.ptr 1000005 0,.v dD] 23,[.arr 1800004 UM,.box 1000005 91 [.v dD,.v (.list CX),.v .bool],.box 1000003 91 [.v dD,.nils,.v .bool]]⟩
def agR:SP:=⟨us [.u,.u,.u,.ptr 1000003 0,.slc 1800004,.ptr 1000005 0] 24,[.arr 1800004 UM,.box 1000005 91 [.v dD,.v (.list CX),.v .bool],.box 1000003 91 [.v dD,.nils,.v .bool]]⟩
def ag2:SP:=⟨us [.u,.u,.v (.list UM)] 27,[]⟩
def abt {γ:Type} (rec:di->Int->(List Bf)->Int->Bg->Bool->Int->Bool->Option γ) (kE:(List Bf)->Int->Bg->Bool->Int->Bool->Option γ) (kR:(List Bf)->Option γ) (v0:di) (v1:Int) (v2:List Bf) (v3:Int) (v4:Bg) (v5:Bool) (v6:Int) (v7:Bool):Option γ:=bif(iG v1 (bP v0))then bM (axk v0 v1 (v3,(v4,(v5,())))) fun y0=>bif(eQ (cu v2 [(y0.1.1,(y0.1.2.1,(y0.1.2.2.1,(y0.1.2.2.2.1,()))))]) 32)then rec v0 y0.1.2.2.1 (cu v2 [(y0.1.1,(y0.1.2.1,(y0.1.2.2.1,(y0.1.2.2.2.1,()))))]) y0.2.1.1 y0.2.1.2.1 y0.2.1.2.2.1 v6 v7 else none else kE v2 v3 v4 v5 v6 v7
def MH:Nat->di->Int->(List Bf)->Int->Bg->Bool->Int->Bool->Option (agR.den⊕ag2.den)
 |0,_,_,_,_,_,_,_,_=>none
 |n+1,v0,v1,v2,v3,v4,v5,v6,v7=>abt (MH n) (fun e0 e1 e2 e3 e4 e5=>some (.inl ((),(e0,(e1,e2,e3,()),(e4,e5,()),())))) (fun r0=>some (.inr ((r0,()),()))) v0 v1 v2 v3 v4 v5 v6 v7
def aEr (n:Nat) (v:ajU.den):=MH n v.1.1 v.1.2.1 v.2.1 v.2.2.1.1 v.2.2.1.2.1 v.2.2.1.2.2.1 v.2.2.2.1.1 v.2.2.2.1.2.1
noncomputable def at7:dI:=gQ aAr ajU agR ag2 (.exit 0) (aEr bU) 6
def an7 (x0:di):Option ((List Bf)×(Int×Bg×qM)×Unit):=bM (MH bU x0 0 [] 0 [] false 0 false) fun y0=>dV y0 (fun a1=>some (a1.2.1,((a1.2.2.1.1,(a1.2.2.1.2.1,(a1.2.2.1.2.2.1,()))),()))) (fun b1=>none)
def alg:Sum:=⟨[.str],[(.list UM,false),(.pair dD tyL,false)],fun x=>an7 x.1⟩
noncomputable def arA:Env:=gp prog tt 74 [(90,aAR)] [(4,aAr)] [(4,at7)]
def auR {γ:Type} (a:ajU.den->Option γ) (b:agR.den->Option γ) (c:ag2.den->Option γ) (v:ajU.den):Option γ:=abt (fun v0 v1 v2 v3 v4 v5 v6 v7=>a ((v0,v1,()),(v2,(v3,v4,v5,()),(v6,v7,()),()))) (fun e0 e1 e2 e3 e4 e5=>b ((),(e0,(e1,e2,e3,()),(e4,e5,()),()))) (fun r0=>c ((r0,()),())) v.1.1 v.1.2.1 v.2.1 v.2.2.1.1 v.2.2.1.2.1 v.2.2.1.2.2.1 v.2.2.2.1.1 v.2.2.2.1.2.1
theorem aEL:dX arA 74 aAa at7:=Bi (auR) (h2:=by intros;simp only[auR,abt,dm,dn,bK,cZ,dw])
theorem aGk:dU arA 74 b74:=qj [aAa] (aD (fM (aEL)) aN)
theorem arB:dK arA:=eA f74 (aD aws aN) (aGk)
theorem Uo:dY prog 74 alg:=sA arB
noncomputable def b67:Code:=(f67.body).getD .skip
noncomputable def az6:Code:=cA (cA (cB (cA (cB (cB (cB (b67)))))))
def aAn:dZ:=⟨[0,3,5,6,100004],[(5,tyD)],[5],[],[2],[(2,tyD)]⟩
def ajQ:SP:=⟨us [.v .str,.u,.u,.v (.list UM),.u,.slc 1800005,.v dD] 59,[.arr 1800005 tyD]⟩
def agN:SP:=⟨us [.u,.u,.u,.u,.u,.slc 1800005] 60,[.arr 1800005 tyD]⟩
def agY:SP:=⟨us [.u,.u,.v oU] 63,[]⟩
def jB (v1:List Bf) (v2:Int):=fZ v1 (0,(0,(0,(false,())))) v2
def A7 {γ:Type} (v1:List Bf) (v2:Int) (v0:di) (v3:List gU) (rec:di->(List Bf)->Int->(List gU)->Option γ):Option γ:=bif(gV v1 v2)then bif(gV v1 v2)then bif(gV v1 v2)then bif(gV v1 v2)then bif(gm (bP v0) (jB v1 v2).2.1 (jB v1 v2).2.2.1)then bif(eQ (cu v3 [((jB v1 v2).1,((sub v0 (jB v1 v2).2.1 (jB v1 v2).2.2.1),((jB v1 v2).2.1,((jB v1 v2).2.2.1,()))))]) 40)then rec v0 v1 (dA .i64 v2 1) (cu v3 [((jB v1 v2).1,((sub v0 (jB v1 v2).2.1 (jB v1 v2).2.2.1),((jB v1 v2).2.1,((jB v1 v2).2.2.1,()))))])else none else none else none else none else none else none
def abo {γ:Type} (rec:di->(List Bf)->Int->(List gU)->Option γ) (kE kR:(List gU)->Option γ) (v0:di) (v1:List Bf) (v2:Int) (v3:List gU):Option γ:=bif(iG v2 (bP v1))then bif(gV v1 v2)then bif(bW (jB v1 v2).1 2)then A7 v1 v2 v0 v3 rec else bif(bW (jB v1 v2).1 4)then A7 v1 v2 v0 v3 rec else bif(bW (jB v1 v2).1 5)then A7 v1 v2 v0 v3 rec else bif(bW (jB v1 v2).1 6)then A7 v1 v2 v0 v3 rec else rec v0 v1 (dA .i64 v2 1) v3 else none else kE v3
def Ir:Nat->di->(List Bf)->Int->(List gU)->Option (agN.den⊕agY.den)
 |0,_,_,_,_=>none
 |n+1,v0,v1,v2,v3=>abo (Ir n) (fun e0=>some (.inl ((),(e0,())))) (fun r0=>some (.inr ((r0,()),()))) v0 v1 v2 v3
def aEn (n:Nat) (v:ajQ.den):=Ir n v.1.1 v.1.2.1 v.1.2.2.1 v.2.1
noncomputable def atY:dI:=gQ aAn ajQ agN agY (.exit 0) (aEn bU) 6
def axh (x0:di):Option ((List gU)×Unit):=bM (an7 x0) fun y0=>bM (Ir bU x0 y0.1 0 []) fun y1=>dV y1 (fun a2=>some (a2.2.1,())) (fun b2=>some (b2.1.1,()))
def aAL:Sum:=⟨[.str],[(.list tyD,false)],fun x=>axh x.1⟩
noncomputable def art:Env:=gp prog tt 67 [(74,alg)] [(4,aAn)] [(4,atY)]
def auN {γ:Type} (a:ajQ.den->Option γ) (b:agN.den->Option γ) (c:agY.den->Option γ) (v:ajQ.den):Option γ:=abo (fun v0 v1 v2 v3=>a ((v0,v1,v2,()),(v3,()))) (fun e0=>b ((),(e0,()))) (fun r0=>c ((r0,()),())) v.1.1 v.1.2.1 v.1.2.2.1 v.2.1
theorem aEH:dX art 67 az6 atY:=Bi (auN) (h2:=by intros;simp only[auN,abo,dm,dn,bK,cZ,dw,jB,A7])
theorem aGg:dU art 67 b67:=qj [az6] (aD (fM (aEH)) aN)
theorem aru:dK art:=eA f67 (aD Uo aN) (aGg)
theorem awm:dY prog 67 aAL:=sA aru
end
section
open List renaming length_cons → ak, length_drop → aF, drop_eq_getElem_cons → aO
open Go.RowKit
abbrev Tok:=Int×Int×Int×Bool×Unit
abbrev Dlm:=List UInt8×Bool×Unit
abbrev Lxg:=Int×List Dlm×Bool×Unit
def dDl:Dlm:=([],(false,()))
def rM (s:di) (a:Nat):Nat:=a+zU (s.drop a) a fJ
def XB (s:di) (a b:Nat):di:=(s.take b).drop a
def akU (w:di):Bool:=KR (mV w 0 fJ).1
theorem UD {s:List UInt8} {a:Nat} (h:a<=s.length):a<=rM s a/\rM s a<=s.length:=by
 have:=ahV (s.drop a) a fJ;rw[aF]at this;unfold rM;omega
def jV (s:di) (a:Nat):Tok:=if uO (s.drop a)≠0 then(1,a,((a+uO (s.drop a):Nat):Int),false,())else if cO s a=10 then(2,a,((a+1:Nat):Int),false,())else if cO s a=35 then(3,a,(jd s a:Nat),false,())else if(BR (s.drop a)).2≠0 then(4,a,((a+(BR (s.drop a)).2:Nat):Int),false,())else if Az (s.drop a)≠0 then(5,a,((a+Az (s.drop a):Nat):Int),false,())else(6,a,(rM s a:Nat), !akU (XB s a (rM s a)),())
def lM (s:di) (a:Nat) (x:Lxg):Lxg:=if uO (s.drop a)≠0 then(x.1,x.2.1,false,())else if cO s a=10 then(0,x.2.1,decide (0<x.2.1.length),())else if cO s a=35 then(0,x.2.1,false,())else if(BR (s.drop a)).2≠0 then((if(BR (s.drop a)).1=4\/(BR (s.drop a)).1=5 then(((BR (s.drop a)).1:Nat):Int)else 0),x.2.1,false,())else if Az (s.drop a)≠0 then(0,x.2.1,false,())else(0,(if x.1=0 then x.2.1 else x.2.1++[(Jd (XB s a (rM s a)),decide (x.1=5),())]),false,())
def lZ (s:di) (a:Nat) (x:Lxg):Tok×Lxg:=if x.2.2.1=true then(if(C9 s (x.2.1.headD dDl).1 (x.2.1.headD dDl).2.1 a).2=true then((7,a,((C9 s (x.2.1.headD dDl).1 (x.2.1.headD dDl).2.1 a).1:Nat),false,()),(x.1,x.2.1.tail,decide (1<x.2.1.length),()))else((7,a,((C9 s (x.2.1.headD dDl).1 (x.2.1.headD dDl).2.1 a).1:Nat),true,()),x))else(jV s a,lM s a x)
theorem aus {c:UInt8} {t:List UInt8} (h:Eb (c.toNat:Int)=true):(BR (c::t)).2≠0:=by
 have h1:ofF [c]≠0:=by
  have: ∀n:Fin 256,Eb ((n.val:Nat):Int)=true->ofF [UInt8.ofNat n.val]≠0:=by decide+kernel
  have:=this ⟨c.toNat,c.toNat_lt⟩ h;simpa using this
 have h2: ∀n,(OZ (c::t) (n+1)).2≠0:=by
  intro n
  induction n with
  |zero=>rw[OZ,if_pos (by simpa using h1)];simp
  |succ n ih=>
   rw[OZ];split
   ·simp
   ·exact ih
 unfold BR;rw[show min 3 (c::t).length=(min 3 (c::t).length-1)+1 by simp only[ak];omega];exact h2 _
theorem EN {s:List UInt8} (hs:s.length<=10000) {a:Nat} (ha:a<s.length) (x:Lxg):(a:Int)<(lZ s a x).1.2.2.1/\(lZ s a x).1.2.2.1<=s.length/\(lZ s a x).1.2.1=a:=by
 unfold lZ;split
 ·have h:=L9 s (x.2.1.headD dDl).1 (x.2.1.headD dDl).2.1 bU a (dO (by omega)) (by omega);have h2:=h.2.2 ha;have h1:=h.1;unfold C9;split<;>exact⟨by simp only;omega,by simp only;omega,rfl⟩
 ·unfold jV;have hd:=aO ha;split
  ·have:=Xp (s.drop a);rw[aF]at this;exact⟨by simp only;omega,by simp only;omega,rfl⟩
  ·split
   ·exact⟨by simp only;omega,by simp only;omega,rfl⟩
   ·split
    ·rename_i h35
     have h1:=xh s a;have h2:=xk (s:=s) (a:=a) (by omega);have h3:jd s a≠a:=by
      intro e;have:=Su (s:=s) (f:=a) (by omega);simp only[e]at this;rw[byte_at ha,this]at h35;exact absurd h35 (by decide)
     exact⟨by simp only;omega,by simp only;omega,rfl⟩
    ·split
     ·have:=(O7 (s.drop a)).1;rw[aF]at this;exact⟨by simp only;omega,by simp only;omega,rfl⟩
     ·split
      ·rename_i hn
       have h1:=PO (s.drop a);rw[aF]at h1;have:Az (s.drop a)<=kP (s.drop a):=by unfold Az;split<;>omega
       exact⟨by simp only;omega,by simp only;omega,rfl⟩
      ·rename_i hb h10 _ ho _
       have hw:=UD (s:=s) (a:=a) (by omega);have:zU (s.drop a) a fJ≠0:=by
        rw[hd,zU];have he:rG fJ.1 (jl s[a])=false:=by
         unfold rG;have:CY (jl s[a])=false:=by
          have hbl:nI (s[a].toNat:Int)=false:=by
           rw[hd,Je]at hb;cases hq:nI (s[a].toNat:Int)with
           |false=>rfl
           |true=>rw[hq]at hb;simp at hb
          have hme:Eb (s[a].toNat:Int)=false:=by
           cases hq:Eb (s[a].toNat:Int)with
           |false=>rfl
           |true=>rw[hd]at ho;exact absurd (aus hq) ho
          rw[byte_at ha]at h10;unfold nI at hbl;unfold Eb at hme;unfold CY jl;simp only[Bool.or_eq_false_iff,decide_eq_false_iff_not]at hbl hme ⊢;omega
         rw[this];rfl
        rw[he];simp
       unfold rM at hw ⊢;exact⟨by simp only;omega,by simp only;omega,rfl⟩
end
section
open Bool renaming false_eq_true → aj, and_true → ax, not_true → aB, not_false → aG, not_eq_true → bD
open Int renaming toNat_natCast → aP
open List renaming length_append → ae, length_singleton → ai, length_cons → ak, length_drop → aF, nil_append → aH, drop_of_length_le → aI, length_take → aJ, drop_eq_getElem_cons → aO
open Nat renaming le_refl → ah
open Go.RowKit
theorem aci {s:List UInt8} (hs:s.length<1000000) {a:Nat} (ha:a<=s.length) (v1 v3:Int) (v4:List Dlm) (v5:Bool) (v6:Int) (v7:Bool) (v8 v9 v10:Int) (v11:Bool): ∀(N i:Nat),s.length-i<N->a<=i->i<=jd s a->
  J4 N s v1 (i:Int) v3 v4 v5 v6 v7 v8 v9 v10 v11=some (.inl ((v1,((jd s a:Nat):Int),()),((v3,v4,v5,()),(v6,v7,()),(v8,v9,v10,v11,()),())))
 |0,i,h,_,hi=>by have:=xk ha;omega
 |N+1,i,h,hai,hi=>by
  have hle:=xk ha;rw[J4,Qr];by_cases e:i<jd s a
  ·have hi':i<s.length:=by omega
   rw[bZ (fH (by rw[bT];omega)),bZ (eP (by omega) (by omega)),byte_at hi',dW fun h=>VZ hai e hi' (UInt8.toNat_inj.1 (by rw[show(10:UInt8).toNat=10 from rfl];omega))];simp only[aG,cond_true];rw[dC (by omega) (by omega),show(i:Int)+1=((i+1:Nat):Int) by omega];exact aci hs ha v1 v3 v4 v5 v6 v7 v8 v9 v10 v11 N (i+1) (by omega) (by omega) (by omega)
  ·have hi2:i=jd s a:=by omega
   by_cases hl:i<s.length
   ·have h10:s[i]=10:=by subst hi2;exact Su hl
    rw[bZ (fH (by rw[bT];omega)),bZ (eP (by omega) (by omega)),byte_at hl,h10,show bW (((10:UInt8).toNat:Nat):Int) 10=true from rfl];simp only[aB,cond_false];rw[hi2]
   ·rw[dE (iy (by rw[bT];omega)),hi2]
theorem acm {s:List UInt8} (hs:s.length<1000000) {a:Nat} (ha:a<=s.length) (v1 v3:Int) (v4:List Dlm) (v5:Bool) (v6:Int) (v7:Bool) (v8 v9 v10:Int) (v11:Bool) (v12:Int) (v13:List Dlm) (v14:Bool): ∀(N k:Nat),s.length-(a+k)<N->k<=kP (s.drop a)->
  J5 N s v1 ((a+k:Nat):Int) v3 v4 v5 v6 v7 v8 v9 v10 v11 v12 v13 v14=some (.inl ((s,v1,((a+kP (s.drop a):Nat):Int),()),((v3,v4,v5,()),(v6,v7,()),(v8,v9,v10,v11,()),(v12,v13,v14,()),())))
 |0,k,h,hk=>by omega
 |N+1,k,h,hk=>by
  have hle:=PO (s.drop a);have hld:=aF (i:=a) (l:=s);rw[J5,Qs];by_cases e:a+k<s.length
  ·have hkd:k<(s.drop a).length:=by omega
   have hg:(s.drop a)[k]=s[a+k]:=by rw[List.getElem_drop]
   obtain⟨_,_,c,h1,_,h2⟩:=uq s[a+k];rw[bZ (fH (by rw[bT];omega)),bZ (eP (by omega) (by omega)),byte_at e,h1,bK];simp only[h2];by_cases hk2:k<kP (s.drop a)
   ·have:=ET UJ (s.drop a) k hkd hk2;rw[hg]at this;rw[this,cond_true,dC (by omega) (by omega),show((a+k:Nat):Int)+1=((a+(k+1):Nat):Int) by omega];exact acm hs ha v1 v3 v4 v5 v6 v7 v8 v9 v10 v11 v12 v13 v14 N (k+1) (by omega) (by omega)
   ·obtain rfl:k=kP (s.drop a):=by omega
    have:=zI UJ (s.drop a) hkd;rw[show UJ s[a+kP (s.drop a)]=false by rw[<-hg];exact this,cond_false]
  ·obtain rfl:k=kP (s.drop a):=by omega
   rw[dE (iy (by rw[bT];omega))]
theorem ap4 (w:di) (hw:w.length<=100000):Ry w=some (akU w,()):=by
 have hg:=(DW w 0 fJ kG).1;rw[Ry,aFo w hw,bK];unfold akU Dp;rw[au3 hg];simp only;cases iq (so (mV w 0 fJ).1) [84]with
 |true=>rfl
 |false=>rfl
theorem abx {s:List UInt8} {a b:Nat}:sub s (a:Int) (b:Int)=XB s a b:=by simp[sub,XB]
theorem Q5 {s:List UInt8} {a b:Nat}:(XB s a b).length<=s.length:=by
 unfold XB;rw[aF,aJ];omega
theorem apP {s:List UInt8} (hs:s.length<=10000) {a:Nat} (ha:a<s.length):VI s (a:Int)=some (((rM s a:Nat):Int),()):=by
 rw[aFk s (by omega) (by omega) (by omega),aP];have:zU (s.drop a) (a:Int) fJ=zU (s.drop a) a fJ:=rfl;unfold rM;congr 2
theorem aBb {s:List UInt8} (hs:s.length<=10000) {a:Nat} (ha:a<s.length) (x:Lxg) (hp:x.2.2.1=true->x.2.1≠[]) (hl:x.2.1.length<=1000000):
  axk s a x=some ((lZ s a x).1,((lZ s a x).2,())):=by
 obtain⟨aw,pd,bd,u⟩:=x;cases u;simp only at hp hl;unfold lZ
 (rewrite [axk];delta X6 afX afW yS)
 cases bd with
 |true=>
  obtain⟨d,r,rfl⟩: ∃d r,pd=d::r:=by
   cases pd with
   |nil=>exact absurd rfl (hp rfl)
   |cons d r=>exact⟨d,r,rfl⟩
  simp only[cond_true,if_true];rw[bZ (eP (by omega) (by simp only[ak];omega)),show fZ (d::r) ([],(false,())) 0=d from rfl,aDi (by omega) d (by omega),bK];simp only[List.headD_cons];by_cases hh:(C9 s d.1 d.2.1 a).2=true
  rotate_left
  ·rw[bD]at hh;simp only[hh,aj,if_false,show bW 0 0=true from rfl,cond_true,fG,ik,iK,ax]
  ·have hsb:sub (d::r) 1 (bP (d::r))=r:=by simp[sub,bT]
   have hlt:iG 1 (bP (d::r))=decide (1<(d::r).length):=by
    unfold iG bP;rw[decide_eq_decide];omega
   simp only[hh,if_true,show bW 1 0=false from rfl,cond_false,cond_true,fG,ik,iK,ax,hsb];have hpt:gm (bP (d::r)) 1 (bP (d::r))=true:=gB (by omega) (by rw[bT];simp only[ak];omega) (by omega);simp only[hpt,hlt,cond_true];rfl
 |false=>
  have hlt:iG 0 (bP pd)=decide (0<pd.length):=by
   unfold iG bP;rw[decide_eq_decide];omega
  have hin:gV s (a:Int)=true:=eP (by omega) (by omega);simp only[cond_false,aj,if_false];rw[awU (by omega) (by omega),bK];simp only;by_cases hb:uO (s.drop a)=0
  ·rw[dE (kZ (by omega)),hin,cond_true];by_cases h10:cO s a=10
   ·rw[bZ (fV h10)];simp only[fG,ik,iK,ax,cond_true,hlt,show bW 0 0=true from rfl];rw[dC (by omega) (by omega),show(a:Int)+1=((a+1:Nat):Int) by omega];simp[jV,lM,hb,h10]
   ·rw[dE (dW h10)];by_cases h35:cO s a=35
    ·rw[bZ (fV h35),aci (by omega) (a:=a) (by omega) _ _ _ _ _ _ _ _ _ _ bU a (dO (by omega)) (ah _) (xh s a),bK];simp only[dV,fG,ik,iK,ax,cond_true];simp[jV,lM,hb,h35]
    ·obtain⟨t1,t2⟩:=azJ (s.drop a);obtain⟨o1,o2,o3⟩:=O7 (s.drop a);rw[aF]at o1;rw[dE (dW h35),aGs s (by omega) (by omega),bK];simp only;by_cases ho:(BR (s.drop a)).2=0
     ·have ho1:=o2.1 ho;rw[ho1,dE (show iG 0 ((0:Nat):Int)=false from rfl)];have hd:=acm (s:=s) (by omega) (a:=a) (by omega) (a:Int) 0 pd false 0 false 0 0 0 false aw pd false bU 0 (dO (by omega)) (by omega);rw[Nat.add_zero]at hd;rw[hd,bK];simp only[dV];have hrg:=PO (s.drop a);rw[aF]at hrg;have hwl:=UD (s:=s) (a:=a) (by omega);have word: ∀(hn:Az (s.drop a)=0),(bM (VI s (a:Int)) fun y4=>
        bif gm (bP s) (a:Int) y4.1 then
         bif !bW aw 0 then
          bif nV CX pd pd then
           bif iq (sub s (a:Int) y4.1) (sub s (a:Int) y4.1)then
            bif bW aw aw then
             bif jy (bW aw 5) (bW aw 5)then
              bif eQ (cu [] pd) 24 then
               bif iq (sub s (a:Int) y4.1) (sub s (a:Int) y4.1)then
                bif bW aw aw then
                 bif jy (bW aw 5) (bW aw 5)then
                  bM (acz (sub s (a:Int) y4.1)) fun y5=>
                   bif nV CX pd pd then
                    bif iq (sub s (a:Int) y4.1) (sub s (a:Int) y4.1)then
                     bif bW aw aw then
                      bif jy (bW aw 5) (bW aw 5)then
                       bif((iq (sub s (a:Int) y4.1) (sub s (a:Int) y4.1)&&true)&&(iq y5.1 y5.1&&true))then
                        bif eQ (cu (cu [] pd) [(y5.1,(bW aw 5,()))]) 24 then
                         bif nV CX pd pd then
                          bif iq (sub s (a:Int) y4.1) (sub s (a:Int) y4.1)then
                           bif bW aw aw then
                            bif jy (bW aw 5) (bW aw 5)then
                             bif(iq y5.1 y5.1&&(jy (bW aw 5) (bW aw 5)&&true))then
                              bM (Ry (sub s (a:Int) y4.1)) fun y6=>
                               bif(bW 0 0&&(jy false false&&true))then
                                some (((6:Int),((a:Int),(y4.1,(!y6.1,())))),(((0:Int),(cu (cu [] pd) [(y5.1,(bW aw 5,()))],(false,()))),()))
                               else none
                             else none
                            else none
                           else none
                          else none
                         else none
                        else none
                       else none
                      else none
                     else none
                    else none
                   else none
                 else none
                else none
               else none
              else none
             else none
            else none
           else none
          else none
         else bM (Ry (sub s (a:Int) y4.1)) fun y5=>
          bif(bW 0 0&&(nV CX pd pd&&(jy false false&&true)))then
           some (((6:Int),((a:Int),(y4.1,(!y5.1,())))),(((0:Int),(pd,(false,()))),()))
          else none
        else none)=some (((6:Int),((a:Int),(((rM s a:Nat):Int),(!akU (XB s a (rM s a)),())))),(((0:Int),((if aw=0 then pd else pd++[(Jd (XB s a (rM s a)),decide (aw=5),())]),(false,()))),())):=by
       intro hn;have hcl:=Q5 (s:=s) (a:=a) (b:=rM s a);rw[apP hs ha,bK];simp only;rw[bZ (gB (by omega) (by omega) (by rw[bT];omega)),abx];by_cases h0:aw=0
       ·subst h0;rw[show(!bW 0 0)=false from rfl,cond_false,ap4 _ (by omega),bK,if_pos rfl];simp only[fG,ik,iK,ax,cond_true]
       ·rw[dW h0,if_neg h0];have hf1:eQ (cu [] pd) 24=true:=qQ (by unfold cu;simp only[aH];omega);have hf2: ∀y,eQ (cu (cu [] pd) [y]) 24=true:=fun y=>qQ (by unfold cu;simp only[aH,ae,ai];omega);simp only[aG,fG,pI,ik,iK,ax,cond_true,hf1];rw[aA7 _ (by omega),bK];simp only[fG,pI,ik,iK,ax,cond_true,hf2];rw[ap4 _ (by omega),bK];simp only[iE];rfl
      by_cases hg:kP (s.drop a)=0
      ·have hn:Az (s.drop a)=0:=by unfold Az;rw[if_neg (by simp[hg])]
       rw[dE (kZ (by omega))];refine(word hn).trans ?_;simp[jV,lM,hb,h10,h35,ho,hn]
      ·rw[bZ (fH (by omega))];by_cases h1:a+kP (s.drop a)<s.length
       ·have hdd:((s.drop a).drop (kP (s.drop a))).head?=some s[a+kP (s.drop a)]:=by
         rw[List.drop_drop,aO h1];rfl
        have hin2:gV s ((a+kP (s.drop a):Nat):Int)=true:=eP (by omega) (by omega);rw[bZ (fH (by rw[bT];omega)),hin2,cond_true,byte_at h1];by_cases e1:s[a+kP (s.drop a)]=60
        ·have hn:Az (s.drop a)=kP (s.drop a):=by unfold Az;rw[hdd,e1,if_pos (.inl ⟨hg,rfl⟩)]
         rw[e1,show bW (((60:UInt8).toNat:Nat):Int) 60=true from rfl];simp only[fG,ik,iK,ax,cond_true];simp[jV,lM,hb,h10,h35,ho,hn,hg]
        ·rw[dE (dW fun h=>e1 (UInt8.toNat_inj.1 (by rw[show(60:UInt8).toNat=60 from rfl];omega))),cond_true];by_cases e2:s[a+kP (s.drop a)]=62
         ·have hn:Az (s.drop a)=kP (s.drop a):=by unfold Az;rw[hdd,e2,if_pos (.inr ⟨hg,rfl⟩)]
          rw[e2,show bW (((62:UInt8).toNat:Nat):Int) 62=true from rfl];simp only[fG,ik,iK,ax,cond_true];simp[jV,lM,hb,h10,h35,ho,hn,hg]
         ·have hn:Az (s.drop a)=0:=by unfold Az;rw[hdd,if_neg (by simp[e1,e2])]
          rw[dE (dW fun h=>e2 (UInt8.toNat_inj.1 (by rw[show(62:UInt8).toNat=62 from rfl];omega)))];refine(word hn).trans ?_;simp[jV,lM,hb,h10,h35,ho,hn]
       ·have hdd:((s.drop a).drop (kP (s.drop a))).head?=none:=by
         rw[List.drop_drop,aI (by omega)];rfl
        have hn:Az (s.drop a)=0:=by unfold Az;rw[hdd,if_neg (by simp)]
        rw[dE (kZ (by rw[bT];omega))];refine(word hn).trans ?_;simp[jV,lM,hb,h10,h35,ho,hn]
     ·have ho1:(BR (s.drop a)).1≠0:=fun h=>ho (o2.2 h);rw[bZ (fH (by omega))];have hadd:dA .i64 (a:Int) (bP (MQ (BR (s.drop a)).1))=((a+(BR (s.drop a)).2:Nat):Int):=by
       rw[bT,t2,dC (by omega) (by omega)];omega
      by_cases h4:(BR (s.drop a)).1=4
      ·rw[bZ (fV (by omega)),t1,bK];simp only[fG,ik,iK,ax,cond_true,hadd];simp[jV,lM,hb,h10,h35,ho,h4]
      ·rw[dE (dW (by omega))];by_cases h5:(BR (s.drop a)).1=5
       ·rw[bZ (fV (by omega)),t1,bK];simp only[fG,ik,iK,ax,cond_true,hadd];simp[jV,lM,hb,h10,h35,ho,h5]
       ·rw[dE (dW (by omega)),t1,bK];simp only[fG,ik,iK,ax,cond_true,hadd];simp[jV,lM,hb,h10,h35,ho,h4,h5]
  ·rw[bZ (fH (by omega))];simp only[fG,ik,iK,ax,cond_true];simp[jV,lM,hb]
end
section
open Int renaming toNat_natCast → aP
open List renaming length_append → ae, length_singleton → ai, length_map → ay, length_take → aJ, getElem_mem → aQ, length_nil → aY, take_of_length_le → bu
open Go.RowKit
def rW (s:di):Nat->Nat->List Tok->Lxg->List Tok×Lxg
 |0,_,l,x=>(l,x)
 |n+1,a,l,x=>if a<s.length then rW s n (lZ s a x).1.2.2.1.toNat (l++[(lZ s a x).1]) (lZ s a x).2 else(l,x)
def kH (s:di):List Tok×Lxg:=rW s (s.length+1) 0 [] (0,[],false,())
def OkX (x:Lxg):Prop:=x.2.2.1=true->x.2.1≠[]
theorem Ui (s:di) (a:Nat) {x:Lxg} (h:OkX x):OkX (lZ s a x).2/\(lZ s a x).2.2.1.length<=x.2.1.length+1:=by
  obtain⟨aw,pd,bd,u⟩:=x;unfold OkX at*;unfold lZ;simp only at h ⊢;split
  · split
    · refine⟨fun hb=> ?_,by simp only[List.length_tail];omega⟩;simp only[decide_eq_true_eq]at hb;intro e;have:=congrArg List.length e;simp only[List.length_tail,aY]at this;omega
    · exact⟨h,by simp only;omega⟩
  · unfold lM
    repeat' split
    all_goals refine⟨fun hb=> ?_, ?_⟩
    all_goals first
      |exact absurd hb Bool.false_ne_true
      | (simp only[decide_eq_true_eq]at hb
         intro e;simp only at e;rw[e]at hb;simp at hb;done)
      | (simp only;omega)
      | (simp only[ae,ai];omega)
theorem Md {s:List UInt8} (hs:s.length<=10000): ∀(n m a:Nat) (l:List Tok) (x:Lxg),s.length<n+a->s.length<m+a->rW s n a l x=rW s m a l x
 |0,0,a,l,x,_,_=>rfl
 |0,m+1,a,l,x,h,_=>by rw[rW,rW,if_neg (by omega)]
 |n+1,0,a,l,x,_,h=>by rw[rW,rW,if_neg (by omega)]
 |n+1,m+1,a,l,x,h1,h2=>by
  rw[rW,rW];split
  ·rename_i ha
   have:=EN hs ha x;exact Md hs n m _ _ _ (by omega) (by omega)
  ·rfl
theorem adF {s:List UInt8} (hs:s.length<=10000) (v6:Int) (v7:Bool): ∀(N a:Nat) (l:List Tok) (x:Lxg),s.length-a<N->a<=s.length->OkX x->x.2.1.length<=a->l.length<=a->
  MH N s (a:Int) l x.1 x.2.1 x.2.2.1 v6 v7=some (.inl ((),((rW s N a l x).1,((rW s N a l x).2.1,(rW s N a l x).2.2.1,(rW s N a l x).2.2.2.1,()),(v6,v7,()),())))
 |0,a,l,x,h,_,_,_,_=>by omega
 |N+1,a,l,x,h,ha,hx,hp,hl=>by
  rw[MH,abt,rW];by_cases e:a<s.length
  ·have hto:=EN hs e x;have hok:=Ui s a hx;have hx':(x.1,(x.2.1,(x.2.2.1,())))=x:=rfl;rw[bZ (fH (by rw[bT];omega)),hx',aBb hs e x hx (by omega),bK,if_pos e];simp only;rw[bZ (qQ (by unfold cu;simp only[ae,ai];omega))];obtain⟨b,hb⟩: ∃b:Nat,(lZ s a x).1.2.2.1=(b:Int):=⟨(lZ s a x).1.2.2.1.toNat,by omega⟩;have ih:=adF hs v6 v7 N b (l++[(lZ s a x).1]) (lZ s a x).2 (by omega) (by omega) hok.1 (by omega) (by simp only[ae,ai];omega);rw[hb,aP];rw[<-ih];rw[<-hb];rfl
  ·rw[dE (iy (by rw[bT];omega)),if_neg e]
theorem ap0 {s:List UInt8} (hs:s.length<=10000):an7 s=some ((kH s).1,((kH s).2,())):=by
 have h:=adF hs 0 false bU 0 [] (0,[],false,()) (dO (by omega)) (by omega) (fun h=>by cases h) (by simp) (by simp);have hm:rW s bU 0 [] (0,[],false,())=kH s:=Md hs _ _ _ _ _ (by have:=dO (n:=s.length) (by omega);omega) (by omega);rw[an7,show MH bU s 0 [] 0 [] false 0 false=_ from h,bK,hm];rfl
structure OkT (s:di) (t:Tok):Prop where
 f0:0<=t.2.1
 ft:t.2.1<t.2.2.1
 t1:t.2.2.1<=s.length
theorem aiU {s:List UInt8} (hs:s.length<=10000): ∀(n a:Nat) (l:List Tok) (x:Lxg),OkX x->l.length<=a->a<=s.length->(∀t∈l,OkT s t)->(∀t∈(rW s n a l x).1,OkT s t)/\OkX (rW s n a l x).2/\(rW s n a l x).1.length<=s.length
 |0,a,l,x,hx,hl,ha,h=>⟨h,hx,by rw[rW];simp only;omega⟩
 |n+1,a,l,x,hx,hl,ha,h=>by
  rw[rW];split
  ·rename_i e
   have hto:=EN hs e x;exact aiU hs n _ _ _ (Ui s a hx).1 (by simp only[ae,ai];omega) (by omega) (fun t ht=>by
    rcases List.mem_append.1 ht with h1|h1
    ·exact h t h1
    ·rw[List.mem_singleton.1 h1];exact⟨by omega,by omega,by omega⟩)
  ·exact⟨h,hx,by simp only;omega⟩
theorem JK {s:List UInt8} (hs:s.length<=10000):(∀t∈(kH s).1,OkT s t)/\OkX (kH s).2/\(kH s).1.length<=s.length:=
 aiU hs _ _ _ _ (fun h=>by cases h) (by simp) (by omega) (fun t ht=>by cases ht)
def Yb (t:Tok):Bool:=decide (t.1=2)||decide (t.1=4)||decide (t.1=5)||decide (t.1=6)
def aAt (s:di) (t:Tok):Int×List UInt8×Int×Int×Unit:=(t.1,sub s t.2.1 t.2.2.1,t.2.1,t.2.2.1,())
def iw (s:di) (l:List Tok):List (Int×List UInt8×Int×Int×Unit):=(l.filter Yb).map (aAt s)
theorem Oh {s:List UInt8} (hs:s.length<=10000) (l:List Tok) (hl:l.length<=10000) (hok: ∀t∈l,OkT s t): ∀(N k:Nat),l.length-k<N->k<=l.length->
  Ir N s l (k:Int) (iw s (l.take k))=some (.inl ((),(iw s l,())))
 |0,k,h,_=>by omega
 |N+1,k,h,hk=>by
  (rewrite [Ir,abo];delta A7 jB)
  by_cases e:k<l.length
  ·have hg:fZ l (0,(0,(0,(false,())))) (k:Int)=l[k]:=by
    unfold fZ;rw[aP,List.getD_eq_getElem?_getD,List.getElem?_eq_getElem e];rfl
   have hin:gV l (k:Int)=true:=eP (by omega) (by omega);obtain⟨o1,o2,o3⟩:=hok _ (aQ e);have hpt:gm (bP s) l[k].2.1 l[k].2.2.1=true:=gB o1 (by omega) (by rw[bT];omega);have hlen:(iw s (l.take k)).length<=10000:=by
    unfold iw;rw[ay];have:=List.length_filter_le Yb (l.take k);rw[aJ]at this;omega
   have hfit: ∀y,eQ (cu (iw s (l.take k)) [y]) 40=true:=fun y=>qQ (by unfold cu;simp only[ae,ai];omega);have ih:=Oh hs l hl hok N (k+1) (by omega) (by omega);have hts:l.take (k+1)=l.take k++[l[k]]:=by rw[List.take_add_one,List.getElem?_eq_getElem e];rfl
   have hadd:dA .i64 (k:Int) 1=((k+1:Nat):Int):=by rw[dC (by omega) (by omega)];omega
   have yes:Yb l[k]=true->Ir N s l ((k+1:Nat):Int) (cu (iw s (l.take k)) [(l[k].1,(sub s l[k].2.1 l[k].2.2.1,(l[k].2.1,(l[k].2.2.1,()))))])=some (.inl ((),(iw s l,()))):=fun hy=>by
    rw[<-ih];congr 1;unfold iw;rw[hts,List.filter_append,List.map_append,List.filter_cons_of_pos hy];rfl
   rw[bZ (fH (by rw[bT];omega)),hin];simp only[cond_true,hg,hpt,hfit,hadd];unfold Yb at yes;by_cases h2:l[k].1=2
   ·rw[bZ (fV h2)];exact yes (by simp[h2])
   ·rw[dE (dW h2)];by_cases h4:l[k].1=4
    ·rw[bZ (fV h4)];exact yes (by simp[h4])
    ·rw[dE (dW h4)];by_cases h5:l[k].1=5
     ·rw[bZ (fV h5)];exact yes (by simp[h5])
     ·rw[dE (dW h5)];by_cases h6:l[k].1=6
      ·rw[bZ (fV h6)];exact yes (by simp[h6])
      ·rw[dE (dW h6),<-ih];congr 1;unfold iw;rw[hts,List.filter_append,List.filter_cons_of_neg (by unfold Yb;simp[h2,h4,h5,h6])];simp
  ·rw[dE (iy (by rw[bT];omega)),bu (by omega)]
theorem apZ {s:List UInt8} (hs:s.length<=10000):axh s=some (iw s (kH s).1,()):=by
 obtain⟨h1,h2,h3⟩:=JK hs;rw[axh,ap0 hs,bK];simp only;have h:=Oh hs (kH s).1 (by omega) h1 bU 0 (dO (by omega)) (by omega);rw[show Ir bU s (kH s).1 0 []=_ from h,bK];rfl
end
section
open Tryz
open Go.RowKit
def aso (x0:di) (x1:Int) (x2:Int×Bg×qM):Option taS:=bif(gV x2.2.1 0)then bM (aij x0 x1 (fZ x2.2.1 ([],(false,())) 0)) fun y0=>bif(!y0.2.1)then bif((bW x2.1 x2.1)&&((nV CX x2.2.1 x2.2.1)&&((jy x2.2.2.1 x2.2.2.1)&&true)))then some ((7,(x1,(y0.1,((!y0.2.1),())))),((x2.1,(x2.2.1,(x2.2.2.1,()))),()))else none else bif(gm (bP x2.2.1) 1 (bP x2.2.1))then bM (rP (sub x2.2.1 1 (bP x2.2.1))) fun y1=>bif(bW x2.1 x2.1)then bif(bW (bP y1.1) (bP y1.1))then bif(jy (iG 0 (bP y1.1)) (iG 0 (bP y1.1)))then bif((bW x2.1 x2.1)&&((jy (iG 0 (bP y1.1)) (iG 0 (bP y1.1)))&&true))then some ((7,(x1,(y0.1,((!y0.2.1),())))),((x2.1,(y1.1,((iG 0 (bP y1.1)),()))),()))else none else none else none else none else none else none
def avr:Sum:=⟨[.str,dD,.pair dD tyL],tzH,fun x=>aso x.1 x.2.1 x.2.2.1⟩
noncomputable def aB5:Env:=gp prog tt 210 [(261,avF),(262,yN)] [] []
theorem ami:dK aB5:=eA f210 (aD apc (aD xE aN))
theorem aoZ:dY prog 210 avr:=sA ami
def acF (x0:jg):Option qM:=bif(bW x0.1 12)then some ((bW x0.2.2.1 (dA .i64 x0.2.1 1)),())else some (false,())
def avx:Sum:=⟨[I9],tzE,fun x=>acF x.1⟩
noncomputable def aCa:Env:=gp prog tt 222 [] [] []
theorem amr:dK aCa:=eA f222 aN
theorem ao5:dY prog 222 avx:=sA amr
def XZ (x0:jg):Option oG:=bif x0.2.2.2.2.1 then some ((dA .i64 x0.2.1 2),((BQ (eG .i64 x0.2.2.1 0) (dA .i64 x0.2.1 2)),()))else some ((dA .i64 x0.2.1 2),((BQ (eG .i64 x0.2.2.1 1) (dA .i64 x0.2.1 2)),()))
def aip (x0:jg):Option oG:=bif x0.2.2.2.2.1 then some ((dA .i64 x0.2.1 1),((BQ (eG .i64 x0.2.2.1 0) (dA .i64 x0.2.1 1)),()))else some ((dA .i64 x0.2.1 1),((BQ (eG .i64 x0.2.2.1 0) (dA .i64 x0.2.1 1)),()))
def aiq (x0:jg):Option oG:=bif x0.2.2.2.2.1 then some ((dA .i64 x0.2.1 1),((BQ (eG .i64 x0.2.2.1 0) (dA .i64 x0.2.1 1)),()))else some ((dA .i64 x0.2.1 1),((BQ (eG .i64 x0.2.2.1 1) (dA .i64 x0.2.1 1)),()))
def X0 (x0:jg):Option oG:=bif(bW x0.1 9)then bif x0.2.2.2.2.1 then some ((dA .i64 x0.2.1 3),((BQ (eG .i64 x0.2.2.1 0) (dA .i64 x0.2.1 3)),()))else some ((dA .i64 x0.2.1 3),((BQ (eG .i64 x0.2.2.1 2) (dA .i64 x0.2.1 3)),()))else bif(bW x0.1 13)then bif(bW x0.1 13)then aip x0 else aiq x0 else bif(bW x0.1 12)then aip x0 else aiq x0
def aio (x0:jg):Option oG:=bif(bW x0.1 1)then bif(bW x0.1 1)then XZ x0 else X0 x0 else bif(bW x0.1 7)then bif(bW x0.1 7)then XZ x0 else X0 x0 else bif(bW x0.1 8)then XZ x0 else X0 x0
def avR:Sum:=⟨[I9],tzJ,fun x=>aio x.1⟩
noncomputable def aCx:Env:=gp prog tt 280 [] [] []
theorem am3:dK aCx:=eA f280 aN
theorem apq:dY prog 280 avR:=sA am3
noncomputable def Xl:Code:=(f270.body).getD .skip
noncomputable def QF:Code:=(f159.body).getD .skip
noncomputable def QG:Code:=(f219.body).getD .skip
noncomputable def QH:Code:=(f224.body).getD .skip
noncomputable def QR:Code:=cA (cA (cB (cA (cB (cB (QF))))))
noncomputable def QS:Code:=cA (cA (cB (cA (cB (cB (cB (cA (cB (QG)))))))))
noncomputable def QT:Code:=cA (cA (cB (cA (cB (cB (cB (cB (QH))))))))
def RZ:dZ:=⟨[3,15,16,17,160000003],[],[3],[],[2],[]⟩
def Si:dZ:=⟨[1,2,3,4,5,220000004],[(300000300,.pair (.list .unit) (.int .u8))],[4],[],[],[]⟩
def Sj:dZ:=⟨[0,2,8,9,10,11,225000005],[(9,(.int .u8))],[2,9,10],[],[6],[]⟩
def axX:dZ:=⟨[2,3],[],[],[],[],[]⟩
def axG:dZ:=⟨[0,2,3],[],[],[],[],[]⟩
def axH:dZ:=⟨[3,4],[],[],[],[],[]⟩
def axI:dZ:=⟨[3],[],[],[],[],[]⟩
def agb:dZ:=⟨[0,1],[],[],[],[],[]⟩
def adg:dZ:=⟨[1,2,3,4,5],[],[],[],[],[]⟩
def Yl:dZ:=⟨[1,2,3,4,5,6],[],[],[],[],[]⟩
def Ym:dZ:=⟨[1,2,3,4,5,8,9],[],[],[],[],[]⟩
def Yn:dZ:=⟨[1,2,3,4,5,6],[],[],[],[],[]⟩
def Yk:dZ:=⟨[1,2,3,4,5,6],[],[],[],[],[]⟩
def Yo:dZ:=⟨[4],[],[],[],[],[]⟩
def adh:dZ:=⟨[1,3],[],[],[],[],[]⟩
def adi:dZ:=⟨[0,2,8,9,10,11],[],[],[],[],[]⟩
def Yp:dZ:=⟨[0,2,8,9,10,12],[],[],[],[],[]⟩
def adk:dZ:=⟨[0,2,8,9,12],[],[],[],[],[]⟩
def adl:dZ:=⟨[0,2,8,12],[],[],[],[],[]⟩
def Yq:dZ:=⟨[2,9],[],[],[],[],[]⟩
def Cb:SQ:=⟨us [.u,.u,.u,.ptr 2000011 0,.u,.u,.u,.u,.u,.u,.u,.u,.u,.u,.u,.v Vm,.v dD,.v dD] 14,[us [.v .str,.u,.v .str,.ptr 1000003 0,.u,.v .str] 7,[]],[.box 2000011 268 [.v .str,.v Vm,.mpv 2000009],.mp 2000009 .i64 .i64,.box 1000003 132 [.slf 1000003,.slc 1500003],.arr 1500003 (.int .u8)]⟩
def Es:SQ:=⟨us [.u,.u,.u,.ptr 2000011 0] 28,[us [.v .str,.u,.v .str,.ptr 1000003 0,.u,.v .str] 7,[]],[.box 2000011 268 [.v .str,.v Vm,.mpv 2000009],.mp 2000009 .i64 .i64,.box 1000003 132 [.slf 1000003,.slc 1500003],.arr 1500003 (.int .u8)]⟩
def EE:SQ:=⟨us [] 112,[us [.u,.u,.v .str,.ptr 1000003 0] 9,[.yld 1700008],[]],[.box 2000011 268 [.v .str,.v Vm,.mpv 2000009],.mp 2000009 .i64 .i64,.box 2000001 218 [.ptr 2000011 0],.lp 1700008 270 (us [.u,.u,.v .str,.ptr 1000003 0] 9) [8] 4 0 none,.arr 1500003 (.int .u8),.box 1000003 132 [.slf 1000003,.slc 1500003]]⟩
def yI {γ:Type} (rec:(List jg)->Int->Int->di->di->di->di->(List jg)->(List uM)->jJ->Option γ) (kE:di->di->di->di->(List jg)->(List uM)->jJ->Option γ) (kR:di->di->(List jg)->(List uM)->di->jJ->Option γ) (v0:List jg) (v1 v2:Int) (v3 v4 v5 v6:di) (v7:List jg) (v8:List uM) (v9:jJ):Option γ:=bif(iG v2 v1)then bif(gV v0 v2)then rec v0 v1 (dA .i64 v2 1) v3 v4 v5 v6 v7 (uV v8 (fZ v0 (0,(0,(0,(0,(false,()))))) v2).2.1 (dA .i64 v2 1)) v9 else none else kE v3 v4 v5 v6 v7 v8 v9
def qC:Nat->(List jg)->Int->Int->di->di->di->di->(List jg)->(List uM)->jJ->Option (Es.den⊕EE.den)
 |0,_,_,_,_,_,_,_,_,_,_=>none
 |n+1,v0,v1,v2,v3,v4,v5,v6,v7,v8,v9=>yI (qC n) (fun e0 e1 e2 e3 e4 e5 e6=>some (.inl ((),((e0,e1,e2,()),(),()),((e3,e4,()),e5,(),e6,())))) (fun r0 r1 r2 r3 r4 r5=>some (.inr ((),((r0,()),(),(),()),((r1,r2,()),r3,(),(r4,()),r5,(),())))) v0 v1 v2 v3 v4 v5 v6 v7 v8 v9
def adN (n:Nat) (v:Cb.den):=qC n v.1.1 v.1.2.1 v.1.2.2.1 v.2.1.1.1 v.2.1.1.2.1 v.2.1.1.2.2.1 v.2.2.1.1 v.2.2.1.2.1 v.2.2.2.1 v.2.2.2.2.2.1
noncomputable def Om:dI:=fU RZ Cb Es EE (.exit 0) (adN bU) 6
def Ce:SQ:=⟨us [.ptr 2000011 0,.u,.yld 1700008,.u,.u,.u,.u,.u,.v dD,.slc 4800009,.v .bool,.v dD] 83,[[.u,.ptr 2000001 0,.ptr 3000002 0,.ptr 3000003 0,.fn 220 [(3000003,0),(3000002,0)],.v dD,.ptr 3000006 0,.u,.u,.u,.u,.u,.u,.u,.u,.u,.u,.u,.u,.u,.u,.u,.u,.u,.u,.u,.u,.u,.u,.u,.u,.u,.u,.u,.u,.u,.u,.u,.u,.u,.u,.u,.u,.u,.u,.u,.u,.u,.u,.u,.u,.u,.u,.u,.u,.u,.u,.u,.u,.u,.u,.u,.u,.u,.u,.u,.u,.u,.u,.u,.u,.u,.u,.u,.u,.u,.u,.u,.u,.u,.u,.u,.u,.u,.u,.u,.u,.u,.u,.u,.u,.u,.u,.u,.u,.u,.u,.u,.u,.u,.u,.fn 220 [(3000003,0),(3000002,0)],.v .bool,.v .bool,.ptr 2000011 0,.v I9,.yld 1700008,.u,.u,.u,.u,.u],us [.u,.u,.v .str,.ptr 1000003 0] 9,[.yld 1700008],[]],[.arr 4800009 (.int .u8),.box 3000006 215 [.v dD,.v dD,.v dD,.v dD,.v .bool],.arr 3500003 (.int .u8),.box 3000003 111 [.nils],.box 3000002 269 [.yld 1700008],.box 2000011 268 [.v .str,.v Vm,.mpv 2000009],.mp 2000009 .i64 .i64,.box 2000001 218 [.ptr 2000011 0],.lp 1700008 270 (us [.u,.u,.v .str,.ptr 1000003 0] 9) [8] 4 0 none,.arr 1500003 (.int .u8),.box 1000003 132 [.slf 1000003,.slc 1500003]]⟩
def yz:SQ:=⟨us [.u,.u,.yld 1700008,.u,.u,.u,.u,.u,.u,.slc 4800009,.v .bool] 84,[[.u,.ptr 2000001 0,.ptr 3000002 0,.ptr 3000003 0,.fn 220 [(3000003,0),(3000002,0)],.v dD,.ptr 3000006 0,.u,.u,.u,.u,.u,.u,.u,.u,.u,.u,.u,.u,.u,.u,.u,.u,.u,.u,.u,.u,.u,.u,.u,.u,.u,.u,.u,.u,.u,.u,.u,.u,.u,.u,.u,.u,.u,.u,.u,.u,.u,.u,.u,.u,.u,.u,.u,.u,.u,.u,.u,.u,.u,.u,.u,.u,.u,.u,.u,.u,.u,.u,.u,.u,.u,.u,.u,.u,.u,.u,.u,.u,.u,.u,.u,.u,.u,.u,.u,.u,.u,.u,.u,.u,.u,.u,.u,.u,.u,.u,.u,.u,.u,.u,.fn 220 [(3000003,0),(3000002,0)],.v .bool,.v .bool,.ptr 2000011 0,.v I9,.yld 1700008,.u,.u,.u,.u,.u],us [.u,.u,.v .str,.ptr 1000003 0] 9,[.yld 1700008],[]],[.arr 4800009 (.int .u8),.box 3000006 215 [.v dD,.v dD,.v dD,.v dD,.v .bool],.arr 3500003 (.int .u8),.box 3000003 111 [.nils],.box 3000002 269 [.yld 1700008],.box 2000011 268 [.v .str,.v Vm,.mpv 2000009],.mp 2000009 .i64 .i64,.box 2000001 218 [.ptr 2000011 0],.lp 1700008 270 (us [.u,.u,.v .str,.ptr 1000003 0] 9) [8] 4 0 none,.arr 1500003 (.int .u8),.box 1000003 132 [.slf 1000003,.slc 1500003]]⟩
def yB:SQ:=⟨us [] 112,[us [.u,.u,.v .str,.ptr 1000003 0] 9,[.yld 1700008],[]],[.box 2000011 268 [.v .str,.v Vm,.mpv 2000009],.mp 2000009 .i64 .i64,.box 2000001 218 [.ptr 2000011 0],.lp 1700008 270 (us [.u,.u,.v .str,.ptr 1000003 0] 9) [8] 4 0 none,.arr 1500003 (.int .u8),.box 1000003 132 [.slf 1000003,.slc 1500003]]⟩
def fE (v16:List jg) (v17:List uM) (v2:Int):=fZ v16 (0,(0,(0,(0,(false,()))))) (eG .i64 (qF v17 v2) 1)
def iT (v15:di) (v16:List jg) (v17:List uM) (v2:Int):=cO v15 (dA .i64 (fE v16 v17 v2).2.1 1)
def ku (v15:di) (v16:List jg) (v17:List uM) (v2:Int):=dM (sub v15 (fE v16 v17 v2).2.1 (fE v16 v17 v2).2.2.1)
def nz {γ:Type} (v8:jJ) (v15:di) (v16:List jg) (v17:List uM) (v2:Int) (rec:Int->Bool->Int->Int->Bool->Bool->jg->di->jJ->Int->Int->Int->Int->Bool->jJ->di->(List jg)->(List uM)->di->jJ->Option γ) (v0:Int) (v1:Bool) (v3:Int) (v4 v5:Bool) (v6:jg) (v7:di) (v9 v10 v11 v12:Int) (v13:Bool) (v14:jJ) (v18:di) (v19:jJ):Option γ:=bif(eQ (cu v8 (dM (ofBytes [(iT v15 v16 v17 v2)]))) 1)then rec v0 v1 (fE v16 v17 v2).2.2.1 v3 v4 v5 v6 v7 (cu v8 (dM (ofBytes [(iT v15 v16 v17 v2)]))) v9 v10 v11 v12 v13 v14 v15 v16 v17 v18 v19 else none
def nC {γ:Type} (v15:di) (v16:List jg) (v17:List uM) (v2:Int) (v8:jJ) (rec:Int->Bool->Int->Int->Bool->Bool->jg->di->jJ->Int->Int->Int->Int->Bool->jJ->di->(List jg)->(List uM)->di->jJ->Option γ) (v0:Int) (v1:Bool) (v3:Int) (v4 v5:Bool) (v6:jg) (v7:di) (v9 v10 v11 v12:Int) (v13:Bool) (v14:jJ) (v18:di) (v19:jJ):Option γ:=bif(bW (iT v15 v16 v17 v2) 10)then bif(eQ (cu v8 (dM [])) 1)then rec v0 v1 (fE v16 v17 v2).2.2.1 v3 v4 v5 v6 v7 (cu v8 (dM [])) v9 v10 v11 v12 v13 v14 v15 v16 v17 v18 v19 else none else bif(gm (bP v15) (fE v16 v17 v2).2.1 (fE v16 v17 v2).2.2.1)then bif(eQ (cu v8 (ku v15 v16 v17 v2)) 1)then rec v0 v1 (fE v16 v17 v2).2.2.1 v3 v4 v5 v6 v7 (cu v8 (ku v15 v16 v17 v2)) v9 v10 v11 v12 v13 v14 v15 v16 v17 v18 v19 else none else none
def yK {γ:Type} (rec:Int->Bool->Int->Int->Bool->Bool->jg->di->jJ->Int->Int->Int->Int->Bool->jJ->di->(List jg)->(List uM)->di->jJ->Option γ) (kE:Bool->Int->Bool->Bool->jg->di->jJ->Int->Int->Int->Int->Bool->jJ->di->(List jg)->(List uM)->di->jJ->Option γ) (kR:di->di->(List jg)->(List uM)->di->jJ->Option γ) (v0:Int) (v1:Bool) (v2 v3:Int) (v4 v5:Bool) (v6:jg) (v7:di) (v8:jJ) (v9 v10 v11 v12:Int) (v13:Bool) (v14:jJ) (v15:di) (v16:List jg) (v17:List uM) (v18:di) (v19:jJ):Option γ:=bif(iG v2 v0)then bif(bW (qF v17 v2) 0)then bif(gV v15 v2)then bif(eQ (cu v8 [(cO v15 v2)]) 1)then rec v0 v1 (dA .i64 v2 1) v3 v4 v5 v6 v7 (cu v8 [(cO v15 v2)]) v9 v10 v11 v12 v13 v14 v15 v16 v17 v18 v19 else none else none else bif(gV v16 (eG .i64 (qF v17 v2) 1))then bM (acF ((fE v16 v17 v2).1,((fE v16 v17 v2).2.1,((fE v16 v17 v2).2.2.1,((fE v16 v17 v2).2.2.2.1,((fE v16 v17 v2).2.2.2.2.1,())))))) fun y0=>bif y0.1 then bif(gV v15 v2)then bif(eQ (cu v8 [(cO v15 v2)]) 1)then rec v0 v1 (dA .i64 v2 1) v3 v4 v5 v6 v7 (cu v8 [(cO v15 v2)]) v9 v10 v11 v12 v13 v14 v15 v16 v17 v18 v19 else none else none else bif(bW (fE v16 v17 v2).1 13)then bif(iG (eG .i64 (fE v16 v17 v2).2.2.1 (fE v16 v17 v2).2.1) 2)then bif(eQ (cu v8 (dM [])) 1)then rec v0 v1 (fE v16 v17 v2).2.2.1 v3 v4 v5 v6 v7 (cu v8 (dM [])) v9 v10 v11 v12 v13 v14 v15 v16 v17 v18 v19 else none else bif(gV v15 (dA .i64 (fE v16 v17 v2).2.1 1))then bif(bW (iT v15 v16 v17 v2) 36)then bif(bW (iT v15 v16 v17 v2) 36)then nz v8 v15 v16 v17 v2 rec v0 v1 v3 v4 v5 v6 v7 v9 v10 v11 v12 v13 v14 v18 v19 else nC v15 v16 v17 v2 v8 rec v0 v1 v3 v4 v5 v6 v7 v9 v10 v11 v12 v13 v14 v18 v19 else bif(bW (iT v15 v16 v17 v2) 96)then bif(bW (iT v15 v16 v17 v2) 96)then nz v8 v15 v16 v17 v2 rec v0 v1 v3 v4 v5 v6 v7 v9 v10 v11 v12 v13 v14 v18 v19 else nC v15 v16 v17 v2 v8 rec v0 v1 v3 v4 v5 v6 v7 v9 v10 v11 v12 v13 v14 v18 v19 else bif(bW (iT v15 v16 v17 v2) 34)then bif(bW (iT v15 v16 v17 v2) 34)then nz v8 v15 v16 v17 v2 rec v0 v1 v3 v4 v5 v6 v7 v9 v10 v11 v12 v13 v14 v18 v19 else nC v15 v16 v17 v2 v8 rec v0 v1 v3 v4 v5 v6 v7 v9 v10 v11 v12 v13 v14 v18 v19 else bif(bW (iT v15 v16 v17 v2) 92)then nz v8 v15 v16 v17 v2 rec v0 v1 v3 v4 v5 v6 v7 v9 v10 v11 v12 v13 v14 v18 v19 else nC v15 v16 v17 v2 v8 rec v0 v1 v3 v4 v5 v6 v7 v9 v10 v11 v12 v13 v14 v18 v19 else none else bif(iG 0 (bP v8))then bif(eQ (cu v19 (dM (ofBytes v8))) 1)then bif(gm (bP v15) (fE v16 v17 v2).2.1 (fE v16 v17 v2).2.2.1)then bif(eQ (cu (cu v19 (dM (ofBytes v8))) (ku v15 v16 v17 v2)) 1)then rec v0 true (fE v16 v17 v2).2.2.1 v3 v4 v5 v6 v7 [] v9 v10 v11 v12 v13 v14 v15 v16 v17 v18 (cu (cu v19 (dM (ofBytes v8))) (ku v15 v16 v17 v2))else none else none else none else bif(gm (bP v15) (fE v16 v17 v2).2.1 (fE v16 v17 v2).2.2.1)then bif(eQ (cu v19 (ku v15 v16 v17 v2)) 1)then rec v0 true (fE v16 v17 v2).2.2.1 v3 v4 v5 v6 v7 [] v9 v10 v11 v12 v13 v14 v15 v16 v17 v18 (cu v19 (ku v15 v16 v17 v2))else none else none else none else kE v1 v3 v4 v5 v6 v7 v8 v9 v10 v11 v12 v13 v14 v15 v16 v17 v18 v19
def kY:Nat->Int->Bool->Int->Int->Bool->Bool->jg->di->jJ->Int->Int->Int->Int->Bool->jJ->di->(List jg)->(List uM)->di->jJ->Option (yz.den⊕yB.den)
 |0,_,_,_,_,_,_,_,_,_,_,_,_,_,_,_,_,_,_,_,_=>none
 |n+1,v0,v1,v2,v3,v4,v5,v6,v7,v8,v9,v10,v11,v12,v13,v14,v15,v16,v17,v18,v19=>yK (kY n) (fun e0 e1 e2 e3 e4 e5 e6 e7 e8 e9 e10 e11 e12 e13 e14 e15 e16 e17=>some (.inl ((e0,()),((e1,e2,e3,e4,()),(e5,()),(),(),()),(e6,(e7,e8,e9,e10,e11,()),e12,(),(),(e13,e14,()),e15,(),(e16,()),e17,(),())))) (fun r0 r1 r2 r3 r4 r5=>some (.inr ((),((r0,()),(),(),()),((r1,r2,()),r3,(),(r4,()),r5,(),())))) v0 v1 v2 v3 v4 v5 v6 v7 v8 v9 v10 v11 v12 v13 v14 v15 v16 v17 v18 v19
def adP (n:Nat) (v:Ce.den):=kY n v.1.1 v.1.2.1 v.1.2.2.1 v.2.1.1.1 v.2.1.1.2.1 v.2.1.1.2.2.1 v.2.1.1.2.2.2.1 v.2.1.2.1.1 v.2.2.1 v.2.2.2.1.1 v.2.2.2.1.2.1 v.2.2.2.1.2.2.1 v.2.2.2.1.2.2.2.1 v.2.2.2.1.2.2.2.2.1 v.2.2.2.2.1 v.2.2.2.2.2.2.2.1.1 v.2.2.2.2.2.2.2.1.2.1 v.2.2.2.2.2.2.2.2.1 v.2.2.2.2.2.2.2.2.2.2.1.1 v.2.2.2.2.2.2.2.2.2.2.2.1
noncomputable def Oq:dI:=fU Sj Ce yz yB (.exit 0) (adP bU) 12
def Cc:SQ:=⟨us [.u,.ptr 2000001 0,.ptr 3000002 0,.ptr 3000003 0,.fn 220 [(3000003,0),(3000002,0)],.v dD] 106,[us [.u,.u,.v .str,.ptr 1000003 0] 9,[.yld 1700008],[]],[.arr 3500003 (.int .u8),.box 3000003 111 [.slc 3500003],.box 3000002 269 [.yld 1700008],.box 2000011 268 [.v .str,.v Vm,.mpv 2000009],.mp 2000009 .i64 .i64,.box 2000001 218 [.ptr 2000011 0],.lp 1700008 270 (us [.u,.u,.v .str,.ptr 1000003 0] 9) [8] 4 0 none,.arr 1500003 (.int .u8),.box 1000003 132 [.slf 1000003,.slc 1500003]]⟩
def Et:SQ:=⟨us [.u,.u,.u,.u,.fn 220 [(3000003,0),(3000002,0)]] 107,[us [.u,.u,.v .str,.ptr 1000003 0] 9,[.yld 1700008],[]],[.arr 3500003 (.int .u8),.box 3000003 111 [.slc 3500003],.box 3000002 269 [.yld 1700008],.box 2000011 268 [.v .str,.v Vm,.mpv 2000009],.mp 2000009 .i64 .i64,.box 2000001 218 [.ptr 2000011 0],.lp 1700008 270 (us [.u,.u,.v .str,.ptr 1000003 0] 9) [8] 4 0 none,.arr 1500003 (.int .u8),.box 1000003 132 [.slf 1000003,.slc 1500003]]⟩
def EF:SQ:=⟨us [] 112,[us [.u,.u,.v .str,.ptr 1000003 0] 9,[.yld 1700008],[]],[.box 2000011 268 [.v .str,.v Vm,.mpv 2000009],.mp 2000009 .i64 .i64,.box 2000001 218 [.ptr 2000011 0],.lp 1700008 270 (us [.u,.u,.v .str,.ptr 1000003 0] 9) [8] 4 0 none,.arr 1500003 (.int .u8),.box 1000003 132 [.slf 1000003,.slc 1500003]]⟩
def dB (v4:List jg) (v5:List uM) (v0:Int):=fZ v4 (0,(0,(0,(0,(false,()))))) (eG .i64 (qF v5 v0) 1)
def pM (v4:List jg) (v5:List uM) (v0:Int):=aio ((dB v4 v5 v0).1,((dB v4 v5 v0).2.1,((dB v4 v5 v0).2.2.1,((dB v4 v5 v0).2.2.2.1,((dB v4 v5 v0).2.2.2.2.1,())))))
def jY (v3:di) (v4:List jg) (v5:List uM) (v0:Int):=sub v3 (dA .i64 (dB v4 v5 v0).2.1 1) (dB v4 v5 v0).2.2.1
def jZ (v3:di) (v4:List jg) (v5:List uM) (v0:Int):=dM (sub v3 (dB v4 v5 v0).2.1 (dB v4 v5 v0).2.2.1)
def iO (v7 v2:jJ):=cu v7 (dM (ofBytes v2))
def tV {γ:Type} (v3:di) (v4:List jg) (v5:List uM) (v0:Int) (v2:jJ) (rec:Int->di->jJ->di->(List jg)->(List uM)->di->jJ->Option γ) (v1 v6:di) (v7:jJ):Option γ:=bif(gm (bP v3) (dB v4 v5 v0).2.1 (dB v4 v5 v0).2.2.1)then bif(eQ (cu v2 (jZ v3 v4 v5 v0)) 1)then rec (dB v4 v5 v0).2.2.1 v1 (cu v2 (jZ v3 v4 v5 v0)) v3 v4 v5 v6 v7 else none else none
def tX {γ:Type} (v4:List jg) (v5:List uM) (v0:Int) (v3:di) (v2 v7:jJ) (rec:Int->di->jJ->di->(List jg)->(List uM)->di->jJ->Option γ) (v1 v6:di):Option γ:=bif(bW (dB v4 v5 v0).1 4)then bM (pM v4 v5 v0) fun y1=>bif(gm (bP v3) y1.1 y1.2.1)then bif(iq (ofBytes v2) [])then bif(eQ (cu v7 (dM (sub v3 y1.1 y1.2.1))) 1)then rec (dB v4 v5 v0).2.2.1 v1 [] v3 v4 v5 v6 (cu v7 (dM (sub v3 y1.1 y1.2.1)))else none else bif(eQ (iO v7 v2) 1)then bif(eQ (cu (iO v7 v2) (dM (sub v3 y1.1 y1.2.1))) 1)then rec (dB v4 v5 v0).2.2.1 v1 [] v3 v4 v5 v6 (cu (iO v7 v2) (dM (sub v3 y1.1 y1.2.1)))else none else none else none else bif(gm (bP v3) (dA .i64 (dB v4 v5 v0).2.1 1) (dB v4 v5 v0).2.2.1)then bif(!(iq (jY v3 v4 v5 v0) []))then bif(!(iq (jY v3 v4 v5 v0) [10]))then bif(iq (ofBytes v2) [])then bif(eQ (cu v7 (dM (jY v3 v4 v5 v0))) 1)then rec (dB v4 v5 v0).2.2.1 v1 [] v3 v4 v5 v6 (cu v7 (dM (jY v3 v4 v5 v0)))else none else bif(eQ (iO v7 v2) 1)then bif(eQ (cu (iO v7 v2) (dM (jY v3 v4 v5 v0))) 1)then rec (dB v4 v5 v0).2.2.1 v1 [] v3 v4 v5 v6 (cu (iO v7 v2) (dM (jY v3 v4 v5 v0)))else none else none else rec (dB v4 v5 v0).2.2.1 v1 v2 v3 v4 v5 v6 v7 else rec (dB v4 v5 v0).2.2.1 v1 v2 v3 v4 v5 v6 v7 else none
def tY {γ:Type} (y2:yz.den⊕yB.den) (rec:Int->di->jJ->di->(List jg)->(List uM)->di->jJ->Option γ) (kR:di->di->(List jg)->(List uM)->di->jJ->Option γ):Option γ:=dV y2 (fun a3=>bif(bW (bP a3.2.2.1) 0)then bif a3.1.1 then bif a3.2.1.1.2.2.1 then rec a3.2.1.1.1 a3.2.1.2.1.1 [] a3.2.2.2.2.2.2.2.1.1 a3.2.2.2.2.2.2.2.1.2.1 a3.2.2.2.2.2.2.2.2.1 a3.2.2.2.2.2.2.2.2.2.2.1.1 a3.2.2.2.2.2.2.2.2.2.2.2.1 else kR a3.2.1.2.1.1 a3.2.2.2.2.2.2.2.1.1 a3.2.2.2.2.2.2.2.1.2.1 a3.2.2.2.2.2.2.2.2.1 a3.2.2.2.2.2.2.2.2.2.2.1.1 a3.2.2.2.2.2.2.2.2.2.2.2.1 else bif(eQ (cu a3.2.2.2.2.2.2.2.2.2.2.2.1 (dM (ofBytes a3.2.2.1))) 1)then bif a3.2.1.1.2.2.1 then rec a3.2.1.1.1 a3.2.1.2.1.1 [] a3.2.2.2.2.2.2.2.1.1 a3.2.2.2.2.2.2.2.1.2.1 a3.2.2.2.2.2.2.2.2.1 a3.2.2.2.2.2.2.2.2.2.2.1.1 (cu a3.2.2.2.2.2.2.2.2.2.2.2.1 (dM (ofBytes a3.2.2.1)))else kR a3.2.1.2.1.1 a3.2.2.2.2.2.2.2.1.1 a3.2.2.2.2.2.2.2.1.2.1 a3.2.2.2.2.2.2.2.2.1 a3.2.2.2.2.2.2.2.2.2.2.1.1 (cu a3.2.2.2.2.2.2.2.2.2.2.2.1 (dM (ofBytes a3.2.2.1)))else none else bif(eQ (cu a3.2.2.2.2.2.2.2.2.2.2.2.1 (dM (ofBytes a3.2.2.1))) 1)then bif a3.2.1.1.2.2.1 then rec a3.2.1.1.1 a3.2.1.2.1.1 [] a3.2.2.2.2.2.2.2.1.1 a3.2.2.2.2.2.2.2.1.2.1 a3.2.2.2.2.2.2.2.2.1 a3.2.2.2.2.2.2.2.2.2.2.1.1 (cu a3.2.2.2.2.2.2.2.2.2.2.2.1 (dM (ofBytes a3.2.2.1)))else kR a3.2.1.2.1.1 a3.2.2.2.2.2.2.2.1.1 a3.2.2.2.2.2.2.2.1.2.1 a3.2.2.2.2.2.2.2.2.1 a3.2.2.2.2.2.2.2.2.2.2.1.1 (cu a3.2.2.2.2.2.2.2.2.2.2.2.1 (dM (ofBytes a3.2.2.1)))else none) (fun b3=>none)
def tZ {γ:Type} (v4:List jg) (v5:List uM) (v0:Int) (v2:jJ) (v1 v3 v6:di) (v7:jJ) (rec:Int->di->jJ->di->(List jg)->(List uM)->di->jJ->Option γ) (kR:di->di->(List jg)->(List uM)->di->jJ->Option γ):Option γ:=bif(bW (dB v4 v5 v0).1 5)then bif(iq (ofBytes v2) [])then bM (pM v4 v5 v0) fun y1=>bM (kY bU y1.2.1 false y1.1 (dB v4 v5 v0).2.2.1 true true ((dB v4 v5 v0).1,((dB v4 v5 v0).2.1,((dB v4 v5 v0).2.2.1,((dB v4 v5 v0).2.2.2.1,((dB v4 v5 v0).2.2.2.2.1,()))))) v1 [] (dB v4 v5 v0).1 (dB v4 v5 v0).2.1 (dB v4 v5 v0).2.2.1 (dB v4 v5 v0).2.2.2.1 (dB v4 v5 v0).2.2.2.2.1 v2 v3 v4 v5 v6 v7) fun y2=>tY y2 rec kR else bif(eQ (iO v7 v2) 1)then bM (pM v4 v5 v0) fun y1=>bM (kY bU y1.2.1 false y1.1 (dB v4 v5 v0).2.2.1 true true ((dB v4 v5 v0).1,((dB v4 v5 v0).2.1,((dB v4 v5 v0).2.2.1,((dB v4 v5 v0).2.2.2.1,((dB v4 v5 v0).2.2.2.2.1,()))))) v1 [] (dB v4 v5 v0).1 (dB v4 v5 v0).2.1 (dB v4 v5 v0).2.2.1 (dB v4 v5 v0).2.2.2.1 (dB v4 v5 v0).2.2.2.2.1 v2 v3 v4 v5 v6 (iO v7 v2)) fun y2=>tY y2 rec kR else none else bif(iq (ofBytes v2) [])then bif(gm (bP v3) (dB v4 v5 v0).2.1 (dB v4 v5 v0).2.2.1)then bif(eQ (cu v7 (jZ v3 v4 v5 v0)) 1)then rec (dB v4 v5 v0).2.2.1 v1 [] v3 v4 v5 v6 (cu v7 (jZ v3 v4 v5 v0))else none else none else bif(eQ (iO v7 v2) 1)then bif(gm (bP v3) (dB v4 v5 v0).2.1 (dB v4 v5 v0).2.2.1)then bif(eQ (cu (iO v7 v2) (jZ v3 v4 v5 v0)) 1)then rec (dB v4 v5 v0).2.2.1 v1 [] v3 v4 v5 v6 (cu (iO v7 v2) (jZ v3 v4 v5 v0))else none else none else none
def uf {γ:Type} (v4:List jg) (v5:List uM) (v0:Int) (v3:di) (v2 v7:jJ) (rec:Int->di->jJ->di->(List jg)->(List uM)->di->jJ->Option γ) (v1 v6:di) (kR:di->di->(List jg)->(List uM)->di->jJ->Option γ):Option γ:=bif(bW (dB v4 v5 v0).1 13)then bif(bW (dB v4 v5 v0).1 13)then tX v4 v5 v0 v3 v2 v7 rec v1 v6 else tZ v4 v5 v0 v2 v1 v3 v6 v7 rec kR else bif(bW (dB v4 v5 v0).1 4)then tX v4 v5 v0 v3 v2 v7 rec v1 v6 else tZ v4 v5 v0 v2 v1 v3 v6 v7 rec kR
def yJ {γ:Type} (rec:Int->di->jJ->di->(List jg)->(List uM)->di->jJ->Option γ) (kE:di->jJ->di->(List jg)->(List uM)->di->jJ->Option γ) (kR:di->di->(List jg)->(List uM)->di->jJ->Option γ) (v0:Int) (v1:di) (v2:jJ) (v3:di) (v4:List jg) (v5:List uM) (v6:di) (v7:jJ):Option γ:=bif(iG v0 (bP v3))then bif(bW (qF v5 v0) 0)then bif(gV v3 v0)then bif(iq v3 v3)then bif(bW v0 v0)then bif(eQ (cu v2 [(cO v3 v0)]) 1)then bif(iq v3 v3)then bif(bW v0 v0)then bif(gV v3 v0)then bif(bW (cO v3 v0) (cO v3 v0))then rec (dA .i64 v0 1) v1 (cu v2 [(cO v3 v0)]) v3 v4 v5 v6 v7 else none else none else none else none else none else none else none else none else bif(gV v4 (eG .i64 (qF v5 v0) 1))then bM (acF ((dB v4 v5 v0).1,((dB v4 v5 v0).2.1,((dB v4 v5 v0).2.2.1,((dB v4 v5 v0).2.2.2.1,((dB v4 v5 v0).2.2.2.2.1,())))))) fun y0=>bif y0.1 then bif y0.1 then tV v3 v4 v5 v0 v2 rec v1 v6 v7 else uf v4 v5 v0 v3 v2 v7 rec v1 v6 kR else bif(bW (dB v4 v5 v0).1 14)then tV v3 v4 v5 v0 v2 rec v1 v6 v7 else uf v4 v5 v0 v3 v2 v7 rec v1 v6 kR else none else kE v1 v2 v3 v4 v5 v6 v7
def jr:Nat->Int->di->jJ->di->(List jg)->(List uM)->di->jJ->Option (Et.den⊕EF.den)
 |0,_,_,_,_,_,_,_,_=>none
 |n+1,v0,v1,v2,v3,v4,v5,v6,v7=>yJ (jr n) (fun e0 e1 e2 e3 e4 e5 e6=>some (.inl ((),((e0,()),(),(),()),(e1,(),(),(e2,e3,()),e4,(),(e5,()),e6,(),())))) (fun r0 r1 r2 r3 r4 r5=>some (.inr ((),((r0,()),(),(),()),((r1,r2,()),r3,(),(r4,()),r5,(),())))) v0 v1 v2 v3 v4 v5 v6 v7
def adO (n:Nat) (v:Cc.den):=jr n v.1.1 v.2.1.1.1 v.2.2.1 v.2.2.2.2.2.1.1 v.2.2.2.2.2.1.2.1 v.2.2.2.2.2.2.1 v.2.2.2.2.2.2.2.2.1.1 v.2.2.2.2.2.2.2.2.2.1
noncomputable def Oo:dI:=fU Si Cc Et EF (.exit 0) (adO bU) 18
def aim (x0:di):Option (di×Unit):=bM (aia x0) fun y0=>bM (qC bU y0.1 (bP y0.1) 0 x0 [] x0 x0 y0.1 [] []) fun y1=>dV y1 (fun a2=>bM (jr bU 0 a2.2.1.1.2.1 [] a2.2.2.1.1 a2.2.2.1.2.1 a2.2.2.2.1 a2.2.1.1.2.1 a2.2.2.2.2.2.1) fun y3=>dV y3 (fun a4=>bif(iq (ofBytes a4.2.2.1) [])then bif(bW (bP a4.2.2.2.2.2.2.2.2.2.1) (bP a4.2.2.2.2.2.2.2.2.2.1))then some ((ofBytes a4.2.2.2.2.2.2.2.2.2.1),())else none else bif(eQ (cu a4.2.2.2.2.2.2.2.2.2.1 (dM (ofBytes a4.2.2.1))) 1)then bif(bW (bP (cu a4.2.2.2.2.2.2.2.2.2.1 (dM (ofBytes a4.2.2.1)))) (bP (cu a4.2.2.2.2.2.2.2.2.2.1 (dM (ofBytes a4.2.2.1)))))then some ((ofBytes (cu a4.2.2.2.2.2.2.2.2.2.1 (dM (ofBytes a4.2.2.1)))),())else none else none) (fun b4=>bif(bW (bP b4.2.2.2.2.2.2.1) (bP b4.2.2.2.2.2.2.1))then some ((ofBytes b4.2.2.2.2.2.2.1),())else none)) (fun b2=>none)
def avL:Sum:=⟨[.str],tzI,fun x=>aim x.1⟩
noncomputable def DD:Env:=ed prog tt [(158,avm),(222,avx),(280,avR)] [(159,3,RZ),(219,4,Si),(224,5,Sj),(270,500004,axX),(270,600002,axG),(270,600004,axH),(270,600005,axI),(83,600001,agb),(219,600005,adg),(219,600016,Yl),(219,600017,Ym),(219,600019,Yn),(219,600010,Yk),(219,600020,Yo),(220,600003,adh),(224,600006,adi),(224,600016,Yp),(224,600007,adk),(224,600009,adl),(224,600020,Yq)] [(159,3,Om),(224,5,Oq),(219,4,Oo)] [270]
def OO {γ:Type} (a:Cb.den->Option γ) (b:Es.den->Option γ) (c:EE.den->Option γ) (v:Cb.den):Option γ:=yI (fun v0 v1 v2 v3 v4 v5 v6 v7 v8 v9=>a ((v0,v1,v2,()),((v3,v4,v5,()),(),()),((v6,v7,()),v8,(),v9,()))) (fun e0 e1 e2 e3 e4 e5 e6=>b ((),((e0,e1,e2,()),(),()),((e3,e4,()),e5,(),e6,()))) (fun r0 r1 r2 r3 r4 r5=>c ((),((r0,()),(),(),()),((r1,r2,()),r3,(),(r4,()),r5,(),()))) v.1.1 v.1.2.1 v.1.2.2.1 v.2.1.1.1 v.2.1.1.2.1 v.2.1.1.2.2.1 v.2.2.1.1 v.2.2.1.2.1 v.2.2.2.1 v.2.2.2.2.2.1
theorem aec:dX DD 159 QR Om:=lK (OO) (h2:=by intros;simp only[OO,yI,dm,dn,bK,cZ,dw])
def OT {γ:Type} (a:Ce.den->Option γ) (b:yz.den->Option γ) (c:yB.den->Option γ) (v:Ce.den):Option γ:=yK (fun v0 v1 v2 v3 v4 v5 v6 v7 v8 v9 v10 v11 v12 v13 v14 v15 v16 v17 v18 v19=>a ((v0,v1,v2,()),((v3,v4,v5,v6,()),(v7,()),(),(),()),(v8,(v9,v10,v11,v12,v13,()),v14,(),(),(v15,v16,()),v17,(),(v18,()),v19,(),()))) (fun e0 e1 e2 e3 e4 e5 e6 e7 e8 e9 e10 e11 e12 e13 e14 e15 e16 e17=>b ((e0,()),((e1,e2,e3,e4,()),(e5,()),(),(),()),(e6,(e7,e8,e9,e10,e11,()),e12,(),(),(e13,e14,()),e15,(),(e16,()),e17,(),()))) (fun r0 r1 r2 r3 r4 r5=>c ((),((r0,()),(),(),()),((r1,r2,()),r3,(),(r4,()),r5,(),()))) v.1.1 v.1.2.1 v.1.2.2.1 v.2.1.1.1 v.2.1.1.2.1 v.2.1.1.2.2.1 v.2.1.1.2.2.2.1 v.2.1.2.1.1 v.2.2.1 v.2.2.2.1.1 v.2.2.2.1.2.1 v.2.2.2.1.2.2.1 v.2.2.2.1.2.2.2.1 v.2.2.2.1.2.2.2.2.1 v.2.2.2.2.1 v.2.2.2.2.2.2.2.1.1 v.2.2.2.2.2.2.2.1.2.1 v.2.2.2.2.2.2.2.2.1 v.2.2.2.2.2.2.2.2.2.2.1.1 v.2.2.2.2.2.2.2.2.2.2.2.1
theorem aee:dX DD 224 QT Oq:=lK (OT) (h2:=by intros;simp only[OT,yK,dm,dn,bK,cZ,dw,fE,iT,ku,nz,nC])
def OQ {γ:Type} (a:Cc.den->Option γ) (b:Et.den->Option γ) (c:EF.den->Option γ) (v:Cc.den):Option γ:=yJ (fun v0 v1 v2 v3 v4 v5 v6 v7=>a ((v0,()),((v1,()),(),(),()),(v2,(),(),(v3,v4,()),v5,(),(v6,()),v7,(),()))) (fun e0 e1 e2 e3 e4 e5 e6=>b ((),((e0,()),(),(),()),(e1,(),(),(e2,e3,()),e4,(),(e5,()),e6,(),()))) (fun r0 r1 r2 r3 r4 r5=>c ((),((r0,()),(),(),()),((r1,r2,()),r3,(),(r4,()),r5,(),()))) v.1.1 v.2.1.1.1 v.2.2.1 v.2.2.2.2.2.1.1 v.2.2.2.2.2.1.2.1 v.2.2.2.2.2.2.1 v.2.2.2.2.2.2.2.2.1.1 v.2.2.2.2.2.2.2.2.2.1
theorem aed:dX DD 219 QS Oo:=lK (OQ) (h2:=by intros;simp only[OQ,yJ,dm,dn,bK,cZ,dw,dB,pM,jY,jZ,iO,tV,tX,tY,tZ,uf])
theorem aDu:jH Xl=[]:=by kernel_rfl
theorem aEW:jM Xl=[(cA (cA (cB (cA (cB (cB (Xl)))))),cB (cA (cB (cA (cB (cB (Xl)))))))]:=by kernel_rfl
theorem aDZ:dU DD 270 Xl:=qx Xl (by rw[aEW];exact(aD (fun _=>(show rC 270 4=some (cA (cA (cB (cA (cB (cB (Xl)))))),cB (cA (cB (cA (cB (cB (Xl))))))) by kernel_rfl)) aN)) (by rw[aDu];exact aN)
theorem ags:dU DD 159 QF:=qj [QR] (aD (fM (aec)) aN)
theorem agt:dU DD 219 QG:=qj [QS] (aD (fM (aed)) aN)
theorem agu:dU DD 224 QH:=qj [QT] (aD (fM (aee)) aN)
theorem amV:dK DD:=eB (aD aoU (aD ao5 (aD apq aN))) [270,159,219,224] (aD ⟨f270,Xl,by kernel_rfl,by kernel_rfl,aDZ⟩ (aD ⟨f159,QF,by kernel_rfl,by kernel_rfl,ags⟩ (aD ⟨f219,QG,by kernel_rfl,by kernel_rfl,agt⟩ (aD ⟨f224,QH,by kernel_rfl,by kernel_rfl,agu⟩ aN))))
theorem apj:dY prog 270 avL:=sA amV
def aic (x0:di) (x1:Int) (x2:Int×Bg×qM):Option ((Int×Bg×qM)×Unit):=bM (rP x2.2.1) fun y0=>bif(bW x1 1)then some ((x2.1,(y0.1,(false,()))),())else bif(bW x1 2)then some ((0,(y0.1,((iG 0 (bP y0.1)),()))),())else bif(bW x1 4)then bM (NY x0) fun y1=>bif(bW y1.1 4)then some ((y1.1,(y0.1,(false,()))),())else bif(bW y1.1 5)then some ((y1.1,(y0.1,(false,()))),())else some ((0,(y0.1,(false,()))),())else bif(bW x1 6)then bif(!(bW x2.1 0))then bM (aim x0) fun y1=>bif(iq x0 x0)then bif(bW x2.1 x2.1)then bif(jy (bW x2.1 5) (bW x2.1 5))then bif(((iq x0 x0)&&true)&&((iq y1.1 y1.1)&&true))then bif(eQ (cu y0.1 [(y1.1,((bW x2.1 5),()))]) 24)then bif(iq x0 x0)then bif(bW x2.1 x2.1)then bif(jy (bW x2.1 5) (bW x2.1 5))then bif((iq y1.1 y1.1)&&((jy (bW x2.1 5) (bW x2.1 5))&&true))then some ((0,((cu y0.1 [(y1.1,((bW x2.1 5),()))]),(false,()))),())else none else none else none else none else none else none else none else none else none else some ((0,(y0.1,(false,()))),())else some ((0,(y0.1,(false,()))),())
def avt:Sum:=⟨[.str,dD,.pair dD tyL],[(.pair dD tyL,false)],fun x=>aic x.1 x.2.1 x.2.2.1⟩
noncomputable def aB7:Env:=gp prog tt 212 [(227,abJ),(262,yN),(270,avL)] [] []
theorem amk:dK aB7:=eA f212 (aD NE (aD xE (aD apj aN)))
theorem ao1:dY prog 212 avt:=sA amk
def XP (x2:Int×Bg×qM):Option taS:=bif((bW x2.1 x2.1)&&((nV CX x2.2.1 x2.2.1)&&((jy x2.2.2.1 x2.2.2.1)&&true)))then some ((0,(0,(0,(false,())))),((x2.1,(x2.2.1,(x2.2.2.1,()))),()))else none
def XQ (x0:di) (x1:Int) (x2:Int×Bg×qM):Option taS:=bM (aib x0 x1) fun y0=>bif(gm (bP x0) y0.1.2.1 y0.1.2.2.1)then bM (aic (sub x0 y0.1.2.1 y0.1.2.2.1) y0.1.1 (x2.1,(x2.2.1,(x2.2.2.1,())))) fun y1=>bif((bW y0.1.1 y0.1.1)&&((bW y0.1.2.1 y0.1.2.1)&&((bW y0.1.2.2.1 y0.1.2.2.1)&&((jy y0.1.2.2.2.1 y0.1.2.2.2.1)&&true))))then bif(iq x0 x0)then bif(bW y0.1.2.1 y0.1.2.1)then bif(bW y0.1.2.2.1 y0.1.2.2.1)then bif(iq x0 x0)then bif(bW y0.1.2.1 y0.1.2.1)then bif(bW y0.1.2.2.1 y0.1.2.2.1)then bif(gm (bP x0) y0.1.2.1 y0.1.2.2.1)then bif(iq (sub x0 y0.1.2.1 y0.1.2.2.1) (sub x0 y0.1.2.1 y0.1.2.2.1))then bif(bW y0.1.1 y0.1.1)then bif((bW x2.1 x2.1)&&((nV CX x2.2.1 x2.2.1)&&((jy x2.2.2.1 x2.2.2.1)&&true)))then some ((y0.1.1,(y0.1.2.1,(y0.1.2.2.1,(y0.1.2.2.2.1,())))),((y1.1.1,(y1.1.2.1,(y1.1.2.2.1,()))),()))else none else none else none else none else none else none else none else none else none else none else none else none
def ah7 (x0:di) (x1:Int) (x2:Int×Bg×qM):Option taS:=bif(iG x1 0)then XP x2 else bif(leI (bP x0) x1)then XP x2 else bif x2.2.2.1 then bif(iG 0 (bP x2.2.1))then bM (aso x0 x1 (x2.1,(x2.2.1,(x2.2.2.1,())))) fun y0=>some ((y0.1.1,(y0.1.2.1,(y0.1.2.2.1,(y0.1.2.2.2.1,())))),((y0.2.1.1,(y0.2.1.2.1,(y0.2.1.2.2.1,()))),()))else XQ x0 x1 x2 else XQ x0 x1 x2
def avf:Sum:=⟨[.str,dD,.pair dD tyL],tzH,fun x=>ah7 x.1 x.2.1 x.2.2.1⟩
noncomputable def aBP:Env:=gp prog tt 146 [(210,avr),(211,avs),(212,avt)] [] []
theorem alS:dK aBP:=eA f146 (aD aoZ (aD ao0 (aD ao1 aN)))
theorem aoN:dY prog 146 avf:=sA alS
noncomputable def b59:Code:=(f59.body).getD .skip
noncomputable def Xm:Code:=(f183.body).getD .skip
noncomputable def Vx:Code:=cA (cA (cB (cB (cB (Xm)))))
def VV:dZ:=⟨[0,1,3,4,5,184000003],[(100000501,.pair (.list .unit) (.pair .unit CX)),(300000301,.pair (.list .unit) (.pair .unit CX))],[],[],[],[]⟩
def aDq:dZ:=⟨[2,3,4,5],[],[],[],[],[]⟩
def aDm:dZ:=⟨[0,2,3,4,5],[],[],[],[],[]⟩
def agc:dZ:=⟨[0,1,3,4],[],[],[],[],[]⟩
def F9:SQ:=⟨us [.yld 1700010,.ptr 2000001 0,.u,.ptr 3000003 0,.ptr 3000004 0,.v dD] 18,[us [.u,.u,.nils,.ptr 1000003 0,.ptr 1000004 0,.ptr 1000005 0] 13,[.yld 1700010],[]],[.box 3000004 46 [.v dD,.v dD,.v dD,.v .bool],.box 3000003 91 [.v dD,.v (.list CX),.v .bool],.box 2000001 9 [.v .str],.lp 1700010 59 (us [.u,.u,.nils,.ptr 1000003 0,.ptr 1000004 0,.ptr 1000005 0] 13) [10,11] 6 0 none,.arr 1500004 UM,.box 1000005 91 [.v dD,.v (.list CX),.v .bool],.box 1000004 42 [.slc 1500004],.box 1000003 91 [.v dD,.nils,.v .bool]]⟩
def Iz:SQ:=⟨us [] 24,[us [.u,.u,.nils,.ptr 1000003 0,.ptr 1000004 0,.ptr 1000005 0] 13,[.yld 1700010],[]],[.box 2000001 9 [.v .str],.lp 1700010 59 (us [.u,.u,.nils,.ptr 1000003 0,.ptr 1000004 0,.ptr 1000005 0] 13) [10,11] 6 0 none,.arr 1500004 UM,.box 1000005 91 [.v dD,.v (.list CX),.v .bool],.box 1000004 42 [.slc 1500004],.box 1000003 91 [.v dD,.nils,.v .bool]]⟩
def IC:SQ:=⟨us [] 24,[us [.u,.u,.nils,.ptr 1000003 0,.ptr 1000004 0,.ptr 1000005 0] 13,[.yld 1700010],[]],[]⟩
def CU {γ:Type} (rec:Int->Int->Int->Int->Bool->Int->Bg->Bool->di->(List Bf)->Int->Bg->Bool->Int->Bool->Option γ) (kE:di->(List Bf)->Int->Bg->Bool->Int->Bool->Option γ) (kR:Option γ) (v0 v1 v2 v3:Int) (v4:Bool) (v5:Int) (v6:Bg) (v7:Bool) (v8:di) (v9:List Bf) (v10:Int) (v11:Bg) (v12:Bool) (v13:Int) (v14:Bool):Option γ:=bif(iG v0 (bP v8))then bM (ah7 v8 v0 (v5,(v6,(v7,())))) fun y0=>bif((bW y0.2.1.1 y0.2.1.1)&&((nV CX y0.2.1.2.1 y0.2.1.2.1)&&((jy y0.2.1.2.2.1 y0.2.1.2.2.1)&&true)))then bif(eQ (cu v9 [(y0.1.1,(y0.1.2.1,(y0.1.2.2.1,(y0.1.2.2.2.1,()))))]) 32)then bif((bW y0.1.1 y0.1.1)&&((bW y0.1.2.1 y0.1.2.1)&&((bW y0.1.2.2.1 y0.1.2.2.1)&&((jy y0.1.2.2.2.1 y0.1.2.2.2.1)&&true))))then bif((bW y0.2.1.1 y0.2.1.1)&&((nV CX y0.2.1.2.1 y0.2.1.2.1)&&((jy y0.2.1.2.2.1 y0.2.1.2.2.1)&&true)))then bif((bW y0.2.1.1 y0.2.1.1)&&((nV CX y0.2.1.2.1 y0.2.1.2.1)&&((jy y0.2.1.2.2.1 y0.2.1.2.2.1)&&true)))then rec y0.1.2.2.1 y0.1.1 y0.1.2.1 y0.1.2.2.1 y0.1.2.2.2.1 y0.2.1.1 y0.2.1.2.1 y0.2.1.2.2.1 v8 (cu v9 [(y0.1.1,(y0.1.2.1,(y0.1.2.2.1,(y0.1.2.2.2.1,()))))]) y0.2.1.1 y0.2.1.2.1 y0.2.1.2.2.1 v13 v14 else none else none else none else none else none else kE v8 v9 v10 v11 v12 v13 v14
def rY:Nat->Int->Int->Int->Int->Bool->Int->Bg->Bool->di->(List Bf)->Int->Bg->Bool->Int->Bool->Option (Iz.den⊕IC.den)
 |0,_,_,_,_,_,_,_,_,_,_,_,_,_,_,_=>none
 |n+1,v0,v1,v2,v3,v4,v5,v6,v7,v8,v9,v10,v11,v12,v13,v14=>CU (rY n) (fun e0 e1 e2 e3 e4 e5 e6=>some (.inl ((),((),(),(),()),((e0,()),(),e1,(e2,e3,e4,()),(),(e5,e6,()),())))) (some (.inr ((),((),(),(),()),()))) v0 v1 v2 v3 v4 v5 v6 v7 v8 v9 v10 v11 v12 v13 v14
def agB (n:Nat) (v:F9.den):=rY n v.1.1 v.2.2.1.1 v.2.2.1.2.1 v.2.2.1.2.2.1 v.2.2.1.2.2.2.1 v.2.2.2.1.1 v.2.2.2.1.2.1 v.2.2.2.1.2.2.1 v.2.2.2.2.1.1 v.2.2.2.2.2.2.1 v.2.2.2.2.2.2.2.1.1 v.2.2.2.2.2.2.2.1.2.1 v.2.2.2.2.2.2.2.1.2.2.1 v.2.2.2.2.2.2.2.2.2.1.1 v.2.2.2.2.2.2.2.2.2.1.2.1
noncomputable def SE:dI:=fU VV F9 Iz IC (.exit 0) (agB bU) 6
def axf (x0:di):Option ((List Bf)×(Int×Bg×qM)×Unit):=bM (rY bU 0 0 0 0 false 0 [] false x0 [] 0 [] false 0 false) fun y0=>dV y0 (fun a1=>some (a1.2.2.2.2.1,((a1.2.2.2.2.2.1.1,(a1.2.2.2.2.2.1.2.1,(a1.2.2.2.2.2.1.2.2.1,()))),()))) (fun b1=>none)
def awj:Sum:=⟨[.str],[(.list UM,false),(.pair dD tyL,false)],fun x=>axf x.1⟩
noncomputable def ahY:Env:=ed prog tt [(146,avf)] [(183,3,VV),(59,500006,aDq),(59,600003,aDm),(183,600006,agc)] [(183,3,SE)] [59]
def TQ {γ:Type} (a:F9.den->Option γ) (b:Iz.den->Option γ) (c:IC.den->Option γ) (v:F9.den):Option γ:=CU (fun v0 v1 v2 v3 v4 v5 v6 v7 v8 v9 v10 v11 v12 v13 v14=>a ((v0,()),((),(),(),()),((v1,v2,v3,v4,()),(v5,v6,v7,()),(v8,()),(),v9,(v10,v11,v12,()),(),(v13,v14,()),()))) (fun e0 e1 e2 e3 e4 e5 e6=>b ((),((),(),(),()),((e0,()),(),e1,(e2,e3,e4,()),(),(e5,e6,()),()))) (c ((),((),(),(),()),())) v.1.1 v.2.2.1.1 v.2.2.1.2.1 v.2.2.1.2.2.1 v.2.2.1.2.2.2.1 v.2.2.2.1.1 v.2.2.2.1.2.1 v.2.2.2.1.2.2.1 v.2.2.2.2.1.1 v.2.2.2.2.2.2.1 v.2.2.2.2.2.2.2.1.1 v.2.2.2.2.2.2.2.1.2.1 v.2.2.2.2.2.2.2.1.2.2.1 v.2.2.2.2.2.2.2.2.2.1.1 v.2.2.2.2.2.2.2.2.2.1.2.1
theorem agE:dX ahY 183 Vx SE:=lK (TQ) (h2:=by intros;simp only[TQ,CU,dm,dn,bK,cZ,dw])
theorem aF6:jH b59=[]:=by kernel_rfl
theorem aGt:jM b59=[(cA (cA (cB (cA (cB (cB (cB (b59))))))),cB (cA (cB (cA (cB (cB (cB (b59))))))))]:=by kernel_rfl
theorem aGe:dU ahY 59 b59:=qx b59 (by rw[aGt];exact(aD (fun _=>(show rC 59 6=some (cA (cA (cB (cA (cB (cB (cB (b59))))))),cB (cA (cB (cA (cB (cB (cB (b59)))))))) by kernel_rfl)) aN)) (by rw[aF6];exact aN)
theorem aoj:dU ahY 183 Xm:=qj [Vx] (aD (fM (agE)) aN)
theorem aro:dK ahY:=eB (aD aoN aN) [59,183] (aD ⟨f59,b59,by kernel_rfl,by kernel_rfl,aGe⟩ (aD ⟨f183,Xm,by kernel_rfl,by kernel_rfl,aoj⟩ aN))
theorem aeM:dY prog 59 awj:=sA aro
def ah3 (x0:di) (x1:Bf):Option (di×Unit):=bif(iG x1.2.1 0)then some ([],())else bif(iG x1.2.2.1 x1.2.1)then some ([],())else bif(iG (bP x0) x1.2.2.1)then some ([],())else bif(gm (bP x0) x1.2.1 x1.2.2.1)then some ((sub x0 x1.2.1 x1.2.2.1),())else none
def au9:Sum:=⟨[.str,UM],tzI,fun x=>ah3 x.1 x.2.1⟩
noncomputable def aBJ:Env:=gp prog tt 117 [] [] []
theorem alG:dK aBJ:=eA f117 aN
theorem aoH:dY prog 117 au9:=sA alG
noncomputable def b60:Code:=(f60.body).getD .skip
noncomputable def az5:Code:=cA (cA (cB (cA (cB (b60)))))
def aAm:dZ:=⟨[0,4,7,8,9,100002],[(4,tyD)],[4],[],[4],[(4,tyD)]⟩
def ajP:SP:=⟨us [.v .str,.u,.u,.u,.slc 1800004,.u,.u,.v (.list UM),.v dD,.v dD] 42,[.arr 1800004 tyD]⟩
def agM:SP:=⟨us [.u,.u,.u,.u,.slc 1800004] 47,[.arr 1800004 tyD]⟩
def agX:SP:=⟨us [.u,.u,.u,.u,.v oU] 47,[]⟩
def eH (v1:List Bf) (v3:Int):=fZ v1 (0,(0,(0,(false,())))) v3
def uK (v1:List Bf) (v3:Int):=bW (eH v1 v3).2.2.1 (eH v1 v3).2.2.1
def AZ {γ:Type} (v0:di) (v1:List Bf) (v3:Int) (v4:List gU) (rec:di->(List Bf)->Int->Int->(List gU)->Option γ) (v2:Int):Option γ:=bM (ah3 v0 ((eH v1 v3).1,((eH v1 v3).2.1,((eH v1 v3).2.2.1,((eH v1 v3).2.2.2.1,()))))) fun y0=>bif(bW (eH v1 v3).1 (eH v1 v3).1)then bif(iq v0 v0)then bif((bW (eH v1 v3).1 (eH v1 v3).1)&&((bW (eH v1 v3).2.1 (eH v1 v3).2.1)&&((uK v1 v3)&&((jy (eH v1 v3).2.2.2.1 (eH v1 v3).2.2.2.1)&&true))))then bif(bW (eH v1 v3).2.1 (eH v1 v3).2.1)then bif(uK v1 v3)then bif(((iq v0 v0)&&(((bW (eH v1 v3).1 (eH v1 v3).1)&&((bW (eH v1 v3).2.1 (eH v1 v3).2.1)&&((uK v1 v3)&&((jy (eH v1 v3).2.2.2.1 (eH v1 v3).2.2.2.1)&&true))))&&true))&&((iq y0.1 y0.1)&&true))then bif(eQ (cu v4 [((eH v1 v3).1,(y0.1,((eH v1 v3).2.1,((eH v1 v3).2.2.1,()))))]) 40)then bif(bW (eH v1 v3).1 (eH v1 v3).1)then bif(iq v0 v0)then bif((bW (eH v1 v3).1 (eH v1 v3).1)&&((bW (eH v1 v3).2.1 (eH v1 v3).2.1)&&((uK v1 v3)&&((jy (eH v1 v3).2.2.2.1 (eH v1 v3).2.2.2.1)&&true))))then bif(bW (eH v1 v3).2.1 (eH v1 v3).2.1)then bif(uK v1 v3)then bif((bW (eH v1 v3).1 (eH v1 v3).1)&&((iq y0.1 y0.1)&&((bW (eH v1 v3).2.1 (eH v1 v3).2.1)&&((uK v1 v3)&&true))))then rec v0 v1 v2 (dA .i64 v3 1) (cu v4 [((eH v1 v3).1,(y0.1,((eH v1 v3).2.1,((eH v1 v3).2.2.1,()))))])else none else none else none else none else none else none else none else none else none else none else none else none else none
def abn {γ:Type} (rec:di->(List Bf)->Int->Int->(List gU)->Option γ) (kE kR:(List gU)->Option γ) (v0:di) (v1:List Bf) (v2 v3:Int) (v4:List gU):Option γ:=bif(iG v3 v2)then bif(gV v1 v3)then bif(iG (eH v1 v3).2.1 0)then rec v0 v1 v2 (dA .i64 v3 1) v4 else bif(iG (eH v1 v3).2.2.1 (eH v1 v3).2.1)then rec v0 v1 v2 (dA .i64 v3 1) v4 else bif(iG (bP v0) (eH v1 v3).2.2.1)then rec v0 v1 v2 (dA .i64 v3 1) v4 else bif(bW (eH v1 v3).1 4)then bif(bW (eH v1 v3).1 4)then AZ v0 v1 v3 v4 rec v2 else rec v0 v1 v2 (dA .i64 v3 1) v4 else bif(bW (eH v1 v3).1 5)then bif(bW (eH v1 v3).1 5)then AZ v0 v1 v3 v4 rec v2 else rec v0 v1 v2 (dA .i64 v3 1) v4 else bif(bW (eH v1 v3).1 6)then bif(bW (eH v1 v3).1 6)then AZ v0 v1 v3 v4 rec v2 else rec v0 v1 v2 (dA .i64 v3 1) v4 else bif(bW (eH v1 v3).1 2)then AZ v0 v1 v3 v4 rec v2 else rec v0 v1 v2 (dA .i64 v3 1) v4 else none else kE v4
def D7:Nat->di->(List Bf)->Int->Int->(List gU)->Option (agM.den⊕agX.den)
 |0,_,_,_,_,_=>none
 |n+1,v0,v1,v2,v3,v4=>abn (D7 n) (fun e0=>some (.inl ((),(e0,())))) (fun r0=>some (.inr ((r0,()),()))) v0 v1 v2 v3 v4
def aEm (n:Nat) (v:ajP.den):=D7 n v.1.1 v.1.2.1 v.1.2.2.1 v.1.2.2.2.1 v.2.1
noncomputable def atX:dI:=gQ aAm ajP agM agX (.exit 0) (aEm bU) 6
def axg (x0:di) (x1:List Bf):Option ((List gU)×Unit):=bM (D7 bU x0 x1 (bP x1) 0 []) fun y0=>dV y0 (fun a1=>some (a1.2.1,())) (fun b1=>some (b1.1.1,()))
def awk:Sum:=⟨[.str,.list UM],[(.list tyD,false)],fun x=>axg x.1 x.2.1⟩
noncomputable def arp:Env:=gp prog tt 60 [(117,au9)] [(2,aAm)] [(2,atX)]
def auM {γ:Type} (a:ajP.den->Option γ) (b:agM.den->Option γ) (c:agX.den->Option γ) (v:ajP.den):Option γ:=abn (fun v0 v1 v2 v3 v4=>a ((v0,v1,v2,v3,()),(v4,()))) (fun e0=>b ((),(e0,()))) (fun r0=>c ((r0,()),())) v.1.1 v.1.2.1 v.1.2.2.1 v.1.2.2.2.1 v.2.1
theorem aEG:dX arp 60 az5 atX:=Bi (auM) (h2:=by intros;simp only[auM,abn,dm,dn,bK,cZ,dw,eH,uK,AZ])
theorem aGf:dU arp 60 b60:=qj [az5] (aD (fM (aEG)) aN)
theorem arq:dK arp:=eA f60 (aD aoH aN) (aGf)
theorem aeN:dY prog 60 awk:=sA arq
end
section
open Bool renaming not_true → aB, not_false → aG
open Int renaming toNat_natCast → aP
open List renaming length_append → ae, append_assoc → ag, length_cons → ak, nil_append → aH, drop_of_length_le → aI, length_take → aJ, append_nil → aK, drop_eq_getElem_cons → aO, drop_zero → aX, length_nil → aY
open Go.RowKit
theorem ali (t:di):(dM t).length=t.length:=by simp[dM]
theorem MO (t:di):ofBytes (dM t)=t:=by simp[ofBytes,dM,Function.comp_def]
theorem wB (a b:di):cu (dM a) (dM b)=dM (a++b):=by simp[cu,dM]
theorem abV {s:List UInt8} {i:Int} (h0:0<=i) (h:i<s.length):[cO s i]=dM (sub s i (i+1)):=by
 obtain⟨n,rfl⟩:=Int.eq_ofNat_of_zero_le h0;have hn:n<s.length:=by omega
 rw[show(n:Int)+1=((n+1:Nat):Int) by omega,A8,aO hn,List.take_succ_cons,List.take_zero,byte_at hn];rfl
theorem alm (M:List uM) (a b c:Int):qF (uV M a b) c=if c=a then b else qF M c:=by
 unfold qF
 induction M with
 |nil=>
  unfold uV Ec;by_cases h:c=a
  ·rw[bZ (fV h),if_pos h]
  ·rw[dE (dW h),if_neg h];rfl
 |cons e M ih=>
  obtain⟨k,v⟩:=e;unfold uV;by_cases h1:a=k
  ·rw[bZ (fV h1)];subst h1;unfold Ec;by_cases h:c=a
   ·rw[bZ (fV h),if_pos h]
   ·rw[dE (dW h),if_neg h,dE (dW h)]
  ·rw[dE (dW h1)];unfold Ec;by_cases h:c=k
   ·rw[bZ (fV h),bZ (fV h),if_neg (by omega)]
   ·rw[dE (dW h),dE (dW h)];exact ih
def OA (M:List uM):Nat->List kS->List uM
 |_,[]=>M
 |k,p::l=>OA (uV M p.2.1 ((k+1:Nat):Int)) (k+1) l
theorem II (c:Int): ∀(l:List kS) (M:List uM) (k:Nat),l.Pairwise (fun p q=>p.2.1<q.2.1)->
  (wW l c=none/\qF (OA M k l) c=qF M c)\/(∃p,wW l c=some p/\ ∃j,l[j]? =some p/\qF (OA M k l) c=((k+j+1:Nat):Int))
 |[],M,k,_=>.inl ⟨rfl,rfl⟩
 |p::l,M,k,h=>by
  obtain⟨h1,h2⟩:=List.pairwise_cons.1 h;have ih:=II c l (uV M p.2.1 ((k+1:Nat):Int)) (k+1) h2;rw[OA];unfold wW at*;rw[List.find?_cons];by_cases e:p.2.1=c
  ·rw[show(p.2.1==c)=true by simpa using e];refine .inr ⟨p,rfl,0,rfl, ?_⟩;rcases ih with ⟨i1,i2⟩|⟨q,i1,j,i2,i3⟩
   ·rw[i2,alm,if_pos e.symm]
   ·have:=h1 q (List.mem_of_getElem? i2);have hq:=List.find?_some i1;simp only[beq_iff_eq]at hq;omega
  ·rw[show(p.2.1==c)=false by simpa using e];rcases ih with ⟨i1,i2⟩|⟨q,i1,j,i2,i3⟩
   ·exact .inl ⟨i1,by rw[i2,alm,if_neg (fun h=>e h.symm)]⟩
   ·exact .inr ⟨q,i1,j+1,i2,by rw[i3];congr 1;omega⟩
def O6 (s:di):List uM:=OA [] 0 (dh s)
theorem ad1 {s:List UInt8} {c:Int} (h:wW (dh s) c=none):qF (O6 s) c=0:=by
 rcases II c (dh s) [] 0 (Wj s)with ⟨_,h2⟩|⟨p,h1,_⟩
 ·exact h2
 ·rw[h]at h1;cases h1
theorem ad2 {s:List UInt8} (hs:s.length<=10000) {c:Int} {p:kS} (h:wW (dh s) c=some p):
  bW (qF (O6 s) c) 0=false/\gV (dh s) (eG .i64 (qF (O6 s) c) 1)=true/\fZ (dh s) (0,(0,(0,(0,(false,()))))) (eG .i64 (qF (O6 s) c) 1)=p:=by
 rcases II c (dh s) [] 0 (Wj s)with ⟨h1,_⟩|⟨q,h1,j,h2,h3⟩
 ·rw[h]at h1;cases h1
 ·rw[h]at h1;cases h1;obtain⟨hj,hv⟩:=List.getElem?_eq_some_iff.1 h2;have hl:=Cj s;unfold O6;rw[h3,iJ (by omega) (by omega),show((0+j+1:Nat):Int)-1=(j:Int) by omega];refine⟨dW (by omega),eP (by omega) (by omega), ?_⟩;unfold fZ;rw[aP,List.getD_eq_getElem?_getD,h2];rfl
theorem Wv (L:List kS) (hl:L.length<1000000) (a b c d:di) (e:List kS) (f:List Int): ∀(N k:Nat) (M:List uM),L.length-k<N->k<=L.length->
  qC N L (bP L) (k:Int) a b c d e M f=some (.inl ((),((a,b,c,()),(),()),((d,e,()),OA M k (L.drop k),(),f,())))
 |0,k,M,h,_=>by omega
 |N+1,k,M,h,hk=>by
  rw[qC,yI];by_cases e1:k<L.length
  ·have hg:fZ L (0,(0,(0,(0,(false,()))))) (k:Int)=L[k]:=by
    unfold fZ;rw[aP,List.getD_eq_getElem?_getD,List.getElem?_eq_getElem e1];rfl
   rw[bZ (fH (by rw[bT];omega)),bZ (eP (by omega) (by omega)),hg,dC (by omega) (by omega),show(k:Int)+1=((k+1:Nat):Int) by omega,
    Wv L hl a b c d e f N (k+1) _ (by omega) (by omega),aO e1,OA]
  ·rw[dE (iy (by rw[bT];omega)),aI (by omega)];rfl
theorem atI {p:kS} (h0:0<=p.2.1) (h1:p.2.1<1000000):acF (p.1,(p.2.1,(p.2.2.1,(p.2.2.2.1,(p.2.2.2.2.1,())))))=some (lone p,()):=by
 rw[acF,lone];simp only;rw[dC (by omega) (by omega)];by_cases h:p.1=12
 ·rw[bZ (fV h)];by_cases h2:p.2.2.1=p.2.1+1
  ·rw[fV h2];simp[h,h2]
  ·rw[dW h2];simp[h2]
 ·rw[dE (dW h)];simp[h]
theorem ac2 {s:List UInt8} (hs:s.length<=10000) {p:kS} (pf:PF s p) (h:p.1=4\/p.1=5):
  aio (p.1,(p.2.1,(p.2.2.1,(p.2.2.2.1,(p.2.2.2.2.1,())))))=some (p.2.1+1,(wS p,())):=by
 have h0:=pf.f0;have h1:=pf.f1;have h2:=pf.t0;have h3:=pf.t1;have h4:=pf.sh;obtain⟨m,f,t,u,o,⟨⟩⟩:=p;have hb:aio (m,(f,(t,(u,(o,())))))=bif o then some (dA .i64 f 1,(BQ (eG .i64 t 0) (dA .i64 f 1),()))else some (dA .i64 f 1,(BQ (eG .i64 t 1) (dA .i64 f 1),())):=by
  rcases h with h|h
  ·simp only at h;subst h;rfl
  ·simp only at h;subst h;rfl
 simp only at h0 h1 h2 h3 h4 h ⊢;rw[hb];unfold wS BQ;cases o with
 |true=>rw[cond_true,dC (by omega) (by omega),iJ (by omega) (by omega),Int.sub_zero,if_neg (by omega)];rfl
 |false=>
  have:=h4 rfl (by omega);rw[cond_false,dC (by omega) (by omega),iJ (by omega) (by omega),if_neg (by omega)];rfl
theorem Ju {a:List UInt8} (h:a.length<=140737488355328):eQ (dM a) 1=true:=qQ (by rw[ali];omega)
theorem V8 (h:di):(h=[]/\bP (dM h)=0)\/(h≠[]/\0<bP (dM h)):=by
 rw[bT,ali];cases h with
 |nil=>exact .inl ⟨rfl,rfl⟩
 |cons a l=>refine .inr ⟨List.cons_ne_nil _ _, ?_⟩;rw[ak];omega
theorem LJ (s:di) (hs:s.length<=10000) {to_:Int} (hto:to_<=s.length) (B:Int) (hB:B<=10000000000000) (w3:Int) (w4 w5:Bool) (w6:kS) (w7:di) (w9 w10 w11 w12:Int) (w13:Bool) (w14:List Int) (w18:di):
  ∀(N:Nat) (at_:Int) (ex:Bool) (h o:di),0<N->to_-at_<N->0<=at_->at_<=s.length->(o.length:Int)+h.length<=B+10000*at_->
  ∃ex' h' o',kY N to_ ex at_ w3 w4 w5 w6 w7 (dM h) w9 w10 w11 w12 w13 w14 s (dh s) (O6 s) w18 (dM o)=
   some (.inl ((ex',()),((w3,w4,w5,w6,()),(w7,()),(),(),()),(dM h',(w9,w10,w11,w12,w13,()),w14,(),(),(s,dh s,()),O6 s,(),(w18,()),dM o',(),())))/\
   o'++h'=o++h++rU s (dh s) to_ N at_/\(o'.length:Int)+h'.length<=B+10000*s.length
 |0,at_,ex,h,o,hN,_,_,_,_=>by omega
 |N+1,at_,ex,h,o,hN,hlt,h0,h1,hh=>by
  (rewrite [kY,yK];delta nC nz ku iT fE;rw[rU])
  by_cases e:at_<to_
  ·have hup:= @Ug s at_;have hsl:=Nl s (dh s) at_;have keep: ∀(c:di) (nx:Int),c=(iQ s (dh s) at_).2.1->nx=(iQ s (dh s) at_).1->nx<=s.length->
     ∃ex' h' o',(bif eQ (dM (h++c)) 1 then kY N to_ ex nx w3 w4 w5 w6 w7 (dM (h++c)) w9 w10 w11 w12 w13 w14 s (dh s) (O6 s) w18 (dM o)else none)=
      some (.inl ((ex',()),((w3,w4,w5,w6,()),(w7,()),(),(),()),(dM h',(w9,w10,w11,w12,w13,()),w14,(),(),(s,dh s,()),O6 s,(),(w18,()),dM o',(),())))/\
      o'++h'=o++h++((iQ s (dh s) at_).2.1++rU s (dh s) to_ N (iQ s (dh s) at_).1)/\(o'.length:Int)+h'.length<=B+10000*s.length:=by
    intro c nx hc hnx hle;subst hc hnx;rw[bZ (Ju (by rw[ae];omega))];obtain⟨ex',h',o',r1,r2,r3⟩:=LJ s hs hto B hB w3 w4 w5 w6 w7 w9 w10 w11 w12 w13 w14 w18 N (iQ s (dh s) at_).1 ex (h++(iQ s (dh s) at_).2.1) o (by omega) (by omega) (by omega) hle (by rw[ae];omega);refine⟨ex',h',o',r1, ?_,r3⟩;rw[r2];simp only[ag]
   have push: ∀(l:di) (nx:Int),l=o++h++(iQ s (dh s) at_).2.1->nx=(iQ s (dh s) at_).1->nx<=s.length->
     ∃ex' h' o',(bif eQ (dM l) 1 then kY N to_ true nx w3 w4 w5 w6 w7 [] w9 w10 w11 w12 w13 w14 s (dh s) (O6 s) w18 (dM l)else none)=
      some (.inl ((ex',()),((w3,w4,w5,w6,()),(w7,()),(),(),()),(dM h',(w9,w10,w11,w12,w13,()),w14,(),(),(s,dh s,()),O6 s,(),(w18,()),dM o',(),())))/\
      o'++h'=o++h++((iQ s (dh s) at_).2.1++rU s (dh s) to_ N (iQ s (dh s) at_).1)/\(o'.length:Int)+h'.length<=B+10000*s.length:=by
    intro l nx hl hnx hle;subst hl hnx;rw[bZ (Ju (by simp only[ae];omega))];obtain⟨ex',h',o',r1,r2,r3⟩:=LJ s hs hto B hB w3 w4 w5 w6 w7 w9 w10 w11 w12 w13 w14 w18 N (iQ s (dh s) at_).1 true [] (o++h++(iQ s (dh s) at_).2.1) (by omega) (by omega) (by omega) hle (by simp only[ae,aY];omega);refine⟨ex',h',o',r1, ?_,r3⟩;rw[r2];simp only[ag,aK]
   have ha1:dA .i64 at_ 1=at_+1:=dC (by omega) (by omega);rw[bZ (fH e),if_pos e];cases hf:wW (dh s) at_ with
   |none=>
    have hst:iQ s (dh s) at_=(at_+1,sub s at_ (at_+1),false):=by unfold iQ;rw[hf]
    rw[ad1 hf,show bW 0 0=true from rfl,cond_true,bZ (eP h0 (by omega)),abV h0 (by omega),wB,ha1];exact keep _ _ (by rw[hst]) (by rw[hst]) (by omega)
   |some p=>
    obtain⟨pf,hpe⟩:=wX hf;have t0:=pf.t0;have t1:=pf.t1;obtain⟨m1,m2,m3⟩:=ad2 hs hf;rw[m1,cond_false,m2,cond_true];simp only[m3];rw[atI pf.f0 (by omega),bK];by_cases hlone:lone p=true
    ·have hst:iQ s (dh s) at_=(at_+1,sub s at_ (at_+1),false):=by unfold iQ;rw[hf];simp only;rw[if_pos hlone]
     rw[hlone,cond_true,bZ (eP h0 (by omega)),abV h0 (by omega),wB,ha1];exact keep _ _ (by rw[hst]) (by rw[hst]) (by omega)
    ·rw[show lone p=false by simpa using hlone,cond_false];have hs2:eG .i64 p.2.2.1 p.2.1=p.2.2.1-p.2.1:=iJ (by omega) (by omega);have ha2:dA .i64 p.2.1 1=p.2.1+1:=dC (by omega) (by omega);simp only[hs2,ha2,wB];by_cases h13:p.1=13
     ·have hes:=pf.es h13;have hst:iQ s (dh s) at_=(p.2.2.1,UT s p,false):=by unfold iQ;rw[hf];simp only;rw[if_neg hlone,if_pos h13]
      rw[bZ (fV h13)];by_cases hto2:p.2.2.1=p.2.1+2
      ·rw[dE (kZ (by omega)),bZ (eP (by omega) (by omega))];have hesc:UT s p=(if cO s (p.2.1+1)=36\/cO s (p.2.1+1)=96\/cO s (p.2.1+1)=34\/cO s (p.2.1+1)=92 then sub s (p.2.1+1) p.2.2.1
         else if cO s (p.2.1+1)=10 then []else nY s p):=by
        unfold UT;rw[if_pos hto2]
       have hone:ofBytes [cO s (p.2.1+1)]=sub s (p.2.1+1) p.2.2.1:=by
        rw[abV (by omega) (by omega),MO,show p.2.1+1+1=p.2.2.1 by omega]
       simp only[hone];by_cases b1:cO s (p.2.1+1)=36
       ·simp only[fV b1,cond_true];exact keep _ _ (by rw[hst,hesc,if_pos (.inl b1)]) (by rw[hst]) (by omega)
       ·rw[dE (dW b1)];by_cases b2:cO s (p.2.1+1)=96
        ·simp only[fV b2,cond_true];exact keep _ _ (by rw[hst,hesc,if_pos (.inr (.inl b2))]) (by rw[hst]) (by omega)
        ·rw[dE (dW b2)];by_cases b3:cO s (p.2.1+1)=34
         ·simp only[fV b3,cond_true];exact keep _ _ (by rw[hst,hesc,if_pos (.inr (.inr (.inl b3)))]) (by rw[hst]) (by omega)
         ·rw[dE (dW b3)];by_cases b4:cO s (p.2.1+1)=92
          ·simp only[fV b4,cond_true];exact keep _ _ (by rw[hst,hesc,if_pos (.inr (.inr (.inr b4)))]) (by rw[hst]) (by omega)
          ·rw[dE (dW b4)];have hno: ¬(cO s (p.2.1+1)=36\/cO s (p.2.1+1)=96\/cO s (p.2.1+1)=34\/cO s (p.2.1+1)=92):=by omega
           by_cases b5:cO s (p.2.1+1)=10
           ·rw[bZ (fV b5)];exact keep _ _ (by rw[hst,hesc,if_neg hno,if_pos b5]) (by rw[hst]) (by omega)
           ·rw[dE (dW b5),bZ (gB pf.f0 (by omega) (by rw[bT];omega))];exact keep _ _ (by rw[hst,hesc,if_neg hno,if_neg b5];rfl) (by rw[hst]) (by omega)
      ·rw[bZ (fH (by omega))];exact keep _ _ (by rw[hst];unfold UT;rw[if_neg hto2]) (by rw[hst]) (by omega)
     ·have hst:iQ s (dh s) at_=(p.2.2.1,nY s p,true):=by unfold iQ;rw[hf];simp only;rw[if_neg hlone,if_neg h13]
      rw[dE (dW h13)];have hpt:gm (bP s) p.2.1 p.2.2.1=true:=gB pf.f0 (by omega) (by rw[bT];omega);simp only[MO,wB,hpt,cond_true];rcases V8 h with ⟨he,hl⟩|⟨he,hl⟩
      ·subst he;rw[dE (kZ (by omega))];exact push _ _ (by rw[hst,aK];rfl) (by rw[hst]) (by omega)
      ·rw[bZ (fH hl),bZ (Ju (by rw[ae];omega))];exact push _ _ (by rw[hst];rfl) (by rw[hst]) (by omega)
  ·rw[dE (iy e),if_neg e];exact⟨ex,h,o,rfl,by simp,by omega⟩
theorem Q8 (s:di) (hs:s.length<=10000) (w1 w6:di): ∀(N:Nat) (at_:Int) (h o:di),(s.length:Int)-at_<N->0<=at_->at_<=s.length->(o.length:Int)+h.length<=200000000*at_->
  ∃h' o',jr N at_ w1 (dM h) s (dh s) (O6 s) w6 (dM o)=
   some (.inl ((),((w1,()),(),(),()),(dM h',(),(),(s,dh s,()),O6 s,(),(w6,()),dM o',(),())))/\
   o'++h'=o++h++lH s (dh s) N at_/\(o'.length:Int)+h'.length<=200000000*s.length
 |0,at_,h,o,hN,_,_,_=>by omega
 |N+1,at_,h,o,hN,h0,h1,hh=>by
  (rewrite [jr,yJ];delta uf tZ tY tX tV iO jZ jY pM dB;rw[lH])
  by_cases e:at_<s.length
  ·have hup:= @Uh s at_;have hle:=aeJ (s:=s) e;have hsl:(stepT s (dh s) at_).2.length<=100010000:=by
    have h1:=Np s (dh s) at_;have h2:s.length*s.length<=10000*10000:=Nat.mul_le_mul hs hs;omega
   have go: ∀(g l:di) (nx:Int),l++g=o++h++(stepT s (dh s) at_).2->nx=(stepT s (dh s) at_).1->
     ∃h' o',jr N nx w1 (dM g) s (dh s) (O6 s) w6 (dM l)=
      some (.inl ((),((w1,()),(),(),()),(dM h',(),(),(s,dh s,()),O6 s,(),(w6,()),dM o',(),())))/\
      o'++h'=o++h++((stepT s (dh s) at_).2++lH s (dh s) N (stepT s (dh s) at_).1)/\(o'.length:Int)+h'.length<=200000000*s.length:=by
    intro g l nx hl hnx;subst hnx;have hlen:=congrArg List.length hl;simp only[ae]at hlen;obtain⟨h',o',r1,r2,r3⟩:=Q8 s hs w1 w6 N (stepT s (dh s) at_).1 g l (by omega) (by omega) hle (by omega);exact⟨h',o',r1,by rw[r2,hl];simp only[ag],r3⟩
   have hb1: ∀x:di,x.length<=200000000->eQ (dM (h++x)) 1=true:=fun x hx=>Ju (by rw[ae];omega);have hb2: ∀x:di,x.length<=200000000->eQ (dM (o++x)) 1=true:=fun x hx=>Ju (by rw[ae];omega);have hb4:eQ (dM (o++h)) 1=true:=Ju (by rw[ae];omega);have hb3: ∀x:di,x.length<=200000000->eQ (dM (o++h++x)) 1=true:=fun x hx=>Ju (by simp only[ae];omega);have ha1:dA .i64 at_ 1=at_+1:=dC (by omega) (by omega);have hsub: ∀a b,(sub s a b).length<=200000000:=fun a b=>by have:=IQ s a b;omega
   rw[bZ (fH (b:=bP s) e),if_pos e];cases hf:wW (dh s) at_ with
   |none=>
    have hst:stepT s (dh s) at_=(at_+1,sub s at_ (at_+1)):=by unfold stepT;rw[hf]
    rw[ad1 hf,show bW 0 0=true from rfl,cond_true];simp only[abV h0 e,wB,eP h0 e,pI,fG,cond_true,ha1,hb1 _ (hsub _ _)];exact go _ _ _ (by rw[hst,ag]) (by rw[hst])
   |some p=>
    obtain⟨pf,hpe⟩:=wX hf;have t0:=pf.t0;have t1:=pf.t1;obtain⟨m1,m2,m3⟩:=ad2 hs hf;have hpt:gm (bP s) p.2.1 p.2.2.1=true:=gB pf.f0 (by omega) (by rw[bT];omega);have hpt1:gm (bP s) (p.2.1+1) p.2.2.1=true:=gB (by omega) (by omega) (by rw[bT];omega);have ha2:dA .i64 p.2.1 1=p.2.1+1:=dC (by omega) (by omega);rw[m1,cond_false,m2,cond_true];simp only[m3];rw[atI pf.f0 (by omega),bK];simp only[ha2,hpt,hpt1,MO,wB,cond_true,hb1 _ (hsub _ _),hb2 _ (hsub _ _),hb3 _ (hsub _ _),hb4];have flush: ∀(x:di),x.length<=200000000->x=(stepT s (dh s) at_).2->p.2.2.1=(stepT s (dh s) at_).1->
     ∃h' o',(bif iq h []then jr N p.2.2.1 w1 [] s (dh s) (O6 s) w6 (dM (o++x))
      else jr N p.2.2.1 w1 [] s (dh s) (O6 s) w6 (dM (o++h++x)))=
      some (.inl ((),((w1,()),(),(),()),(dM h',(),(),(s,dh s,()),O6 s,(),(w6,()),dM o',(),())))/\
      o'++h'=o++h++((stepT s (dh s) at_).2++lH s (dh s) N (stepT s (dh s) at_).1)/\(o'.length:Int)+h'.length<=200000000*s.length:=by
     intro x hx hxe hnx;by_cases he:h=[]
     ·subst he;rw[bZ (by rfl)];exact go [] _ _ (by rw[<-hxe];simp) hnx
     ·rw[dE (by simpa [iq] using he)];exact go [] _ _ (by rw[<-hxe];simp) hnx
    by_cases hpl':lone p=true\/p.1=14
    ·have hst:stepT s (dh s) at_=(p.2.2.1,nY s p):=by unfold stepT;rw[hf];simp only;rw[if_pos hpl']
     have:=go (h++sub s p.2.1 p.2.2.1) o p.2.2.1 (by rw[hst,ag];rfl) (by rw[hst]);by_cases hlone:lone p=true
     ·simp only[hlone,cond_true];exact this
     ·have h14:p.1=14:=hpl'.resolve_left hlone;simp only[show lone p=false by simpa using hlone,h14,show bW 14 14=true from rfl,cond_true,cond_false];exact this
    ·have hlone:lone p=false:=by
      cases h:lone p with
      |true=>exact absurd (.inl h) hpl'
      |false=>rfl
     have h14:p.1≠14:=fun h=>hpl' (.inr h);simp only[hlone,dW h14,cond_false];by_cases h13:p.1=13
     ·have hes:=pf.es h13;have hst:stepT s (dh s) at_=(p.2.2.1,UU s p):=by unfold stepT;rw[hf];simp only;rw[if_neg hpl',if_pos h13]
      simp only[fV h13,dW (show p.1≠4 by omega),cond_true,cond_false];by_cases hto2:p.2.2.1=p.2.1+2
      ·have hone:sub s (p.2.1+1) p.2.2.1=[s.getD (p.2.1+1).toNat 0]:=by
        obtain⟨n,hn⟩:=Int.eq_ofNat_of_zero_le (show 0<=p.2.1+1 by omega);have hn2:n<s.length:=by omega
        rw[hn,show p.2.2.1=((n+1:Nat):Int) by omega,A8,aO hn2,List.take_succ_cons,List.take_zero,aP,List.getD_eq_getElem?_getD,List.getElem?_eq_getElem hn2];rfl
       have hne:iq (sub s (p.2.1+1) p.2.2.1) []=false:=by rw[hone];simp[iq]
       rw[hne,aG,cond_true];by_cases b5:cO s (p.2.1+1)=10
       ·have:iq (sub s (p.2.1+1) p.2.2.1) [10]=true:=by
         rw[hone];unfold cO at b5;have h10:s.getD (p.2.1+1).toNat 0=10:=UInt8.toNat_inj.1 (by show _=10;omega);rw[h10];rfl
        rw[this,aB,cond_false];exact go h o _ (by rw[hst];unfold UU;rw[if_neg (by omega),aK]) (by rw[hst])
       ·have:iq (sub s (p.2.1+1) p.2.2.1) [10]=false:=by
         rw[hone];have hq:s.getD (p.2.1+1).toNat 0≠10:=fun h=>b5 (by unfold cO;rw[h];rfl);simpa [iq] using hq
        rw[this,aG,cond_true];exact flush _ (hsub _ _) (by rw[hst];unfold UU;rw[if_pos ⟨hto2,b5⟩]) (by rw[hst])
      ·have hnil:sub s (p.2.1+1) p.2.2.1=[]:=by
        unfold sub;rw[aI];rw[aJ];omega
       rw[hnil,show(!iq ([]:di) [])=false from rfl,cond_false];exact go h o _ (by rw[hst];unfold UU;rw[if_neg (by omega),aK]) (by rw[hst])
     ·simp only[dW h13,cond_false];by_cases h4:p.1=4
      ·have hst:stepT s (dh s) at_=(p.2.2.1,sub s (p.2.1+1) (wS p)):=by unfold stepT;rw[hf];simp only;rw[if_neg hpl',if_neg h13,if_pos h4]
       have hen:p.2.1+1<=wS p/\wS p<=p.2.2.1:=by
        unfold wS;by_cases ho:p.2.2.2.2.1=true
        ·rw[if_pos ho];omega
        ·rw[if_neg ho];have:=pf.sh (by simpa using ho) (by omega);omega
       simp only[fV h4,cond_true];rw[ac2 hs pf (.inl h4),bK];simp only[gB (n:=bP s) (lo:=p.2.1+1) (hi:=wS p) (by omega) hen.1 (by rw[bT];omega),cond_true,hb2 _ (hsub _ _),hb3 _ (hsub _ _)];exact flush _ (hsub _ _) (by rw[hst]) (by rw[hst])
      ·simp only[dW h4,cond_false];by_cases h5:p.1=5
       ·have hst:stepT s (dh s) at_=(p.2.2.1,rU s (dh s) (wS p) s.length (p.2.1+1)):=by unfold stepT;rw[hf];simp only;rw[if_neg hpl',if_neg h13,if_neg h4,if_pos h5]
        have hen:p.2.1+1<=wS p/\wS p<=p.2.2.1:=by
         unfold wS;by_cases ho:p.2.2.2.2.1=true
         ·rw[if_pos ho];omega
         ·rw[if_neg ho];have:=pf.sh (by simpa using ho) (by omega);omega
        simp only[fV h5,cond_true,ac2 hs pf (.inr h5),bK];have dbl: ∀(q:di),q=o++h-> ∃ex' h' o',kY bU (wS p) false (p.2.1+1) p.2.2.1 true true (p.1,(p.2.1,(p.2.2.1,(p.2.2.2.1,(p.2.2.2.2.1,()))))) w1 [] p.1 p.2.1 p.2.2.1 p.2.2.2.1 p.2.2.2.2.1 (dM h) s (dh s) (O6 s) w6 (dM q)=
          some (.inl ((ex',()),((p.2.2.1,true,true,(p.1,(p.2.1,(p.2.2.1,(p.2.2.2.1,(p.2.2.2.2.1,()))))),()),(w1,()),(),(),()),(dM h',(p.1,p.2.1,p.2.2.1,p.2.2.2.1,p.2.2.2.2.1,()),dM h,(),(),(s,dh s,()),O6 s,(),(w6,()),dM o',(),())))/\
          o'++h'=o++h++(stepT s (dh s) at_).2:=by
         intro q hq;obtain⟨ex',h',o',r1,r2,r3⟩:=LJ s hs (to_:=wS p) (by omega) 10000000000000 (by omega) p.2.2.1 true true (p.1,(p.2.1,(p.2.2.1,(p.2.2.2.1,(p.2.2.2.2.1,()))))) w1 p.1 p.2.1 p.2.2.1 p.2.2.2.1 p.2.2.2.2.1 (dM h) w6 bU (p.2.1+1) false [] q (by unfold bU;omega) (by have:=dO (n:=s.length) (by omega);omega) (by omega) (by omega) (by rw[hq];simp only[ae,aY];omega);refine⟨ex',h',o',r1, ?_⟩;rw[r2,hq,hst,aK,LK s (wS p) bU s.length _ (by have:=dO (n:=s.length) (by omega);omega) (by omega)]
        have tail: ∀(ex':Bool) (h' o':di),o'++h'=o++h++(stepT s (dh s) at_).2->
          ∃h'' o'',(bif bW (bP (dM h')) 0 then
            bif ex' then jr N p.2.2.1 w1 [] s (dh s) (O6 s) w6 (dM o')
            else bif eQ (dM (o'++h')) 1 then jr N p.2.2.1 w1 [] s (dh s) (O6 s) w6 (dM (o'++h'))else none
           else bif eQ (dM (o'++h')) 1 then jr N p.2.2.1 w1 [] s (dh s) (O6 s) w6 (dM (o'++h'))else none)=
           some (.inl ((),((w1,()),(),(),()),(dM h'',(),(),(s,dh s,()),O6 s,(),(w6,()),dM o'',(),())))/\
           o''++h''=o++h++((stepT s (dh s) at_).2++lH s (dh s) N (stepT s (dh s) at_).1)/\(o''.length:Int)+h''.length<=200000000*s.length:=by
         intro ex' h' o' ho;have hlen:=congrArg List.length ho;simp only[ae]at hlen;have hfit:eQ (dM (o'++h')) 1=true:=Ju (by rw[ae];omega);have g1:=go [] (o'++h') p.2.2.1 (by rw[aK];exact ho) (by rw[hst]);rw[hfit,cond_true];rcases V8 h' with ⟨he,hl⟩|⟨he,hl⟩
         ·rw[bZ (fV hl)];rw[he,aK]at g1 ⊢;cases ex'<;>exact g1
         ·rw[dE (dW (by omega))];exact g1
        by_cases he:h=[]
        ·rw[bZ (by rw[he];rfl)];obtain⟨ex',h',o',r1,r2⟩:=dbl o (by rw[he,aK]);rw[r1,bK];simp only[dV,cond_true,MO,wB];exact tail ex' h' o' r2
        ·rw[dE (by simpa [iq] using he)];obtain⟨ex',h',o',r1,r2⟩:=dbl (o++h) rfl;rw[r1,bK];simp only[dV,cond_true,MO,wB];exact tail ex' h' o' r2
       ·have hst:stepT s (dh s) at_=(p.2.2.1,nY s p):=by unfold stepT;rw[hf];simp only;rw[if_neg hpl',if_neg h13,if_neg h4,if_neg h5]
        simp only[dW h5,cond_false];exact flush _ (hsub _ _) (by rw[hst];rfl) (by rw[hst])
  ·rw[dE (iy (by rw[bT];omega)),if_neg e];exact⟨h,o,rfl,by simp,by omega⟩
theorem aA6 (s:di) (hs:s.length<=10000):aim s=some (Jd s,()):=by
 have hl:=Cj s;rw[aim,aKc s (by omega),bK];simp only;have h1:=Wv (dh s) (by omega) s [] s s (dh s) [] bU 0 [] (dO (by omega)) (by omega);rw[show qC bU (dh s) (bP (dh s)) 0 s [] s s (dh s) [] []=_ from h1,bK];simp only[dV,aX];obtain⟨h',o',r1,r2,r3⟩:=Q8 s hs [] [] bU 0 [] [] (by have:=dO (n:=s.length) (by omega);omega) (by omega) (by omega) (by simp);rw[show jr bU 0 [] [] s (dh s) (OA [] 0 (dh s)) [] []=_ from r1,bK];have hm:lH s (dh s) bU 0=Jd s:=H7 s _ _ _ (by have:=dO (n:=s.length) (by omega);omega) (by omega);rw[hm,aH,aH]at r2;simp only[dV,MO,wB,fG,cond_true];rw[bZ (Ju (by rw[ae];omega)),r2];by_cases he:h'=[]
 ·rw[he,aK]at r2;rw[bZ (by rw[he];rfl),r2]
 ·rw[dE (by simpa [iq] using he)]
end
section
open Bool renaming false_eq_true → aj, and_true → ax, not_true → aB, not_false → aG, not_eq_true → bD
open Int renaming toNat_natCast → aP
open List renaming length_append → ae, length_singleton → ai, length_cons → ak, length_drop → aF, drop_eq_getElem_cons → aO
open Go.RowKit
theorem ahU {l:List Dlm} (h:l.length<=1000000):rP l=some (l,()):=by
 unfold rP wE;have:eQ l 24=true:=qQ (by omega);rw[this];rfl
theorem apO {s:List UInt8} (hs:s.length<=10000) {a:Nat} (ha:a<s.length):acL s (a:Int)=some (((rM s a:Nat):Int),()):=by
 rw[aFj s (by omega) (by omega) (by omega),aP];unfold rM;congr 2
theorem aqd {s:List UInt8} {a:Nat} (ha:a<s.length):uO (s.drop a)≠0↔nI (cO s a)=true\/uQ (s.drop a)=true:=by
 rw[byte_at ha,aO ha,Je];cases h:nI (s[a].toNat:Int)with
 |true=>simp
 |false=>
  cases h2:uQ (s[a]::s.drop (a+1))with
  |true=>simp
  |false=>simp
theorem ap5 (t:di): ∀n,(OZ t n).2≠0->ofF (t.take (OZ t n).2)=(OZ t n).1
 |0,h=>absurd rfl h
 |n+1,h=>by
  rw[OZ]at h ⊢;split
  ·rfl
  ·rename_i h1
   rw[if_neg h1]at h;exact ap5 t n h
theorem aww {s:List UInt8} (hs:s.length<=10000) {a:Nat} (ha:a<s.length):aib s (a:Int)=some (jV s a,()):=by
 have hin:gV s (a:Int)=true:=eP (by omega) (by omega);obtain⟨k,h1,h2,h3⟩:=aEA (lV s a);have hz:=aqd ha
 (rewrite [aib];delta XR;rw[aJ9 (by omega) ha,bK,bZ hin,h1,bK])
 simp only[h2,hin,cond_true,aq2 (show a<=s.length by omega),bK,awT (show s.length<1000000 by omega) (show a<=s.length by omega)];by_cases hb:uO (s.drop a)≠0
 ·have hpl:jV s a=(1,(a:Int),((a+uO (s.drop a):Nat):Int),false,()):=by unfold jV;rw[if_pos hb]
  rw[hpl];rcases hz.1 hb with h|h
  ·rw[h];rfl
  ·rw[h];cases nI (cO s (a:Int))<;>rfl
 ·have h4:nI (cO s (a:Int))=false:=by
   cases h:nI (cO s (a:Int))with
   |false=>rfl
   |true=>exact absurd (hz.2 (.inl h)) hb
  have h5:uQ (s.drop a)=false:=by
   cases h:uQ (s.drop a)with
   |false=>rfl
   |true=>exact absurd (hz.2 (.inr h)) hb
  rw[h4,h5,cond_false,cond_false];unfold jV;rw[if_neg hb];by_cases h10:cO s (a:Int)=10
  ·rw[bZ (fV h10),if_pos h10,dC (by omega) (by omega)];rfl
  ·rw[dE (dW h10),if_neg h10];by_cases h35:cO s (a:Int)=35
   ·rw[bZ (fV h35),if_pos h35,atE (by omega) (by omega),bK]
   ·rw[dE (dW h35),if_neg h35];have ho:=(O7 (s.drop a)).1;rw[aF]at ho;by_cases hop:(BR (s.drop a)).2≠0
    ·rw[bZ (fH (by omega)),if_pos hop];rw[dC (by omega) (by omega)];rfl
    ·rw[dE (kZ (by omega)),if_neg hop,auh (by omega) (by omega),bK];by_cases hn:Az (s.drop a)≠0
     ·rw[bZ (fH (by omega)),if_pos hn,bK]
     ·rw[dE (kZ (by omega)),if_neg hn,apO hs ha,bK];have hw:=UD (s:=s) (a:=a) (by omega);have hc:=Q5 (s:=s) (a:=a) (b:=rM s a);obtain⟨t,t1,t2⟩:=aln (XB s a (rM s a)) (by omega);simp only;rw[bZ (gB (by omega) (by omega) (by rw[bT];omega)),abx,t1,bK];simp only;rw[t2];rfl
theorem aqb {s:List UInt8} (hs:s.length<=10000) {a:Nat} (ha:a<s.length) {x:Lxg} (hl:x.2.1.length<=100000):
  aic (sub s (jV s a).2.1 (jV s a).2.2.1) (jV s a).1 (x.1,(x.2.1,(x.2.2.1,())))=some (lM s a x,()):=by
 rw[aic];simp only[ahU (show x.2.1.length<=1000000 by omega),bK];unfold jV lM;by_cases hb:uO (s.drop a)≠0
 ·rw[if_pos hb,if_pos hb];rfl
 ·rw[if_neg hb,if_neg hb];by_cases h10:cO s (a:Int)=10
  ·have hlt:iG 0 (bP x.2.1)=decide (0<x.2.1.length):=by
    unfold iG bP;rw[decide_eq_decide];omega
   rw[if_pos h10,if_pos h10,<-hlt];rfl
  ·rw[if_neg h10,if_neg h10];by_cases h35:cO s (a:Int)=35
   ·rw[if_pos h35,if_pos h35];rfl
   ·rw[if_neg h35,if_neg h35];by_cases hop:(BR (s.drop a)).2≠0
    ·rw[if_pos hop,if_pos hop];simp only;rw[show bW 4 1=false from rfl,cond_false,show bW 4 2=false from rfl,cond_false,show bW 4 4=true from rfl,cond_true,A8,auj,bK];have:ofF ((s.drop a).take (BR (s.drop a)).2)=(BR (s.drop a)).1:=ap5 _ _ hop;rw[this];simp only;by_cases h4:(BR (s.drop a)).1=4
     ·rw[bZ (fV (by omega)),if_pos (.inl h4)]
     ·rw[dE (dW (by omega))];by_cases h5:(BR (s.drop a)).1=5
      ·rw[bZ (fV (by omega)),if_pos (.inr h5)]
      ·rw[dE (dW (by omega)),if_neg (by omega)]
    ·rw[if_neg hop,if_neg hop];by_cases hn:Az (s.drop a)≠0
     ·rw[if_pos hn,if_pos hn];rfl
     ·rw[if_neg hn,if_neg hn];have hc:=Q5 (s:=s) (a:=a) (b:=rM s a);simp only;rw[show bW 6 1=false from rfl,cond_false,show bW 6 2=false from rfl,cond_false,show bW 6 4=false from rfl,cond_false,show bW 6 6=true from rfl,cond_true,abx];by_cases h0:x.1=0
      ·rw[fV h0,if_pos h0];rfl
      ·have h5:bW x.1 5=decide (x.1=5):=rfl;have hfit: ∀y,eQ (cu x.2.1 [y]) 24=true:=fun y=>qQ (by unfold cu;simp only[ae,ai];omega);rw[dW h0,aG,cond_true,if_neg h0,aA6 _ (by omega),bK];simp only[pI,fG,iK,hfit,cond_true,ax];rfl
theorem aBa {s:List UInt8} (hs:s.length<=10000) {a:Nat} (ha:a<s.length) (x:Lxg) (hp:x.2.2.1=true->x.2.1≠[]) (hl:x.2.1.length<=100000):
  ah7 s (a:Int) x=some ((lZ s a x).1,((lZ s a x).2,())):=by
 obtain⟨aw,pd,bd,u⟩:=x;cases u;simp only at hp hl
 (rewrite [ah7];delta XQ XP;rw[dE (kZ (by omega)),dE (Sr (by rw[bT];omega))])
 unfold lZ;cases bd with
 |true=>
  obtain⟨d,r,rfl⟩: ∃d r,pd=d::r:=by
   cases pd with
   |nil=>exact absurd rfl (hp rfl)
   |cons d r=>exact⟨d,r,rfl⟩
  simp only[cond_true,if_true];rw[bZ (fH (by rw[bT];simp only[ak];omega)),aso];simp only;rw[bZ (eP (by omega) (by simp only[ak];omega)),show fZ (d::r) ([],(false,())) 0=d from rfl,aDh (by omega) d (by omega),bK];simp only[List.headD_cons];by_cases hh:(C9 s d.1 d.2.1 a).2=true
  rotate_left
  ·rw[bD]at hh;simp only[hh,aj,if_false,aG,cond_true,fG,ik,iK,ax,bK]
  ·have hsb:sub (d::r) 1 (bP (d::r))=r:=by simp[sub,bT]
   have hlt:iG 0 (bP r)=decide (1<(d::r).length):=by
    unfold iG bP;rw[decide_eq_decide,ak];omega
   have hpt:gm (bP (d::r)) 1 (bP (d::r))=true:=gB (by omega) (by rw[bT];simp only[ak];omega) (by omega);rw[ak]at hl;simp only[hh,if_true,aB,cond_false,hpt,hsb,cond_true,ahU (show r.length<=1000000 by omega),bK,fG,iK,ax,hlt];rfl
 |false=>
  simp only[cond_false,aj,if_false];have ht:=EN hs ha (aw,(pd,(false,())));have hs1:lZ s a (aw,(pd,(false,())))=(jV s a,lM s a (aw,(pd,(false,())))):=by unfold lZ;rw[if_neg (by simp)]
  rw[hs1]at ht;simp only at ht;rw[aww hs ha,bK];simp only;have hpt:gm (bP s) (jV s a).2.1 (jV s a).2.2.1=true:=gB (by omega) (by omega) (by rw[bT];omega);rw[hpt,cond_true,aqb hs ha (x:=(aw,(pd,(false,())))) hl,bK];simp only[pI,fG,iK,ik,cond_true,ax]
theorem VY {s:List UInt8} (hs:s.length<=10000) (v13:Int) (v14:Bool): ∀(N a:Nat) (l:List Tok) (x:Lxg) (t:Tok),s.length-a<N->a<=s.length->OkX x->x.2.1.length<=a->l.length<=a->
  rY N (a:Int) t.1 t.2.1 t.2.2.1 t.2.2.2.1 x.1 x.2.1 x.2.2.1 s l x.1 x.2.1 x.2.2.1 v13 v14=
   some (.inl ((),((),(),(),()),((s,()),(),(rW s N a l x).1,((rW s N a l x).2.1,(rW s N a l x).2.2.1,(rW s N a l x).2.2.2.1,()),(),(v13,v14,()),())))
 |0,a,l,x,t,h,_,_,_,_=>by omega
 |N+1,a,l,x,t,h,ha,hx,hp,hl=>by
  rw[rY,CU,rW];by_cases e:a<s.length
  ·have hto:=EN hs e x;have hok:=Ui s a hx;have hx':(x.1,(x.2.1,(x.2.2.1,())))=x:=rfl;rw[bZ (fH (by rw[bT];omega)),hx',aBa hs e x hx (by omega),bK,if_pos e];have hfit: ∀y,eQ (cu l [y]) 32=true:=fun y=>qQ (by unfold cu;simp only[ae,ai];omega);simp only[hfit,fG,iK,ik,cond_true,ax];obtain⟨b,hb⟩: ∃b:Nat,(lZ s a x).1.2.2.1=(b:Int):=⟨(lZ s a x).1.2.2.1.toNat,by omega⟩;have ih:=VY hs v13 v14 N b (l++[(lZ s a x).1]) (lZ s a x).2 (lZ s a x).1 (by omega) (by omega) hok.1 (by omega) (by simp only[ae,ai];omega);rw[hb]at ih ⊢;rw[aP,<-ih];rw[<-hb];rfl
  ·rw[dE (iy (by rw[bT];omega)),if_neg e]
theorem aFl {s:List UInt8} (hs:s.length<=10000):axf s=some ((kH s).1,((kH s).2,())):=by
 have h:=VY hs 0 false bU 0 [] (0,[],false,()) (0,0,0,false,()) (dO (by omega)) (by omega) (fun h=>by cases h) (by simp) (by simp);have hm:rW s bU 0 [] (0,[],false,())=kH s:=Md hs _ _ _ _ _ (by have:=dO (n:=s.length) (by omega);omega) (by omega);rw[axf,show rY bU 0 0 0 0 false 0 [] false s [] 0 [] false 0 false=_ from h,bK,hm];rfl
end
section
open Bool renaming and_true → ax
open Int renaming toNat_natCast → aP
open List renaming length_append → ae, length_singleton → ai, length_map → ay, length_take → aJ, getElem_mem → aQ, take_of_length_le → bu
open Go.RowKit
theorem JJ {s:List UInt8} (hs:s.length<=10000) (l:List Tok) (hl:l.length<=10000) (hok: ∀t∈l,OkT s t): ∀(N k:Nat),l.length-k<N->k<=l.length->
  D7 N s l (bP l) (k:Int) (iw s (l.take k))=some (.inl ((),(iw s l,())))
 |0,k,h,_=>by omega
 |N+1,k,h,hk=>by
  (rewrite [D7,abn];delta AZ uK eH)
  by_cases e:k<l.length
  ·have hg:fZ l (0,(0,(0,(false,())))) (k:Int)=l[k]:=by
    unfold fZ;rw[aP,List.getD_eq_getElem?_getD,List.getElem?_eq_getElem e];rfl
   have hin:gV l (k:Int)=true:=eP (by omega) (by omega);obtain⟨o1,o2,o3⟩:=hok _ (aQ e);have hpt:gm (bP s) l[k].2.1 l[k].2.2.1=true:=gB o1 (by omega) (by rw[bT];omega);have hlen:(iw s (l.take k)).length<=10000:=by
    unfold iw;rw[ay];have:=List.length_filter_le Yb (l.take k);rw[aJ]at this;omega
   have hfit: ∀y,eQ (cu (iw s (l.take k)) [y]) 40=true:=fun y=>qQ (by unfold cu;simp only[ae,ai];omega);have ih:=JJ hs l hl hok N (k+1) (by omega) (by omega);have hts:l.take (k+1)=l.take k++[l[k]]:=by rw[List.take_add_one,List.getElem?_eq_getElem e];rfl
   have hadd:dA .i64 (k:Int) 1=((k+1:Nat):Int):=by rw[dC (by omega) (by omega)];omega
   have t1:iG l[k].2.1 0=false:=kZ (by omega);have t2:iG l[k].2.2.1 l[k].2.1=false:=kZ (by omega);have t3:iG (bP s) l[k].2.2.1=false:=kZ (by rw[bT];omega);have htx:ah3 s (l[k].1,(l[k].2.1,(l[k].2.2.1,(l[k].2.2.2.1,()))))=some (sub s l[k].2.1 l[k].2.2.1,()):=by
    rw[ah3];simp only[t1,t2,t3,hpt,cond_true,cond_false]
   have yes:Yb l[k]=true->D7 N s l (bP l) ((k+1:Nat):Int) (cu (iw s (l.take k)) [(l[k].1,(sub s l[k].2.1 l[k].2.2.1,(l[k].2.1,(l[k].2.2.1,()))))])=some (.inl ((),(iw s l,()))):=fun hy=>by
    rw[<-ih];congr 1;unfold iw;rw[hts,List.filter_append,List.map_append,List.filter_cons_of_pos hy];rfl
   have no:Yb l[k]=false->D7 N s l (bP l) ((k+1:Nat):Int) (iw s (l.take k))=some (.inl ((),(iw s l,()))):=fun hy=>by
    rw[<-ih];congr 1;unfold iw;rw[hts,List.filter_append,List.filter_cons_of_neg (by rw[hy];simp)];simp
   rw[bZ (fH (by rw[bT];omega)),hin,cond_true];simp only[hg,t1,t2,t3,cond_false,hadd,htx,bK,fG,pI,iK,ax,cond_true,hfit];unfold Yb at yes no;by_cases h4:l[k].1=4
   ·simp only[fV h4,cond_true];exact yes (by simp[h4])
   ·by_cases h5:l[k].1=5
    ·simp only[dW h4,fV h5,cond_true,cond_false];exact yes (by simp[h5])
    ·by_cases h6:l[k].1=6
     ·simp only[dW h4,dW h5,fV h6,cond_true,cond_false];exact yes (by simp[h6])
     ·by_cases h2:l[k].1=2
      ·simp only[dW h4,dW h5,dW h6,fV h2,cond_true,cond_false];exact yes (by simp[h2])
      ·simp only[dW h4,dW h5,dW h6,dW h2,cond_true,cond_false];exact no (by simp[h2,h4,h5,h6])
  ·rw[dE (iy (by rw[bT];omega)),bu (by omega)]
theorem apY {s:List UInt8} (hs:s.length<=10000):axg s (kH s).1=some (iw s (kH s).1,()):=by
 obtain⟨h1,h2,h3⟩:=JK hs;have h:=JJ hs (kH s).1 (by omega) h1 bU 0 (dO (by omega)) (by omega);rw[axg,show D7 bU s (kH s).1 (bP (kH s).1) 0 []=_ from h,bK];rfl
end
section
open List renaming length_append → ae, length_singleton → ai
open Go.RowKit
def G8 (l:List Tok):Tok:=l.getLastD (0,(0,(0,(false,()))))
theorem adD (r:List Tok) (t:Tok):G8 (r++[t])=t:=by simp[G8]
theorem adE (r:List Tok) (t:Tok) (h:r.length<1000000):iG 0 (bP (r++[t]))=true/\gV (r++[t]) (eG .i64 (bP (r++[t])) 1)=true/\fZ (r++[t]) (0,(0,(0,(false,())))) (eG .i64 (bP (r++[t])) 1)=t:=by
 have hL:eG .i64 (bP (r++[t])) 1=(r.length:Int):=by
  rw[bT,iJ (by simp only[ae,ai];omega) (by simp only[ae,ai];omega)];simp
 rw[hL];exact⟨fH (by rw[bT];simp only[ae,ai];omega),eP (by omega) (by simp only[ae,ai];omega),Ag rfl⟩
end
end Go.Proofs.YtihafdllichkeaaGreatDoor
